/- Texts joined by program: lemmas. -/
import Derived.Test.YtnfdimfepbbbpaaGreatDoorJFilePrints2
import Derived.Test.YtnfdimfepbbbpaaGreatDoorProg
import Derived.Tactics
import Derived.Tactics2
import Derived.Defers
import Derived.Recover
import Derived.Laws.Pointers
import Derived.Lib.SlicesCompact
import Derived.Lib.RowBridge
import Derived.Shelf.Strings.Builder1
import Derived.Shelf.Strings.OnBuilder
import Derived.Ground.NamesProg
import Derived.Ground.Names2Prog
import Derived.Shelf.Slices.Clone
import Derived.Shelf.Sort.Plain
import Derived.Shelf.Slices.In.SortNone
import Derived.Shelf.SlIterI.Nil
import Derived.Ground.GgzProg
set_option linter.unusedSimpArgs false
set_option linter.unusedVariables false
set_option maxRecDepth 100000
set_option maxHeartbeats 8000000
open Array renaming getElem?_eq_some_iff->cJ,length_toList->cw
open Bool renaming and_eq_true->aR,not_eq_true'->ak0,or_eq_true->dQ
open ByteArray renaming data_append->akK
open Classical renaming byContradiction->bL,not_not->ajV
open Go renaming World->aa,Value->af,TypeId->ax,Program->ay,FuncId->bA
open Go.Builtin renaming append_->ajP
open Go.Extern.AbiNoEscape renaming same->aoi
open Go.Instr renaming lookup->dK
open Go.Lib renaming join->ajX
open Go.Oper renaming upon_value->akk
open Go.Proofs.Tryz renaming prog->aq
open Go.Result renaming andThen->bO,andThen_ok->bV
open Go.Utf8 renaming decode->aH
open Go.Value renaming agg->alA,int->bY,pointer->cx
open Go.World renaming shape?->anR
open Int renaming le_refl->bN,le_total->ak8,max_eq_left->alC,max_eq_right->alB,min_eq_left->alD,min_eq_right->alE,toNat_natCast->cH,toNat_of_nonneg->cC
open List renaming all_cons->amh,all_eq_true->aU,append_assoc->bl,append_nil->aZ,countP_append->amz,countP_cons->akI,countP_eq_zero->anI,filter_append->alK,filter_cons->anJ,filter_cons_of_neg->anN,filter_cons_of_pos->anM,findIdx_eq->anP,findIdx_getElem->akJ,findIdx_lt_length_of_exists->amB,flatMap_cons->cE,flatten_append->cF,flatten_cons->ak9,flatten_nil->alF,foldl_append->dH,foldl_cons->dm,foldl_nil->anE,getD_eq_getElem?_getD->aJ,getElem?_append->ami,getElem?_append_left->cO,getElem?_append_right->cP,getElem?_eq_getElem->aY,getElem?_eq_none->dF,getElem?_eq_some_iff->bW,getElem?_map->b9,getElem?_set->ak7,getElem?_take->bK,getElem?_zip_eq_some->ak6,getElem_mem->cI,getElem_of_mem->ajY,length_append->aN,length_cons->bf,length_drop->bu,length_filter_le->akW,length_map->bp,length_nil->bP,length_set->bR,length_singleton->cz,length_take->aW,map->amx,map_append->cg,map_congr_left->ajQ,map_cons->bn,map_map->cV,mem_append->aK,mem_append_left->aQ,mem_append_right->bq,mem_cons->aD,mem_cons_of_mem->aI,mem_cons_self->aE,mem_filter->cU,mem_flatMap->dG,mem_iff_getElem?->ajO,mem_map->aV,mem_of_getElem?->bJ,mem_of_mem_drop->dP,mem_of_mem_take->cQ,mem_or_eq_of_mem_set->amo,mem_range->b5,mem_singleton->av,nil_append->cm,nodup_append->cY,nodup_cons->ajZ,nodup_iff_pairwise_ne->alL,nodup_nil->ajW,not_mem_nil->ako,not_of_lt_findIdx->anQ,pairwise_iff_getElem->dJ,perm_append_comm->anD,range->bH,range_succ->ala,replicate->cy,set_append->anO,take_add_one->alI,take_append_drop->dB,take_length->bU,take_of_length_le->cM,take_succ_eq_append_getElem->alG
open List.Nodup renaming length_le_of_subset->anF
open List.Sublist renaming map->aoh
open List.cons renaming inj->akn
open Nat renaming add_mod_right->anK,beq->aP,blt->bw,blt_eq->bZ,le_of_not_lt->dL,le_refl->az,le_succ_of_le->alJ,le_trans->bg,lt_of_lt_of_le->bh,lt_succ_self->cX,mod_add_mod->anL,mod_eq_of_lt->ak3,mod_lt->ajN,sub_self->di,succ_le_succ->amb,succ_mul->bT,zero_add->cG,zero_le->bF
open Option renaming getD_some->cK,isSome_iff_exists->bG,map_eq_some_iff->aX
open Option.some renaming injEq->bM
open Prod.mk renaming injEq->cn
open Go.Proofs.Tryz
namespace Go.Proofs.YtnfdimfepbbbpaaGreatDoor
open Go.RowKit
inductive Cp where
 |int
 |bool
 |str
 |own (j:Nat)
 |mp (j:Nat)
 |ptr (j off:Nat)
 |uk (f:bA) (ko:List (Nat×Nat))
 |Vu
 |Vv
def CpV:Cp->Type
 | .int=>Int
 | .bool=>Bool
 | .str=>ByteArray
 |_=>Unit
def Cp.sc:(c:Cp)->CpV c->Sc
 | .int,n=>.v (.int .i64 n)
 | .bool,b=>.b (.raw b)
 | .str,s=>.v (.string s)
 | .own j,_=>.own j
 | .mp j,_=>.mp j
 | .ptr j off,_=>.ptr j off
 | .uk f ko,_=>.uk f ko
 | .Vu,_=>.v (.pointer none)
 | .Vv,_=>.v (.slice none 0 0)
def Cp.below (k:Nat):Cp->Bool
 | .own j=>bw j k
 | .mp j=>bw j k
 | .ptr j _=>bw j k
 | .uk _ ko=>ko.all λc=>bw c.1 k
 |_=>true
def FL:List Cp->Type
 |[]=>Unit
 |c::cs=>CpV c×FL cs
def pI:(cs:List Cp)->FL cs->List Sc
 |[],_=>[]
 |c::cs,x=>c.sc x.1::pI cs x.2
inductive Pc where
 |box (t:ax) (cs:List Cp)
 |row (e:ax) (t:Ty)
 |map (k:Kc) (t:Ty)
 |rd (t:Ty)
 |sJ (e:ax)
def Pc.ZI:Pc->Bool
 | .rd _=>true
 |_=>false
def GR (l:List Pc)(j:Nat):Bool:=match l[j]? with
 |some s=>s.ZI
 |none=>false
def PcV:Pc->Type
 | .box _ cs=>FL cs
 | .row _ t=>List (El t)
 | .map k t=>iU k (El t)
 | .rd t=>List (El t)
 | .sJ _=>ByteArray
def Pc.r2:(s:Pc)->PcV s->R2
 | .box t cs,x=>.box t (pI cs x)
 | .row e t,l=>.row e t l
 | .map k t,m=>.map k t m
 | .rd t,l=>.ar t l
 | .sJ e,l=>.ext (.sJ e l)
def Pc.below (k:Nat):Pc->Bool
 | .box _ cs=>cs.all (Cp.below k)
 |_=>true
def Cu:List Pc->Type
 |[]=>Unit
 |s::l=>PcV s×Cu l
def pY:Nat->(l:List Pc)->Cu l->List (Nat×Option R2)
 |_,[],_=>[]
 |i,s::l,x=>(i,some (s.r2 x.1))::pY (i+1) l x.2
structure yC where
 sh:List Pc
 ar:List Cp
 wN:List Pc
 rs:List Cp
 kp:Nat
 ag:Bool
 ga:List (Option Nat)
def yC.X (m:yC):Type:=Cu m.sh×FL m.ar
def yC.Y (m:yC):Type:=Cu m.wN×FL m.rs
def syl (ag:Bool)(cs:List Sc):List Sy:=match ag with
 |false=>cs.map Sy.one
 |true=>[.agg cs]
def MZ:List (Option Nat)->List Sc->List Sy
 |none::g,c::cs=>.one c::MZ g cs
 |none::_,[]=>[]
 |some k::g,cs=>.agg (cs.take k)::MZ g (cs.drop k)
 |[],cs=>cs.map Sy.one
def yC.rsy (m:yC)(y:m.Y):List Sy:=syl m.ag (pI m.rs y.2)
def jw.ZJ (o:jw)(A:jA)(kp:Nat):jw:={o with pF:=λj=>j<kp,pA:=A,kp:=kp}
def Vw (o:jw)(A:jA)(m:yC)(y:m.Y)(e:Ending)(w':aa):Prop:=
 ∃v,e= .returned v/\∃A' S',kZ (· <m.kp) A A'/\nM (o.ZJ A m.kp) w' S' (ji A' (ja (λ_=>none) (pY 0 m.wN y.1)))/\v=NP ((m.rsy y).map (Sy.den A'))
def nE (P:ay)(f:bA)(m:yC)(wo:m.X->Prop)(fx:m.X->m.Y):Prop:=
 ∀(o:jw) (A:jA) (x:m.X),nM (o.ZJ A m.kp) o.w o.S (ji A (ja (λ_=>none) (pY 0 m.sh x.1)))->(∀j y,ja (λ_=>none) (pY 0 m.sh x.1) j=some y->zQ (o.ZJ A m.kp) A j y)->wo x->
  Calls P f ((MZ m.ga (pI m.ar x.2)).map (Sy.den A)).toArray o.w (Vw o A m (fx x))
section
variable {P:ay}{o:jw}{n:Nat}{A A':jA}{S S':iD}{F G:Nat->Prop}{s:Nat->Option E2}{r:Nat->Option R2}{a:Act}{w w':aa}{T:List (kI P)}
theorem s9:∀ {l:List Pc} {i:Nat} {x:Cu l} {j:Nat} {z:Option R2},(j,z)∈pY i l x->i<=j/\j<i+l.length
 |[],_,_,_,_,h=>by cases h
 |s::l,i,x,j,z,h=>by
  rcases aD.1 h with e|h
  .cases e;simp
  have:=s9 h;simp only[bf];omega
theorem Bh:∀ {l:List Pc} {i:Nat} {x:Cu l} {j:Nat},i<=j->j<i+l.length->∃s v,s∈l/\(j,some (Pc.r2 s v))∈pY i l x
 |[],i,_,j,h1,h2=>by simp only[bP] at h2;omega
 |s::l,i,x,j,h1,h2=>by
  by_cases q:j=i
  .subst q;exact⟨s,x.1,aE,aE⟩
  simp only[bf] at h2;obtain⟨s',v,k1,k2⟩:=Bh (x:=x.2) (show i+1<=j by omega) (by omega);exact⟨s',v,aI _ k1,aI _ k2⟩
theorem Eb:∀ {l:List Pc} {i:Nat} {x:Cu l} {j:Nat} {z:Option R2},(j,z)∈pY i l x->∃s v,s∈l/\z=some (Pc.r2 s v)
 |[],_,_,_,_,h=>by cases h
 |s::l,i,x,j,z,h=>by
  rcases aD.1 h with e|h
  .cases e;exact⟨s,x.1,aE,rfl⟩
  obtain⟨s',v,k1,k2⟩:=Eb h;exact⟨s',v,aI _ k1,k2⟩
theorem pR:∀ {re:List (Nat×Option R2)} {j:Nat} {x:R2},ja (λ_=>none) re j=some x->(j,some x)∈re:=by
 intro re
 induction re with
 |nil=>intro j x h;cases h
 |cons p re ih=>
  intro j x h;have h:sC (ja (λ_=>none) re) p.1 p.2 j=some x:=h
  by_cases q:p.1=j
  .subst q;rw[lN] at h;rw[<-h];exact aE
  rw[mP q] at h;exact aI _ (ih h)
theorem GU:∀ {l:List Pc} {i:Nat} {x:Cu l} {j:Nat} {z:Option R2} {r0:Nat->Option R2},(j,z)∈pY i l x->ja r0 (pY i l x) j=z
 |[],_,_,_,_,_,h=>by cases h
 |s::l,i,x,j,z,r0,h=>by
  show sC (ja r0 (pY (i+1) l x.2)) i (some (s.r2 x.1)) j=z;rcases aD.1 h with e|h
  .cases e;rw[lN]
  have:=s9 h;rw[mP (by omega)];exact GU h
theorem uW {k:Nat}:∀ {cs:List Cp} {x:FL cs},cs.all (Cp.below k)=true->∀c∈pI cs x,c.all (· <k)/\∀A,c.ku A
 |[],_,_,_,h=>by cases h
 |c::cs,x,h,d,hd=>by
  rw[amh,aR] at h;rcases aD.1 hd with rfl|hd
  .cases c with
   |uk f ko=>exact⟨λc hc=>by have:=aU.1 h.1 c hc;simpa[bZ] using this,λ_=>trivial⟩
   |own j=>exact⟨by have:=h.1;show j<k;simpa[Cp.below,bZ] using this,λ_=>trivial⟩
   |mp j=>exact⟨by have:=h.1;show j<k;simpa[Cp.below,bZ] using this,λ_=>trivial⟩
   |ptr j off=>exact⟨by have:=h.1;show j<k;simpa[Cp.below,bZ] using this,λ_=>trivial⟩
   |_=>exact⟨tv,λ_=>trivial⟩
  exact uW h.2 d hd
theorem Pc.Vx {k:Nat}{s:Pc}{v:PcV s}(h:s.below k=true):(s.r2 v).all (· <k)/\(∀A,(s.r2 v).ku A)/\sB (s.r2 v)=s.ZI:=by
 cases s with
 |box t cs=>exact⟨λc hc=>(uW h c hc).1,λA c hc=>(uW h c hc).2 A,rfl⟩
 |row e t=>exact⟨tv,λ_=>trivial,rfl⟩
 |map k t=>exact⟨tv,λ_=>trivial,rfl⟩
 |rd t=>exact⟨tv,λ_=>trivial,rfl⟩
 |sJ e=>exact⟨tv,λ_=>trivial,rfl⟩
theorem nM.gv {f:Nat->Option Rs}{kp:Nat}(h:nM o w S f):nM (o.ZJ A kp) w S f:=⟨h.sj,h.src,h.nN,h.ok,h.own,h.apart⟩
theorem nM.aia {f:Nat->Option Rs}{kp:Nat}(h:nM (o.ZJ A kp) w S f):nM o w S f:=⟨h.sj,h.src,h.nN,h.ok,h.own,h.apart⟩
theorem I8:∀ {g:List (Option Nat)} {cs:List Sc},(MZ g cs).length<=g.length+cs.length
 |none::g,c::cs=>by have:=I8 (g:=g) (cs:=cs);simp only[MZ,bf];omega
 |none::_,[]=>by simp[MZ]
 |some k::g,cs=>by have:=I8 (g:=g) (cs:=cs.drop k);simp only[MZ,bf,bu] at*;omega
 |[],cs=>by simp[MZ]
theorem I9 {p:Sc->Prop}:∀ {g:List (Option Nat)} {cs:List Sc},(∀c∈cs,p c)->∀y∈MZ g cs,(∃c,y= .one c/\p c)\/∃l,y= .agg l/\∀c∈l,p c
 |none::g,c::cs,h,y,hy=>by
  rcases aD.1 hy with rfl|hy
  .exact .inl ⟨c,rfl,h _ aE⟩
  exact I9 (g:=g) (λc hc=>h c (aI _ hc)) y hy
 |none::_,[],_,y,hy=>by cases hy
 |some k::g,cs,h,y,hy=>by
  rcases aD.1 hy with rfl|hy
  .exact .inr ⟨_,rfl,λc hc=>h c (cQ hc)⟩
  exact I9 (g:=g) (λc hc=>h c (dP hc)) y hy
 |[],cs,h,y,hy=>by
  obtain⟨c,hc,rfl⟩:=aV.1 hy;exact .inl ⟨c,rfl,h c hc⟩
def stM (m:yC)(x:m.X):mM:=⟨yN 0 (MZ m.ga (pI m.ar x.2)),pY 0 m.sh x.1,m.sh.length⟩
theorem m9 {f:bA}(fn:Func)(n:Nat)(T:List (kI P))(m:yC){wo:m.X->Prop}{fx:m.X->m.Y}(hf:P.funcs[f]?=some fn)
  (k:∀(o:jw) (A:jA) (x:m.X),wo x->∀a w,lE (o.ZJ A m.kp) n (stM m x) a w->At pl P T (fn.body.getD .skip) (bodyPost P fn (Vw o A m (fx x))) [.run []] a w)
  (hb:fn.body.isSome=true:=by kernel_rfl) (hn:fn.ntmps=n:=by kernel_rfl) (hl:decide (m.ga.length+m.ar.length<=n)=true:=by kernel_rfl)
  (hw:(decide (m.kp<=m.sh.length) && (m.ar.all (Cp.below m.sh.length) && m.sh.all (Pc.below m.sh.length)))=true:=by kernel_rfl):nE P f m wo fx:=by
 intro o A x adx har IF;simp only[aR,decide_eq_true_eq] at hw;have⟨ZK,NQ,M0⟩:=hw;have hlen:(pI m.ar x.2).length=m.ar.length:=by
  have:∀(cs:List Cp) (x:FL cs),(pI cs x).length=cs.length:=by
   intro cs
   induction cs with
   |nil=>intro _;rfl
   |cons c cs ih=>intro x;simp[pI,ih]
  exact this _ _
 refine enter fn n hf (λa ha=>?_) hb hn (by rw[bp];have h1:=I8 (g:=m.ga) (cs:=pI m.ar x.2);have h2:=aA hl;rw[hlen] at h1;exact bB (by omega));have qt:∀t e,rI (stM m x) t=some e->e.ch=[]/\∃y,(MZ m.ga (pI m.ar x.2))[t]?=some y/\e=⟨[],y⟩:=λt e he=>by
  obtain⟨_,y,q1,q2⟩:=sK he;have q1:(MZ m.ga (pI m.ar x.2))[t-0]?=some y:=q1;rw[Nat.sub_zero] at q1;exact⟨by rw[q2],y,q1,q2⟩
 have sZ:lE (o.ZJ A m.kp) n (stM m x) a o.w:=by
  refine⟨⟨A,o.S,ha.1,ha.2.1,λt e he=>?_,λt e he _=>?_,λj y hj=>?_,adx,har,⟨λj q=>bh (show j<m.kp from q) ZK,kZ.refl _ _⟩⟩,λt e he=>(qt t e he).1,λ_ q=>q⟩
  .obtain⟨_,c,q1,rfl⟩:=qt t e he;have MY:=(bW.1 q1).1;refine ha.2.2 ⟨t,[],Sy.den A c⟩ (aV.2 ⟨(t,Sy.den A c),?_,rfl⟩);refine ajO.2 ⟨t,?_⟩;rw[ak6];exact⟨by simp[MY],by rw[b9,q1];rfl⟩
  .obtain⟨_,c,q1,rfl⟩:=qt t e he;rcases I9 (p:=λc=>c.all (· <m.sh.length)/\∀A,c.ku A) (uW NQ) c (bJ q1) with⟨c',rfl,h1,h2⟩|⟨l,rfl,h1⟩
   .exact⟨h1,h2 A⟩
   exact⟨λc hc=>(h1 c hc).1,λc hc=>(h1 c hc).2 A⟩
  have hm:=pR hj;have hk:=s9 hm;obtain⟨s,v,q1,q2⟩:=Eb hm;cases q2;have:=Pc.Vx (v:=v) (aU.1 M0 s q1);exact⟨by have:=hk.2;rwa[cG] at this,this.1,this.2.1 A⟩
 have:=(k o A x IF a o.w sZ).get;have this:(sub (fn.body.getD .skip) []).qC pl P (post pl P (fn.body.getD .skip) (bodyPost P fn (Vw o A m (fx x))) []) a o.w:=this;exact D3.1 this
def Vy:List ResultVar->List Sc->List (Nat×Option E2)
 | .tmp t::l,c::cs=>(t,some ⟨[],.one c⟩)::Vy l cs
 |_,_=>[]
def ZL (ag:Bool)(l:List ResultVar)(cs:List Sc):List (Nat×Option E2):=match ag,l with
 |true,.cell t _::_=>[(t,some ⟨[],.one (.ptr 0 0)⟩)]
 |_,l=>Vy l cs
def Lf (fn:Func)(m:yC)(y:m.Y):mM:=⟨ZL m.ag fn.results.toList (pI m.rs y.2),pY 0 m.wN y.1,m.wN.length⟩
theorem vK {mo:Mode}{fn:Func}{m:yC}{fx:m.Y}{B:Code}{st:List It}{σ:mM}(y:m.Y)(ρ:List (Nat×Option Nat))(h:lE (o.ZJ A m.kp) n σ a w)(e:y=fx)(ht:D9 B st=true:=by kernel_rfl)
  (h1:kM ρ σ (Lf fn m y):=by delta kM;kernel_rfl) (h2:lU ρ σ (Lf fn m y):=by delta lU;kernel_rfl) (h3:qQ ρ (Lf fn m y)=true:=by kernel_rfl) (h4:zb ρ m.kp=true:=by kernel_rfl)
  (h5:(Ct P fn.results.toList λys=>.ret (ULift.up.{1} ys)).run (rI (Lf fn m y)) (nS (Lf fn m y))=some ⟨m.rsy y⟩:=by kernel_rfl):At mo P T B (bodyPost P fn (Vw o A m fx)) st a w:=by
 have hs:=uu ρ h h1 h2 h3 h4;obtain⟨⟨A',S',H⟩,h0,_⟩:=hs;subst e;obtain⟨ys,r1,r2⟩:=sY (P:=P) H h5;have r2:some (ULift.up.{1} ys)=some ⟨m.rsy y⟩:=r2;cases r2;have vw:=rK r1;have agh:Vw o A m y (.returned (NP ((m.rsy y).map (Sy.den A')))) w:=⟨_,rfl,A',S',H.AP.2,H.jl,rfl⟩;unfold D9 at ht;split at ht
 .rename_i p r;refine⟨?_⟩;show(sub B p).qC mo P (post mo P B _ r) a w;have hc:sub B p= .ret:=by
   cases hc:sub B p<;>rw[hc] at ht<;>first|rfl|cases ht
  rw[hc];exact zZ (rJ (bodyPost_ret vw H.lH agh))
 .exact⟨bodyPost_end vw H.lH agh⟩
 cases ht
def NR (ρ nv:List (Nat×Option Nat)):Prop:=∀j v,jI ρ j=some v->jI nv j=some v
theorem NR.trans {a b c:List (Nat×Option Nat)}(h:NR a b)(k:NR b c):NR a c:=λj v q=>k j v (h j v q)
theorem Vz {ρ:List (Nat×Option Nat)}{j:Nat}{v:Option Nat}(h:jI ρ j=none):NR ρ ((j,v)::ρ):=λi u q=>by
 unfold jI;cases hb:aP j i with
 |true=>have:=jP hb;subst this;rw[h] at q;cases q
 |false=>exact q
theorem uX (ρ:List (Nat×Option Nat))(j:Nat)(v:Option Nat):jI ((j,v)::ρ) j=some v:=by
 unfold jI;rw[Nat.beq_refl]
def eqO:Option Nat->Option Nat->Bool
 |none,none=>true
 |some a,some b=>aP a b
 |_,_=>false
theorem agi:∀ {a b:Option Nat},eqO a b=true->a=b
 |none,none,_=>rfl
 |some a,some b,h=>by rw[jP h]
 |none,some _,h=>by cases h
 |some _,none,h=>by cases h
def Ec {α:Type 1}(ρ:List (Nat×Option Nat))(j:Nat)(v:Option Nat)(k:List (Nat×Option Nat)->Tr α):Tr α:=match jI ρ j with
 |none=>k ((j,v)::ρ)
 |some v'=>match eqO v' v with
  |true=>k ((j,v)::ρ)
  |false=>.fail
def PL {α:Type 1}:List (Nat×Nat)->List (Nat×Nat)->List (Nat×Option Nat)->(List (Nat×Option Nat)->Tr α)->Tr α
 |[],[],ρ,k=>k ρ
 |c::l,d::l',ρ,k=>match aP c.2 d.2 with
  |true=>Ec ρ c.1 (some d.1) λρ=>PL l l' ρ k
  |false=>.fail
 |_,_,_,_=>.fail
def r6 {α:Type 1}:(c:Cp)->Sc->List (Nat×Option Nat)->(CpV c->List (Nat×Option Nat)->Tr α)->Tr α
 | .int,d,ρ,k=>match d with
  | .v (.int .i64 n)=>k n ρ
  |_=>.fail
 | .bool,d,ρ,k=>match d with
  | .b e=>k e.den ρ
  |_=>.fail
 | .str,d,ρ,k=>match d with
  | .v (.string z)=>k z ρ
  |_=>.fail
 | .own j,d,ρ,k=>match d with
  | .own q=>Ec ρ j (some q) (k ())
  | .v (.slice none 0 0)=>Ec ρ j none (k ())
  |_=>.fail
 | .mp j,d,ρ,k=>match d with
  | .mp q=>Ec ρ j (some q) (k ())
  |_=>.fail
 | .ptr j off,d,ρ,k=>match d with
  | .ptr q aib=>match aP off aib with
   |true=>Ec ρ j (some q) (k ())
   |false=>.fail
  |_=>.fail
 | .uk f ko,d,ρ,k=>match d with
  | .uk f' acq=>jb (aP f f') (PL ko acq ρ (k ()))
  |_=>.fail
 | .Vu,d,ρ,k=>match d with
  | .v (.pointer none)=>k () ρ
  |_=>.fail
 | .Vv,d,ρ,k=>match d with
  | .v (.slice none 0 0)=>k () ρ
  |_=>.fail
def Lg {α:Type 1}:(cs:List Cp)->List Sc->List (Nat×Option Nat)->(FL cs->List (Nat×Option Nat)->Tr α)->Tr α
 |[],[],ρ,k=>k () ρ
 |c::cs,d::l,ρ,k=>r6 c d ρ λv ρ=>Lg cs l ρ λx=>k (v,x)
 |_,_,_,_=>.fail
def tX {α:Type 1}:Nat->(sh:List Pc)->List (Nat×Option Nat)->(Cu sh->List (Nat×Option Nat)->Tr α)->Tr α
 |_,[],ρ,k=>k () ρ
 |i,.box t cs::sh,ρ,k=>match jI ρ i with
  |some (some q)=>.res q λz=>match z with
   | .box t' l=>jb (aP t t') (Lg cs l ρ λx ρ=>tX (i+1) sh ρ λxs=>k (x,xs))
   |_=>.fail
  |_=>.fail
 |i,.row e t::sh,ρ,k=>match jI ρ i with
  |some (some q)=>.res q λz=>match z with
   | .row e' t' l=>match pP (t:=.list t') (s:=.list t) (show El (.list t') from l) with
    |some l'=>jb (aP e e') (tX (i+1) sh ρ λxs=>k (l',xs))
    |none=>.fail
   |_=>.fail
  |some none=>tX (i+1) sh ρ λxs=>k ([],xs)
  |none=>.fail
 |i,.map kc t::sh,ρ,k=>match jI ρ i with
  |some (some q)=>.res q λz=>match z with
   | .map kc' t' l=>match pP (t:=.map kc' t') (s:=.map kc t) (show El (.map kc' t') from l) with
    |some l'=>tX (i+1) sh ρ λxs=>k (l',xs)
    |none=>.fail
   |_=>.fail
  |_=>.fail
 |i,.rd t::sh,ρ,k=>match jI ρ i with
  |some (some q)=>.res q λz=>match nV z with
   |some ⟨t',l⟩=>match pP (t:=.list t') (s:=.list t) (show El (.list t') from l) with
    |some l'=>tX (i+1) sh ρ λxs=>k (l',xs)
    |none=>.fail
   |none=>.fail
  |some none=>tX (i+1) sh ρ λxs=>k ([],xs)
  |none=>.fail
 |i,.sJ e::sh,ρ,k=>match jI ρ i with
  |some (some q)=>.res q λz=>match z with
   | .ext (.sJ e' l)=>jb (aP e e') (tX (i+1) sh ρ λxs=>k (l,xs))
   |_=>.fail
  |_=>.fail
theorem uY {α:Type 1}{ρ:List (Nat×Option Nat)}{j:Nat}{v:Option Nat}{k:List (Nat×Option Nat)->Tr α}{out:α}(h:(Ec ρ j v k).run s r=some out):NR ρ ((j,v)::ρ)/\(k ((j,v)::ρ)).run s r=some out:=by
 unfold Ec at h;split at h
 .rename_i hn;exact⟨Vz hn,h⟩
 rename_i v' hn;split at h
 .rename_i e;have e:=agi e;subst e;refine⟨λi u q=>?_,h⟩;unfold jI;cases hb:aP j i with
  |true=>have:=jP hb;subst this;rw[hn] at q;exact q
  |false=>exact q
 cases h
theorem GV {α:Type 1}:∀ {l l':List (Nat×Nat)} {ρ:List (Nat×Option Nat)} {k:List (Nat×Option Nat)->Tr α} {out:α},(PL l l' ρ k).run s r=some out->
  ∃nv,(k nv).run s r=some out/\NR ρ nv/\∀A oS,NR nv oS->(l.map λc=>cx (some ⟨(mj A oS).b c.1,c.2,none⟩))=l'.map λc=>cx (some ⟨A.b c.1,c.2,none⟩)
 |[],[],ρ,k,out,h=>⟨ρ,h,λ_ _ q=>q,λ_ _ _=>rfl⟩
 |c::l,d::l',ρ,k,out,h=>by
  simp only[PL] at h;split at h
  .rename_i e;have e:=jP e;obtain⟨q1,h2⟩:=uY h;obtain⟨nv,h3,h4,h5⟩:=GV h2;refine⟨nv,h3,q1.trans h4,λA oS q=>?_⟩;rw[bn,bn,h5 A oS q,(mB (A:=A) (q _ _ (h4 _ _ (uX _ _ _)))).2.1,e]
  cases h
 |[],_::_,_,_,_,h=>by cases h
 |_::_,[],_,_,_,h=>by cases h
theorem NS {α:Type 1}{c:Cp}{d:Sc}{ρ:List (Nat×Option Nat)}{k:CpV c->List (Nat×Option Nat)->Tr α}{out:α}(h:(r6 c d ρ k).run s r=some out):
  ∃v nv,(k v nv).run s r=some out/\NR ρ nv/\∀A oS,NR nv oS->(c.sc v).den (mj A oS)=d.den A:=by
 cases c with
 |int=>
  simp only[r6] at h;split at h
  .exact⟨_,ρ,h,λ_ _ q=>q,λ_ _ _=>rfl⟩
  cases h
 |bool=>
  simp only[r6] at h;split at h
  .exact⟨_,ρ,h,λ_ _ q=>q,λ_ _ _=>rfl⟩
  cases h
 |str=>
  simp only[r6] at h;split at h
  .exact⟨_,ρ,h,λ_ _ q=>q,λ_ _ _=>rfl⟩
  cases h
 |own j=>
  simp only[r6] at h;split at h
  .obtain⟨q1,h2⟩:=uY h;exact⟨(),_,h2,q1,λA oS q=>(mB (A:=A) (q _ _ (uX _ _ _))).1⟩
  .obtain⟨q1,h2⟩:=uY h;exact⟨(),_,h2,q1,λA oS q=>D7 (A:=A) (q _ _ (uX _ _ _))⟩
  cases h
 |mp j=>
  simp only[r6] at h;split at h
  .obtain⟨q1,h2⟩:=uY h;exact⟨(),_,h2,q1,λA oS q=>by simp only[Cp.sc,Sc.den,(mB (A:=A) (q _ _ (uX _ _ _))).2.2.1]⟩
  cases h
 |ptr j off=>
  simp only[r6] at h;split at h
  .split at h
   .rename_i e;have e:=jP e;subst e;obtain⟨q1,h2⟩:=uY h;exact⟨(),_,h2,q1,λA oS q=>by simp only[Cp.sc,Sc.den,(mB (A:=A) (q _ _ (uX _ _ _))).2.1]⟩
   cases h
  cases h
 |uk f ko=>
  simp only[r6] at h;split at h
  .obtain⟨e,h1⟩:=iB h;have e:=jP e;subst e;obtain⟨nv,h2,h3,h4⟩:=GV h1;exact⟨(),nv,h2,h3,λA oS q=>by simp only[Cp.sc,Sc.den,h4 A oS q]⟩
  cases h
 |Vu=>
  simp only[r6] at h;split at h
  .exact⟨(),ρ,h,λ_ _ q=>q,λ_ _ _=>rfl⟩
  cases h
 |Vv=>
  simp only[r6] at h;split at h
  .exact⟨(),ρ,h,λ_ _ q=>q,λ_ _ _=>rfl⟩
  cases h
theorem GX {α:Type 1}:∀(cs:List Cp) (l:List Sc) (ρ:List (Nat×Option Nat)) (k:FL cs->List (Nat×Option Nat)->Tr α) {out:α},(Lg cs l ρ k).run s r=some out->
  ∃x nv,(k x nv).run s r=some out/\NR ρ nv/\∀A oS,NR nv oS->(pI cs x).map (Sc.den (mj A oS))=l.map (Sc.den A):=by
 intro cs
 induction cs with
 |nil=>
  intro l ρ k out h;cases l with
  |nil=>exact⟨(),ρ,h,λ_ _ q=>q,λ_ _ _=>rfl⟩
  |cons _ _=>cases h
 |cons c cs ih=>
  intro l ρ k out h;cases l with
  |nil=>cases h
  |cons d l=>
   obtain⟨v,ρ1,h1,h2,h3⟩:=NS (show(r6 c d ρ λv ρ=>Lg cs l ρ λx=>k (v,x)).run s r=some out from h);obtain⟨x,nv,h4,h5,h6⟩:=ih _ _ _ h1;exact⟨(v,x),nv,h4,h2.trans h5,λA oS q=>by simp only[pI,bn,h6 A oS q,h3 A oS (h5.trans q)]⟩
def ZM (r:Nat->Option R2)(nv:List (Nat×Option Nat))(j:Nat)(z:R2):Prop:=∀A oS,NR nv oS->
 (sB z=false/\((∃q y,jI oS j=some (some q)/\r q=some y/\z.den (mj A oS) j=y.den A q)\/(jI oS j=some none/\∃e t,z= .row e t ([]:List (El t)))))\/
  ∃(t:Ty) (l:List (El t)),z= .ar t l/\((∃q y,jI oS j=some (some q)/\r q=some y/\nV y=some ⟨t,l⟩)\/(jI oS j=some none/\l=[]))
theorem RX {α:Type 1}:∀(sh:List Pc) (i:Nat) (ρ:List (Nat×Option Nat)) (k:Cu sh->List (Nat×Option Nat)->Tr α) {out:α},(tX i sh ρ k).run s r=some out->
  ∃xs nv,(k xs nv).run s r=some out/\NR ρ nv/\∀j z,(j,some z)∈pY i sh xs->ZM r nv j z:=by
 intro sh
 induction sh with
 |nil=>intro i ρ k out h;exact⟨(),ρ,h,λ_ _ q=>q,λ_ _ q=>by cases q⟩
 |cons sp sh ih=>
  intro i ρ k out h;cases sp with
  |box t cs=>
   simp only[tX] at h;split at h
   .rename_i q hq;obtain⟨y,hy,h⟩:=iW h;split at h
    .rename_i t' l;obtain⟨e,h0⟩:=iB h;clear h;have e:=jP e;subst e;obtain⟨x,ρ1,h1,h2,h3⟩:=GX _ _ _ _ h0;obtain⟨xs,nv,h4,h5,h6⟩:=ih _ _ _ h1;refine⟨(x,xs),nv,h4,h2.trans h5,λj z hj=>?_⟩;rcases aD.1 hj with e|hj
     .cases e;refine λA oS hle=>.inl ⟨rfl,.inl ⟨q,_,hle _ _ (h5 _ _ (h2 _ _ hq)),hy,?_⟩⟩;simp only[Pc.r2,R2.den,h3 A oS (h5.trans hle),(mB (A:=A) (hle _ _ (h5 _ _ (h2 _ _ hq)))).2.1]
     exact h6 j z hj
    cases h
   cases h
  |row e t=>
   simp only[tX] at h;split at h
   .rename_i q hq;obtain⟨y,hy,h⟩:=iW h;split at h
    .rename_i e' t' l;split at h
     .rename_i l' hl;obtain⟨ee,rfl⟩:=mH hl;cases ee;obtain⟨e,h0⟩:=iB h;clear h;have e:=jP e;subst e;obtain⟨xs,nv,h4,h5,h6⟩:=ih _ _ _ h0;refine⟨(_,xs),nv,h4,h5,λj z hj=>?_⟩;rcases aD.1 hj with e|hj
      .cases e;refine λA oS hle=>.inl ⟨rfl,.inl ⟨q,_,hle _ _ (h5 _ _ hq),hy,?_⟩⟩;simp only[Pc.r2,R2.den,(mB (A:=A) (hle _ _ (h5 _ _ hq))).1]
      exact h6 j z hj
     cases h
    cases h
   .rename_i hq;obtain⟨xs,nv,h4,h5,h6⟩:=ih _ _ _ h;refine⟨(_,xs),nv,h4,h5,λj z hj=>?_⟩;rcases aD.1 hj with e|hj
    .cases e;exact λA oS hle=>.inl ⟨rfl,.inr ⟨hle _ _ (h5 _ _ hq),_,_,rfl⟩⟩
    exact h6 j z hj
   cases h
  |map kc t=>
   simp only[tX] at h;split at h
   .rename_i q hq;obtain⟨y,hy,h⟩:=iW h;split at h
    .rename_i kc' t' l;split at h
     .rename_i l' hl;obtain⟨ee,rfl⟩:=mH hl;cases ee;obtain⟨xs,nv,h4,h5,h6⟩:=ih _ _ _ h;refine⟨(_,xs),nv,h4,h5,λj z hj=>?_⟩;rcases aD.1 hj with e|hj
      .cases e;refine λA oS hle=>.inl ⟨rfl,.inl ⟨q,_,hle _ _ (h5 _ _ hq),hy,?_⟩⟩;simp only[Pc.r2,R2.den,(mB (A:=A) (hle _ _ (h5 _ _ hq))).2.2.1]
      exact h6 j z hj
     cases h
    cases h
   cases h
  |rd t=>
   simp only[tX] at h;split at h
   .rename_i q hq;obtain⟨y,hy,h⟩:=iW h;split at h
    .rename_i t' l ZN;split at h
     .rename_i l' hl;obtain⟨ee,rfl⟩:=mH hl;cases ee;obtain⟨xs,nv,h4,h5,h6⟩:=ih _ _ _ h;refine⟨(_,xs),nv,h4,h5,λj z hj=>?_⟩;rcases aD.1 hj with e|hj
      .cases e;exact λA oS hle=>.inr ⟨_,_,rfl,.inl ⟨q,y,hle _ _ (h5 _ _ hq),hy,ZN⟩⟩
      exact h6 j z hj
     cases h
    cases h
   .rename_i hq;obtain⟨xs,nv,h4,h5,h6⟩:=ih _ _ _ h;refine⟨(_,xs),nv,h4,h5,λj z hj=>?_⟩;rcases aD.1 hj with e|hj
    .cases e;exact λA oS hle=>.inr ⟨_,_,rfl,.inr ⟨hle _ _ (h5 _ _ hq),rfl⟩⟩
    exact h6 j z hj
   cases h
  |sJ e=>
   simp only[tX] at h;split at h
   .rename_i q hq;obtain⟨y,hy,h⟩:=iW h;split at h
    .rename_i e' l;obtain⟨e,h0⟩:=iB h;clear h;have e:=jP e;subst e;obtain⟨xs,nv,h4,h5,h6⟩:=ih _ _ _ h0;refine⟨(_,xs),nv,h4,h5,λj z hj=>?_⟩;rcases aD.1 hj with e|hj
     .cases e;refine λA oS hle=>.inl ⟨rfl,.inl ⟨q,_,hle _ _ (h5 _ _ hq),hy,?_⟩⟩;simp only[Pc.r2,R2.den,X2.den,(mB (A:=A) (hle _ _ (h5 _ _ hq))).1]
     exact h6 j z hj
    cases h
   cases h
end
def Lh (kp:Nat)(ρ:List (Nat×Option Nat))(b i:Nat):Option Nat:=match bw i kp with
 |true=>match jI ρ i with
  |some v=>v
  |none=>none
 |false=>some (b+i)
def Li (g:Nat->Option Nat):Nat->List (Nat×Option Nat)
 |0=>[]
 |k+1=>(k,g k)::Li g k
def rnP (τ:List (Nat×Option Nat)):List (Nat×Option R2)->Option (List (Nat×Option R2))
 |[]=>some []
 |(i,some x)::l=>match jI τ i,x.rn τ,rnP τ l with
  |some (some k),some t,some l'=>some ((k,some t)::l')
  |_,_,_=>none
 |(_,none)::_=>none
def agj (sh:List Pc)(l:List (Nat×Option R2)):List (Nat×Option R2):=l.filter λp=>!GR sh p.1
def Ed (sh:List Pc)(ρ:List (Nat×Option Nat)):List Nat:=(ρ.filter λp=>!GR sh p.1).filterMap (·.2)
def agk:Sy->Bool
 | .one _=>true
 |_=>false
def shG:List (Option Nat)->List Sy->Bool
 |none::g,.one _::ys=>shG g ys
 |some k::g,.agg cs::ys=>aP cs.length k && shG g ys
 |[],ys=>ys.all agk
 |_,_=>false
def agl (m:yC)(ρ:List (Nat×Option Nat))(ys:List Sy):Bool:=
 shG m.ga ys && ((ρ.all λp=>ρ.all λq=>aP p.1 q.1||(match p.2,q.2 with|some a,some b=>!Nat.beq a b|_,_=>true)) && (decide (m.kp<=m.sh.length) && (m.wN.all (Pc.below m.wN.length) && (m.rs.all (Cp.below m.wN.length) && (((bH m.kp).all λi=>match jI ρ i with|some (some _)=>true|_=>false) && (bH m.wN.length).all λi=>!GR m.wN i||(bw i m.kp && GR m.sh i))))))
def ady (m:yC)(wo:m.X->Prop)(fx:m.X->m.Y)(b:Nat)(ko:List (Nat×Nat))(ys:List Sy):Tr Out:=
 Lg m.ar ((ys++ko.map λc=>Sy.one (.ptr c.1 c.2)).flatMap iJ) [] λxa ρ=>tX 0 m.sh ρ λxs nv=>
  match rnP (Li (Lh m.kp nv b) m.wN.length) (agj m.wN (pY 0 m.wN (fx (xs,xa)).1)),ZF (Li (Lh m.kp nv b) m.wN.length) (pI m.rs (fx (xs,xa)).2) with
  |some re,some cs=>jb (agl m nv (ys++ko.map λc=>Sy.one (.ptr c.1 c.2))) (.ret ⟨[wo (xs,xa)],[],B8 (syl m.ag cs),re++(Ed m.sh nv).map λq=>(q,none)⟩)
  |_,_=>.fail
def uv (A B:jA)(b k l:Nat):jA:=
 ⟨λj=>if b+k<=j/\j<b+l then B.p (j-b) else A.p j,λj=>if b+k<=j/\j<b+l then B.n (j-b) else A.n j,λj=>if b+k<=j/\j<b+l then B.c (j-b) else A.c j,λj=>if b+k<=j/\j<b+l then B.b (j-b) else A.b j,λj=>if b+k<=j/\j<b+l then B.f (j-b) else A.f j,λj=>if b+k<=j/\j<b+l then B.m (j-b) else A.m j⟩
section
variable {P:ay}{o:jw}{n:Nat}{A A':jA}{S S':iD}{F G:Nat->Prop}{s:Nat->Option E2}{r:Nat->Option R2}{a:Act}{w w':aa}{T:List (kI P)}
theorem PM {g:Nat->Option Nat}:∀ {l i:Nat},i<l->jI (Li g l) i=some (g i)
 |0,i,h=>by omega
 |l+1,i,h=>by
  unfold Li jI;cases hb:aP l i with
  |true=>have:=jP hb;subst this;rfl
  |false=>exact PM (by have:=aci hb;omega)
theorem PN {g:Nat->Option Nat}:∀ {l i:Nat} {v:Option Nat},jI (Li g l) i=some v->i<l
 |0,i,v,h=>by cases h
 |l+1,i,v,h=>by
  unfold Li jI at h;cases hb:aP l i with
  |true=>have:=jP hb;omega
  |false=>rw[hb] at h;have:=PN h;omega
theorem VA {τ:List (Nat×Option Nat)}:∀ {l re:List (Nat×Option R2)},rnP τ l=some re->∀i z,(i,z)∈l->∃k x t,z=some x/\jI τ i=some (some k)/\x.rn τ=some t/\(k,some t)∈re
 |[],re,h,i,z,hz=>by cases hz
 |(i0,some x)::l,re,h,i,z,hz=>by
  simp only[rnP] at h;split at h
  .rename_i k t l' h1 h2 h3;cases h;rcases aD.1 hz with e|hz
   .cases e;exact⟨k,x,t,rfl,h1,h2,aE⟩
   obtain⟨k',x',t',q1,q2,q3,q4⟩:=VA h3 i z hz;exact⟨k',x',t',q1,q2,q3,aI _ q4⟩
  cases h
 |(i0,none)::l,re,h,i,z,hz=>by cases h
theorem VB {τ:List (Nat×Option Nat)}:∀ {l re:List (Nat×Option R2)},rnP τ l=some re->∀k z,(k,z)∈re->∃i x t,(i,some x)∈l/\jI τ i=some (some k)/\x.rn τ=some t/\z=some t
 |[],re,h,k,z,hz=>by cases h;cases hz
 |(i0,some x)::l,re,h,k,z,hz=>by
  simp only[rnP] at h;split at h
  .rename_i k0 t l' h1 h2 h3;cases h;rcases aD.1 hz with e|hz
   .cases e;exact⟨i0,x,t,aE,h1,h2,rfl⟩
   obtain⟨i',x',t',q1,q2,q3,q4⟩:=VB h3 k z hz;exact⟨i',x',t',aI _ q1,q2,q3,q4⟩
  cases h
 |(i0,none)::l,re,h,k,z,hz=>by cases h
theorem GY {τ:List (Nat×Option Nat)}:∀ {ko cs:List (Nat×Nat)},Sc.rn.y9 τ ko=some cs->∀c∈cs,∃j,jI τ j=some (some c.1)
 |[],cs,h,c,hc=>by cases h;cases hc
 |d::ko,cs,h,c,hc=>by
  simp only[Sc.rn.y9] at h;split at h
  .rename_i k l h1 h2;cases h;rcases aD.1 hc with rfl|hc
   .exact⟨_,h1⟩
   exact GY h2 c hc
  cases h
theorem agm {τ:List (Nat×Option Nat)}{c:Cp}{v:CpV c}{d:Sc}(h:(c.sc v).rn τ=some d)(hG:∀j k,jI τ j=some (some k)->G k):d.all G/\∀A,d.ku A:=by
 cases c with
 |int=>cases h;exact⟨tv,λ_=>trivial⟩
 |bool=>cases h;exact⟨tv,λ_=>trivial⟩
 |Vu=>cases h;exact⟨tv,λ_=>trivial⟩
 |Vv=>cases h;exact⟨tv,λ_=>trivial⟩
 |str=>cases h;exact⟨tv,λ_=>trivial⟩
 |uk f ko=>
  have h:(Sc.rn.y9 τ ko).map (.uk f)=some d:=h;obtain⟨cs,h1,rfl⟩:=aX.1 h;exact⟨λc hc=>by obtain⟨j,hj⟩:=GY h1 c hc;exact hG j _ hj,λ_=>trivial⟩
 |own j=>
  simp only[Cp.sc,Sc.rn] at h;split at h
  .rename_i k hk;cases h;exact⟨hG j k hk,λ_=>trivial⟩
  .cases h;exact⟨tv,λ_=>trivial⟩
  cases h
 |mp j=>
  simp only[Cp.sc,Sc.rn] at h;split at h
  .rename_i k hk;cases h;exact⟨hG j k hk,λ_=>trivial⟩
  .cases h;exact⟨tv,λ_=>trivial⟩
  cases h
 |ptr j off=>
  simp only[Cp.sc,Sc.rn] at h;split at h
  .rename_i k hk;cases h;exact⟨hG j k hk,λ_=>trivial⟩
  cases h
theorem Ee {τ:List (Nat×Option Nat)}(hG:∀j k,jI τ j=some (some k)->G k):∀ {cs:List Cp} {x:FL cs} {ds:List Sc},ZF τ (pI cs x)=some ds->∀d∈ds,d.all G/\∀A,d.ku A
 |[],x,ds,h,d,hd=>by cases h;cases hd
 |c::cs,x,ds,h,d,hd=>by
  simp only[pI,ZF] at h;split at h
  .rename_i c' l' h1 h2;cases h;rcases aD.1 hd with rfl|hd
   .exact agm h1 hG
   exact Ee hG h2 d hd
  cases h
theorem agn {τ:List (Nat×Option Nat)}(hG:∀j k,jI τ j=some (some k)->G k){p:Pc}{v:PcV p}{i k:Nat}{z:R2}(h:(p.r2 v).rn τ=some z)(hk:jI τ i=some (some k))(nO:p.ZI=false)(A:jA):
  z.den A k=(p.r2 v).den (mj A τ) i/\z.all G/\z.ku A/\sB z=false:=by
 obtain⟨e1,e2,e3,_⟩:=mB (A:=A) hk;cases p with
 |box t cs=>
  have h:(ZF τ (pI cs v)).map (R2.box t)=some z:=h;obtain⟨ds,h1,rfl⟩:=aX.1 h;have h2:=Ee hG h1;refine⟨?_,λc hc=>(h2 c hc).1,λc hc=>(h2 c hc).2 A,rfl⟩;simp only[Pc.r2,R2.den,e2,(D8 (A:=A) h1).1]
 |row e t=>
  have h:some (R2.row e t v)=some z:=h;cases h;exact⟨by simp only[Pc.r2,R2.den,e1],tv,tv,rfl⟩
 |map kc t=>
  have h:some (R2.map kc t v)=some z:=h;cases h;exact⟨by simp only[Pc.r2,R2.den,e3],tv,tv,rfl⟩
 |rd t=>cases nO
 |sJ e=>
  have h:some (R2.ext (.sJ e v))=some z:=h;cases h;exact⟨by simp only[Pc.r2,R2.den,X2.den,e1],tv,tv,rfl⟩
theorem GZ:∀ {l:List Pc} {i:Nat} {x:Cu l} {j:Nat} {z:R2},(j,some z)∈pY i l x->∃s,l[j-i]?=some s/\∃v,z=Pc.r2 s v
 |[],_,_,_,_,h=>by cases h
 |s::l,i,x,j,z,h=>by
  rcases aD.1 h with e|h
  .cases e;exact⟨s,by rw[di];rfl,x.1,rfl⟩
  have hk:=s9 h;obtain⟨s',h1,h2⟩:=GZ h;exact⟨s',by rw[show j-i=(j-(i+1))+1 by omega];exact h1,h2⟩
theorem Ef {l:List Pc}{x:Cu l}{j:Nat}{z:R2}(h:(j,some z)∈pY 0 l x):GR l j=sB z:=by
 obtain⟨s,h1,v,rfl⟩:=GZ h;unfold GR;rw[show l[j]?=some s from h1];cases s<;>rfl
theorem NT (H:kD o n A S F s r a w){j:Nat}{x:R2}(hj:r j=some x){t:Ty}{l:List (El t)}(hx:nV x=some ⟨t,l⟩){K:Nat->Prop}(hK:¬K j):Rd (λk=>k<w.heap.size/\¬n9 A r K k) w (A.v j) l:=by
 have hm:ji A r j=some (x.den A j):=by simp[ji,hj]
 cases x with
 |ro t' l'=>cases hx;exact Rd.up (λk hk=>⟨H.jl.nN k hk,λq=>(H.tQ q).2.2 hk⟩) (H.jl.ok j _ hm)
 |ar t' l'=>
  cases hx;refine(Rd.keep H.jl.old (H.args j _ hj)).up λk hk=>⟨bh hk.1 H.jl.sj.size,λq=>?_⟩;rcases(H.tQ q).1 with z|z
  .have:=hk.1;omega
  exact hk.2 z
 |row e t' l'=>
  cases hx;refine(mI.rd (H.jl.ok j _ hm)).up λk hk=>?_;rcases hk with hk|hk
  .exact⟨H.jl.nN k hk,λq=>(H.tQ q).2.2 hk⟩
  refine⟨(H.jl.own j _ k hm hk).2.1,λ⟨i,y,q1,q2,q3⟩=>?_⟩;have hm':ji A r i=some (y.den A i):=by simp[ji,q2]
  have:=H.jl.apart j i _ _ k hm hm' hk q3;subst this;exact hK q1
 |ext y=>
  cases y with
  |_=>cases hx
 |_=>cases hx
theorem ZO {A B:jA}{b k l i:Nat}(h1:k<=i)(h2:i<l):(uv A B b k l).v (b+i)=B.v i/\(uv A B b k l).b (b+i)=B.b i/\(uv A B b k l).f (b+i)=B.f i/\(uv A B b k l).m (b+i)=B.m i:=by
 have q:b+k<=b+i/\b+i<b+l:=⟨by omega,by omega⟩;have e:b+i-b=i:=by omega
 unfold uv jA.v;simp only[ak q,e];exact⟨tv,tv,tv,tv⟩
theorem ZP {A B:jA}{b k l j:Nat}(h:¬(b+k<=j/\j<b+l)):A.v j=(uv A B b k l).v j/\A.b j=(uv A B b k l).b j/\A.f j=(uv A B b k l).f j/\A.m j=(uv A B b k l).m j:=by
 unfold uv jA.v;simp only[ah h];exact⟨tv,tv,tv,tv⟩
theorem Lj:∀ {ys:List Sy},ys.all agk=true->ys.map (Sy.den A)=(ys.flatMap iJ).map (Sc.den A)
 |[],_=>rfl
 |y::ys,h=>by
  rw[amh,aR] at h;cases y with
  |one c=>rw[cE,bn,Lj h.2];rfl
  |agg _=>cases h.1
  |tN _=>cases h.1
theorem Ja:∀ {g:List (Option Nat)} {ys:List Sy} {cs:List Sc},shG g ys=true->cs.map (Sc.den A')=(ys.flatMap iJ).map (Sc.den A)->ys.map (Sy.den A)=(MZ g cs).map (Sy.den A')
 |[],ys,cs,h,e=>by
  rw[Lj h,<-e];show _=(cs.map Sy.one).map _;rw[cV];rfl
 |none::g,[],cs,h,e=>by cases h
 |none::g,.one c::ys,cs,h,e=>by
  rw[cE,cg] at e
  match cs,e with
  |c'::cs,e=>
   have e1:c'.den A'=c.den A:=(akn e).1;have e2:cs.map (Sc.den A')=(ys.flatMap iJ).map (Sc.den A):=(akn e).2;show c.den A::ys.map _=c'.den A'::(MZ g cs).map _;rw[Ja (g:=g) h e2,e1]
 |none::g,.agg _::ys,cs,h,e=>by cases h
 |none::g,.tN _::ys,cs,h,e=>by cases h
 |some k::g,[],cs,h,e=>by cases h
 |some k::g,.one _::ys,cs,h,e=>by cases h
 |some k::g,.tN _::ys,cs,h,e=>by cases h
 |some k::g,.agg l::ys,cs,h,e=>by
  have h:(aP l.length k && shG g ys)=true:=h;rw[aR] at h;have hk:=jP h.1;subst hk;rw[cE,cg] at e;have e1:(cs.take l.length).map (Sc.den A')=l.map (Sc.den A):=by
   rw[List.map_take,e];show(l.map _++_).take _=_;rw[List.take_left' (by simp)]
  have e2:(cs.drop l.length).map (Sc.den A')=(ys.flatMap iJ).map (Sc.den A):=by
   rw[List.map_drop,e];show(l.map _++_).drop _=_;rw[List.drop_left' (by simp)]
  show alA (l.map (Sc.den A)).toArray::ys.map _=alA ((cs.take l.length).map (Sc.den A')).toArray::(MZ g (cs.drop l.length)).map _;rw[Ja (g:=g) h.2 e2,e1]
theorem ZQ {f:bA}{m:yC}{wo:m.X->Prop}{fx:m.X->m.Y}(ok:nE P f m wo fx):zS P f (ady m wo fx):=by
 intro o n A S F s r a w b B ko ys out H hF YO _ h kF _ hB;unfold ady at h;have Tk:ys.map (Sy.den A)++ko.map (λc=>cx (some ⟨A.b c.1,c.2,none⟩))=(ys++ko.map λc=>Sy.one (.ptr c.1 c.2)).map (Sy.den A):=by
  rw[cg,cV];rfl
 generalize (ys++ko.map λc=>Sy.one (.ptr c.1 c.2))=zs at*
 obtain⟨xa,ρ,h1,_,hC⟩:=GX _ _ _ _ h;clear h;obtain⟨xs,nv,h2,hle,hP⟩:=RX _ _ _ _ h1;clear h1;split at h2
 .rename_i re cs FI ZR;obtain⟨hg,h3⟩:=iB h2;clear h2;have e:=iX h3;subst e;clear h3;unfold agl at hg;simp only[aR,decide_eq_true_eq] at hg;have⟨g1,g2,g3,g4,g5,g6,g7⟩:=hg;have aic:∀i,GR m.wN i=true->i<m.kp/\GR m.sh i=true:=λi hi=>by
   have hl:i<m.wN.length:=by
    unfold GR at hi;split at hi
    .rename_i sp MV;exact(bW.1 MV).1
    cases hi
   have:=aU.1 g7 i (b5.2 hl);rw[hi] at this;simp only[Bool.not_true,Bool.false_or,aR,bZ] at this;exact this
  have IF:wo (xs,xa):=kF _ (av.2 rfl);generalize hy:fx (xs,xa)=y at*
  generalize hτ:Li (Lh m.kp nv b) m.wN.length=τ at*
  have refl:NR nv nv:=λ_ _ q=>q;have oQ:∀j rr,ji (mj A nv) (ja (λ_=>none) (pY 0 m.sh xs)) j=some rr->(∃q z,jI nv j=some (some q)/\GR m.sh j=false/\r q=some z/\ji A r q=some rr/\rr=z.den A q)\/((∀c,¬rr.has c)/\rr.ok S w):=λj rr hj=>by
   obtain⟨z,hz,rfl⟩:=aX.1 hj;have hkr:=Ef (pR hz);rcases hP j z (pR hz) A nv refl with⟨k0,⟨q,t,k1,k2,k3⟩|⟨k1,e,t,rfl⟩⟩|⟨t,l,rfl,_⟩
   .exact .inl ⟨q,t,k1,hkr.trans k0,k2,by show(r q).map _=_;rw[k2,k3];rfl,k3⟩
   .have ev:=D7 (A:=A) k1;refine .inr ⟨λc q=>?_,?_⟩
    .have q:((mj A nv).v j).ownBlock=some c:=q;rw[ev] at q;cases q
    show mI S w e ((mj A nv).v j) ([]:List (El t));rw[ev];exact mI.nil
   exact .inr ⟨λc q=>q,tv⟩
  have UP:∀ {i j q:Nat},jI nv i=some (some q)->jI nv j=some (some q)->i=j:=λ{i j q} hi hj=>by
   have:=aU.1 (aU.1 g2 _ (uS hi)) _ (uS hj);rw[dQ] at this;rcases this with k|k
   .exact jP k
   simp at k
  have hK:∀ {q:Nat},(∃j,(j,some q)∈nv/\GR m.sh j=false)->∃x,(q,x)∈re++(Ed m.sh nv).map λq=>(q,(none:Option R2)):=λ{q} ⟨j,hj,hjr⟩=>
   ⟨none,bq _ (aV.2 ⟨q,List.mem_filterMap.2 ⟨_,cU.2 ⟨hj,by rw[hjr];rfl⟩,rfl⟩,rfl⟩)⟩
  have o2c:∃o2:jw,o2.w=w/\o2.S=S/\o2.G=n9 A r (λq=> ∃j,(j,some q)∈nv/\GR m.sh j=false):=⟨⟨⟨w,S,H.jl.nN⟩,n9 A r (λq=> ∃j,(j,some q)∈nv/\GR m.sh j=false),λk hk=>(H.tQ hk).2.2,λk hk=>(H.tQ hk).2.1,λ_=>False,T5,0⟩,rfl,rfl,rfl⟩;have⟨o2,M0,hS2,hG2⟩:=o2c;have uD:nM o2 w S (ji (mj A nv) (ja (λ_=>none) (pY 0 m.sh xs))):=by
   refine⟨by rw[M0];exact qA.refl _ _,λk hk=>.inl (by rw[hS2];exact hk),H.jl.nN,λj rr hj=>?_,λj rr c hj hc=>?_,λi j ri rj c hi hj ei ej=>?_⟩
   .rcases oQ j rr hj with⟨q,z,k1,_,k2,k3,k4⟩|⟨_,k2⟩
    .exact H.jl.ok q rr k3
    exact k2
   .rcases oQ j rr hj with⟨q,z,k1,k0,k2,k3,k4⟩|⟨k1,_⟩
    .have:=H.jl.own q rr c k3 hc;refine⟨.inr ?_,this.2⟩;rw[hG2];exact⟨q,z,⟨j,uS k1,k0⟩,k2,by rw[<-k4];exact hc⟩
    exact(k1 c hc).elim
   rcases oQ i ri hi with⟨q,z,k1,_,k2,k3,k4⟩|⟨k1,_⟩
   .rcases oQ j rj hj with⟨q',z',l1,_,l2,l3,l4⟩|⟨l1,_⟩
    .have:=H.jl.apart q q' ri rj c k3 l3 ei ej;subst this;exact UP k1 l1
    exact(l1 c ej).elim
   exact(k1 c ei).elim
  have kW:(ys.map (Sy.den A)++ko.map λc=>cx (some ⟨A.b c.1,c.2,none⟩))=(MZ m.ga (pI m.ar xa)).map (Sy.den (mj A nv)):=by
   rw[Tk];exact Ja g1 (hC A nv hle)
  rw[kW];have har:∀j y,ja (λ_=>none) (pY 0 m.sh xs) j=some y->zQ (o2.ZJ (mj A nv) m.kp) (mj A nv) j y:=λj y hy=>by
   have hkr:=Ef (pR hy);rcases hP j y (pR hy) A nv refl with⟨k0,_⟩|⟨t,l,rfl,⟨q,z,k1,k2,k3⟩|⟨k1,rfl⟩⟩
   .exact nD k0
   .have hnK:¬(λq=> ∃j,(j,some q)∈nv/\GR m.sh j=false) q:=λ⟨j',m1,m2⟩=>by
     have:=aU.1 (aU.1 g2 _ m1) _ (uS k1);rw[dQ] at this;rcases this with e|e
     .have e:=jP e;dsimp only at e;rw[e,hkr] at m2;cases m2
     simp at e
    have nO:=NT (K:=λq=> ∃j,(j,some q)∈nv/\GR m.sh j=false) H k2 k3 hnK;show Rd o2.old o2.w ((mj A nv).v j) l;rw[(mB (A:=A) k1).1];unfold jw.old;rw[hG2,M0];exact nO
   show Rd o2.old o2.w ((mj A nv).v j) ([]:List (El t));rw[D7 (A:=A) k1];exact Nb
  have wP:=ok o2 (mj A nv) (xs,xa) (by rw[M0,hS2];exact uD.gv) har IF;rw[M0] at wP;refine wP.mono λe w' ⟨v,he,A2,S2,hA2,F2',hv⟩=>⟨v,he,?_⟩;have F2:=F2'.aia;rw[hy] at F2 hv;clear F2';have hc2:qA w w' (n9 A r (λq=> ∃j,(j,some q)∈nv/\GR m.sh j=false)):=by have:=F2.sj;rwa[M0,hG2] at this
  have VC:∀ {i:Nat},i<m.wN.length->jI τ i=some (Lh m.kp nv b i):=λ{i} hi=>by rw[<-hτ];exact PM hi
  have ago:∀ {i:Nat} {v:Option Nat},jI τ i=some v->i<m.wN.length:=λ{i v} hi=>by rw[<-hτ] at hi;exact PN hi
  have NU:∀ {i:Nat},m.kp<=i->i<m.wN.length->jI τ i=some (some (b+i)):=λ{i} h1 h2=>by
   rw[VC h2];unfold Lh;have:bw i m.kp=false:=by
    cases hb:bw i m.kp with
    |true=>
     have:i<m.kp:=by simpa using bZ▸hb
     omega
    |false=>rfl
   rw[this]
  have agp:∀ {i:Nat},i<m.kp->∃q,jI nv i=some (some q)/\F q/\Lh m.kp nv b i=some q:=λ{i} hi=>by
   obtain⟨sp,v,q1,q2⟩:=Bh (x:=xs) (i:=0) (bF i) (by rw[cG];omega);have hb:bw i m.kp=true:=by simpa[bZ] using hi
   have h6:=aU.1 g6 i (b5.2 hi);rcases hP i _ q2 A nv refl with⟨_,⟨q,t,k1,k2,k3⟩|⟨k1,_⟩⟩|⟨_,_,_,⟨q,t,k1,k2,k3⟩|⟨k1,_⟩⟩
   .exact⟨q,k1,(H.kP q t k2).1,by unfold Lh;rw[hb,k1]⟩
   .rw[k1] at h6;cases h6
   .exact⟨q,k1,(H.kP q t k2).1,by unfold Lh;rw[hb,k1]⟩
   rw[k1] at h6;cases h6
  have sN:∀ {i:Nat},m.kp<=i->i<m.wN.length->∃t,(b+i,some t)∈re:=λ{i} h1 h2=>by
   obtain⟨sp,v,q1,q2⟩:=Bh (x:=y.1) (i:=0) (bF i) (by rw[cG];exact h2);have hnr:GR m.wN i=false:=by
    cases hq:GR m.wN i with
    |false=>rfl
    |true=>have:=(aic i hq).1;omega
   obtain⟨k,x,t,_,k2,_,k4⟩:=VA FI i _ (cU.2 ⟨q2,by dsimp only;rw[hnr];rfl⟩);rw[NU h1 h2] at k2;cases k2;exact⟨t,k4⟩
  have hA:kZ F A (uv A A2 b m.kp m.wN.length):=λj hj=>ZP λ⟨q1,q2⟩=>by
   obtain⟨t,ht⟩:=sN (i:=j-b) (by omega) (by omega);have:=hB _ (aQ _ ht);have e:b+(j-b)=j:=by omega
   simp only[e] at this;exact hF j (by omega) this hj
  have ZS:∀i k,jI τ i=some (some k)->FU F (re++(Ed m.sh nv).map λq=>(q,(none:Option R2))) k:=λi k hi=>by
   have hl:=ago hi
   by_cases q:i<m.kp
   .obtain⟨q',_,k2,k3⟩:=agp q;rw[VC hl,k3] at hi;cases hi;exact .inl k2
   rw[NU (by omega) hl] at hi;cases hi;obtain⟨t,ht⟩:=sN (i:=i) (by omega) hl;exact .inr ⟨_,aQ _ ht⟩
  have agq:kZ (· <m.wN.length) A2 (mj (uv A A2 b m.kp m.wN.length) τ):=λi hi=>by
   by_cases q:i<m.kp
   .obtain⟨q',k1,k2,k3⟩:=agp q;obtain⟨e1,e2,e3,_,e5⟩:=mB (A:=uv A A2 b m.kp m.wN.length) (show jI τ i=some (some q') by rw[VC hi,k3]);obtain⟨d1,d2,d3,_,d5⟩:=mB (A:=A) k1;obtain⟨a1,a2,a3,a4⟩:=hA q' k2;obtain⟨c1,c2,c3,c4⟩:=hA2 i q;exact⟨by rw[e1,<-a1,<-d1,<-c1],by rw[e2,<-a2,<-d2,<-c2],by rw[e5,<-a3,<-d5,<-c3],by rw[e3,<-a4,<-d3,<-c4]⟩
   obtain⟨e1,e2,e3,_,e5⟩:=mB (A:=uv A A2 b m.kp m.wN.length) (NU (show m.kp<=i by omega) hi);obtain⟨a1,a2,a3,a4⟩:=ZO (A:=A) (B:=A2) (b:=b) (show m.kp<=i by omega) hi;exact⟨by rw[e1,a1],by rw[e2,a2],by rw[e5,a3],by rw[e3,a4]⟩
  have hpc:∀k z,(k,some z)∈re++(Ed m.sh nv).map (λq=>(q,(none:Option R2)))->∃i,z.den (uv A A2 b m.kp m.wN.length) k=(z.den (uv A A2 b m.kp m.wN.length) k)/\jI τ i=some (some k)/\ji A2 (ja (λ_=>none) (pY 0 m.wN y.1)) i=some (z.den (uv A A2 b m.kp m.wN.length) k)/\z.all (FU F (re++(Ed m.sh nv).map λq=>(q,(none:Option R2))))/\z.ku (uv A A2 b m.kp m.wN.length)/\sB z=false:=λk z hz=>by
   rcases aK.1 hz with hz|hz
   .obtain⟨i,x,t,k1,k2,k3,k4⟩:=VB FI k _ hz;cases k4;obtain⟨k1,k1r⟩:=cU.1 k1;have k1s:GR m.wN i=false:=by simpa using k1r
    have hkr:=Ef k1;obtain⟨sp,v,q1,q2⟩:=Eb k1;cases q2;have aid:sp.ZI=false:=by
     have RB:=k1s.symm.trans hkr;cases sp<;>first|rfl|cases RB
    obtain⟨p1,p2,p3,p4⟩:=agn ZS k3 k2 aid (uv A A2 b m.kp m.wN.length);have ZN:=Pc.Vx (v:=v) (aU.1 g4 sp q1);have hl:=(s9 k1).2;rw[cG] at hl;refine⟨i,rfl,k2,?_,p2,p3,p4⟩;show(ja _ _ i).map _=_;rw[GU k1,p1,<-R2.congr agq hl ZN.1];rfl
   obtain⟨q,_,hq⟩:=aV.1 hz;cases hq
  have hsw:=H.swap hA (w':=w') (S':=λk=>S k\/S2 k) (re:=re++(Ed m.sh nv).map λq=>(q,(none:Option R2))) (λq=> ∃j,(j,some q)∈nv/\GR m.sh j=false) (λq hq=>hK hq) hc2 (λk hk=>.inl hk) (λk hk=>by
   rcases hk with hk|hk
   .exact .inl hk
   .rcases F2.src k hk with q|q
    .exact .inl (by rw[hS2] at q;exact q)
    refine .inr ⟨?_,F2.nN k hk,λj z hz=>?_⟩
    .rcases q with q|q
     .exact .inr (by rw[M0] at q;exact q)
     exact .inl (by rw[hG2] at q;exact q)
    obtain⟨i,_,_,k2,_⟩:=hpc j z hz;exact λhh=>(F2.own i _ k k2 hh).2.2 hk) (λj z hz=>by
   obtain⟨i,_,_,k2,k3,k4,k5⟩:=hpc j z hz;refine⟨k3,k4,k5,(z.den _ j).up _ _ _ (F2.ok i _ k2) λ_ q=>.inr q,λc hc=>?_⟩;obtain⟨q1,q2,_⟩:=F2.own i _ c k2 hc;refine⟨?_,q2⟩;rcases q1 with q|q
   .exact .inr (by rw[M0] at q;exact q)
   .exact .inl (by rw[hG2] at q;exact q)) (λi j zi zj c hi hj ei ej=>by
   obtain⟨i',_,ki,k2,_⟩:=hpc i zi hi;obtain⟨j',_,kj,l2,_⟩:=hpc j zj hj;have:=F2.apart i' j' _ _ c k2 l2 ei ej;subst this;rw[ki] at kj;cases kj;rfl)
  have UK:((syl m.ag cs).all λy=>match y with| .tN _=>false|_=>true)=true:=by
   cases m.ag with
   |false=>show(cs.map Sy.one).all _=true;rw[List.all_map];exact aU.2 λ_ _=>rfl
   |true=>rfl
  have mw:∀z∈syl m.ag cs,z.all (FU F (re++(Ed m.sh nv).map λq=>(q,(none:Option R2))))/\z.ku (uv A A2 b m.kp m.wN.length):=λz hz=>by
   cases hg:m.ag with
   |false=>
    rw[hg] at hz;obtain⟨c,hc,rfl⟩:=aV.1 hz;have:=Ee ZS ZR c hc;exact⟨this.1,this.2 _⟩
   |true=>
    rw[hg] at hz;have:=av.1 hz;subst this;exact⟨λc hc=>(Ee ZS ZR c hc).1,λc hc=>(Ee ZS ZR c hc).2 _⟩
  refine⟨_,_,hsw,?_,(Bg mw).1,(Bg mw).2⟩;show v=(B8 (syl m.ag cs)).den _;have Dw:(pI m.rs y.2).map (Sc.den A2)=cs.map (Sc.den (uv A A2 b m.kp m.wN.length)):=by
   rw[qO agq λc hc=>(uW g5 c hc).1,(D8 ZR).1]
  rw[GQ UK,hv]
  congr 1
  unfold yC.rsy;cases m.ag with
  |false=>show(amx Sy.one _).map _=(cs.map Sy.one).map _;rw[cV,cV];exact Dw
  |true=>show[alA (amx (Sc.den A2) _).toArray]=[alA (amx _ cs).toArray];rw[Dw]
 cases h2
def xm {f:bA}{m:yC}{wo:m.X->Prop}{fx:m.X->m.Y}(ok:nE P f m wo fx):kI P:=⟨f,ady m wo fx,ZQ ok⟩
end
section
variable {P:ay}{T':iD}{v:af}
def adz (lg:List (Bool×Ty))(x:qp lg)(raw:List af):mM:=⟨yN 0 ((lB lg x 0).1++raw.map λu=>.one (tO u)),(lB lg x 0).2,(lB lg x 0).2.length⟩
theorem ZT {f:bA}(fn:Func)(n:Nat)(T:List (kI P)){lg:List (Bool×Ty)}{rs:List Ty}{fx:oG rs}(raw:List af)(o:Orig)(vs:List af)(x:qp lg)(hx:BX o.S (· <o.w.heap.size) o.w lg vs x)(hf:P.funcs[f]?=some fn)
  (k:∀a w,lE (jw.of o) n (adz lg x raw) a w->At pl P T (fn.body.getD .skip) (bodyPost P fn (Fv o λS v w'=>pg S w' rs v fx)) [.run []] a w)
  (hb:fn.body.isSome=true:=by kernel_rfl) (hn:fn.ntmps=n:=by kernel_rfl) (hl:decide (lg.length+raw.length<=n)=true:=by kernel_rfl):Calls P f (vs++raw).toArray o.w (Fv o λS v w'=>pg S w' rs v fx):=by
 have hlen:=x5 hx;refine enter fn n hf (λa ha=>?_) hb hn (by rw[aN,hlen];exact hl);obtain⟨A,h1,h2,h3,h5,h4⟩:=x4 (o:=jw.of o) lg x vs 0 T5 (λ_=>False) (xj (λk hk=>⟨hk,λq=>q⟩) hx) λ_ _ q=>q;have mw:((lB lg x 0).1++raw.map λu=>Sy.one (tO u)).map (Sy.den A)=vs++raw:=by
  rw[cg,h2,cV]
  congr 1
  exact(ajQ λu _=>wU A u).trans (List.map_id raw)
 have KM:∀y∈(lB lg x 0).1++raw.map λu=>Sy.one (tO u),y.all (FU (λ_=>False) (lB lg x 0).2)/\y.ku A:=λy hy=>by
  rcases aK.1 hy with hy|hy
  .exact h4 y hy
  obtain⟨u,_,rfl⟩:=aV.1 hy;exact⟨wV _ u,uK A u⟩
 have qt:∀t e,rI (adz lg x raw) t=some e->e.ch=[]/\∃y,((lB lg x 0).1++raw.map λu=>Sy.one (tO u))[t]?=some y/\e=⟨[],y⟩:=λt e he=>by
  obtain⟨_,y,q1,q2⟩:=sK he;exact⟨by rw[q2],y,by simpa using q1,q2⟩
 have H0:kD (jw.of o) n A o.S (λ_=>False) (λ_=>none) (λ_=>none) a o.w:=⟨ha.1,ha.2.1,λ_ _ q=>(by cases q),λ_ _ q=>(by cases q),λ_ _ q=>(by cases q),nM.start (jw.of o),λ_ _ q=>(by cases q),⟨λ_ q=>q.elim,λ_ q=>q.elim⟩⟩;have H1:=H0.ro (kZ.refl _ _) h3;have hle:∀j,FU (λ_=>False) (lB lg x 0).2 j->j<(lB lg x 0).2.length:=λj hj=>by
  rcases hj with hj|⟨z,hz⟩
  .exact hj.elim
  have:=h5 _ hz;simpa using this
 have sZ:lE (jw.of o) n (adz lg x raw) a o.w:=by
  refine⟨⟨A,o.S,H1.size,H1.lH,λt e he=>?_,λt e he _=>?_,λj y hj=>?_,H1.jl,H1.args,⟨λ_ q=>q.elim,λ_ q=>q.elim⟩⟩,λt e he=>(qt t e he).1,λ_ q=>q.elim⟩
  .obtain⟨_,y,q1,rfl⟩:=qt t e he;have hv:(vs++raw)[t]?=some (y.den A):=by rw[<-mw,b9,q1];rfl
   have MY:=(bW.1 hv).1;refine ha.2.2 ⟨t,[],y.den A⟩ (aV.2 ⟨(t,y.den A),?_,rfl⟩);refine ajO.2 ⟨t,?_⟩;rw[ak6];exact⟨by rw[List.getElem?_range MY],hv⟩
  .obtain⟨_,y,q1,rfl⟩:=qt t e he;have:=KM y (bJ q1);exact⟨Sy.mono hle this.1,this.2⟩
  have:=H1.kP j y hj;exact⟨hle j this.1,R2.mono hle this.2.1,this.2.2⟩
 have:=k a o.w sZ;have this:(sub (fn.body.getD .skip) []).qC pl P (post pl P (fn.body.getD .skip) (bodyPost P fn (Fv o λS v w'=>pg S w' rs v fx)) []) a o.w:=this.get;have this:=D3.1 this;exact this
def adA (w:aa):Orig:=⟨w,λk=>k<w.heap.size,λ_ h=>h⟩
theorem RY {f:bA}{args:Array af}{w:aa}{b:Bool}(h:Calls P f args w (Fv (adA w) λS v w'=>pg S w' [.bool] v ((b,()):oG [.bool]))):Calls P f args w (MU (.bool b) w):=
 h.mono λe w' ⟨v,h1,h2,h3⟩=>by
  obtain⟨cs,q1,q2⟩:Rd (wg (adA w) w') w' v (show Bool from b):=h2;have q1:cs=[.bool b]:=q1;subst q1;exact⟨by rw[h1,q2];rfl,h3⟩
end
def pJ (u:List Int):Prop:=∀j:Nat,j<u.length->0<=u.getD j 0/\u.getD j 0<=(j:Int)
def G0 (u:List Int):Nat->Int->Int
 |0,i=>i
 |f+1,i=>if u.getD i.toNat 0=i then i else G0 u f (u.getD i.toNat 0)
def iS (u:List Int)(i:Int):Int:=G0 u (i.toNat+1) i
theorem mQ {u:List Int}(h:pJ u){i:Int}(h0:0<=i)(h1:i<(u.length:Int)):0<=u.getD i.toNat 0/\u.getD i.toNat 0<=i:=by
 have:=h i.toNat (by omega);omega
theorem G2 {u:List Int}(h:pJ u):∀(f g:Nat) (i:Int),0<=i->i<(u.length:Int)->i.toNat<f->i.toNat<g->G0 u f i=G0 u g i
 |0,_,_,_,_,h,_=>by omega
 |_+1,0,_,_,_,_,h=>by omega
 |f+1,g+1,i,h0,h1,hf,hg=>by
  unfold G0;split
  .rfl
  rename_i mc;have:=mQ h h0 h1;exact G2 h f g _ this.1 (by omega) (by omega) (by omega)
theorem nX {u:List Int}(h:pJ u){i:Int}(h0:0<=i)(h1:i<(u.length:Int)):iS u i=if u.getD i.toNat 0=i then i else iS u (u.getD i.toNat 0):=by
 unfold iS
 conv=>lhs;unfold G0
 split
 .rfl
 rename_i mc;have:=mQ h h0 h1;exact G2 h _ _ _ this.1 (by omega) (by omega) (by omega)
theorem lJ {u:List Int}(h:pJ u){i:Int}(h0:0<=i)(h1:i<(u.length:Int))(hr:u.getD i.toNat 0=i):iS u i=i:=by rw[nX h h0 h1,ak hr]
theorem Ae {u:List Int}(h:pJ u){i:Int}(h0:0<=i)(h1:i<(u.length:Int)):iS u (u.getD i.toNat 0)=iS u i:=by
 rw[nX h h0 h1];split
 .rename_i e;rw[e];exact lJ h h0 h1 e
 rfl
theorem VD {u:List Int}(h:pJ u):∀(n:Nat) (i:Int),i.toNat<=n->0<=i->i<(u.length:Int)->0<=iS u i/\iS u i<=i/\u.getD (iS u i).toNat 0=iS u i:=by
 intro n
 induction n with
 |zero=>
  intro i hn h0 h1;have:=mQ h h0 h1;rw[lJ h h0 h1 (by omega)];exact⟨h0,bN _,by omega⟩
 |succ n ih=>
  intro i hn h0 h1;have hu:=mQ h h0 h1;rw[nX h h0 h1];split
  .rename_i e;exact⟨h0,bN _,e⟩
  rename_i e;obtain⟨a,b,c⟩:=ih (u.getD i.toNat 0) (by omega) hu.1 (by omega);exact⟨a,by omega,c⟩
theorem pK {u:List Int}(h:pJ u){i:Int}(h0:0<=i)(h1:i<(u.length:Int)):0<=iS u i/\iS u i<=i/\u.getD (iS u i).toNat 0=iS u i:=VD h _ i (az _) h0 h1
theorem vL {u:List Int}(h:pJ u){i:Int}(h0:0<=i)(h1:i<(u.length:Int)):iS u (iS u i)=iS u i:=by
 obtain⟨a,b,c⟩:=pK h h0 h1;exact lJ h a (by omega) c
theorem uZ {u:List Int}{i j:Nat}{x:Int}(hi:i<u.length):(u.set i x).getD j 0=if i=j then x else u.getD j 0:=by
 rw[aJ,ak7,aJ];split
 .rename_i e;subst e;simp[hi]
 rfl
theorem PO {u:List Int}(h:pJ u){i:Int}(h0:0<=i)(h1:i<(u.length:Int)):
  pJ (u.set i.toNat (u.getD (u.getD i.toNat 0).toNat 0))/\∀j,0<=j->j<(u.length:Int)->iS (u.set i.toNat (u.getD (u.getD i.toNat 0).toNat 0)) j=iS u j:=by
 have hu:=mQ h h0 h1;have hz:=mQ h hu.1 (show u.getD i.toNat 0<(u.length:Int) by omega);have o6:pJ (u.set i.toNat (u.getD (u.getD i.toNat 0).toNat 0)):=by
  intro j hj;rw[bR] at hj;rw[uZ (by omega)];split
  .rename_i e;subst e;omega
  exact h j hj
 refine⟨o6,?_⟩;have key:∀(n:Nat) (j:Int),j.toNat<=n->0<=j->j<(u.length:Int)->iS (u.set i.toNat (u.getD (u.getD i.toNat 0).toNat 0)) j=iS u j:=by
  intro n
  induction n with
  |zero=>
   intro j hn Af zD;have a:=mQ h Af zD;have b:=mQ o6 Af (by rw[bR];exact zD);rw[lJ h Af zD (by omega),lJ o6 Af (by rw[bR];exact zD) (by omega)]
  |succ n ih=>
   intro j hn Af zD;have a:=mQ h Af zD;have adB:j<((u.set i.toNat (u.getD (u.getD i.toNat 0).toNat 0)).length:Int):=by rw[bR];exact zD
   rw[nX o6 Af adB,uZ (by omega)]
   by_cases e:i.toNat=j.toNat
   .have e:i=j:=by omega
    subst e;rw[ak rfl]
    by_cases c:u.getD (u.getD i.toNat 0).toNat 0=i
    .rw[ak c,lJ h h0 h1 (by omega)]
    rw[ah c,ih _ (by omega) hz.1 (by omega),Ae h hu.1 (by omega),Ae h h0 h1]
   rw[ah e];rw[nX h Af zD];split
   .rfl
   exact ih _ (by omega) a.1 (by omega)
 exact λj=>key j.toNat j (az _)
theorem ZU {u:List Int}(h:pJ u){r s:Int}(hr:0<=r)(hs:0<=s)(Tu:r<(u.length:Int))(ZV:s<(u.length:Int))(er:u.getD r.toNat 0=r)(es:u.getD s.toNat 0=s)(mc:r≠s):
  pJ (u.set (max r s).toNat (min r s))/\∀j,0<=j->j<(u.length:Int)->iS (u.set (max r s).toNat (min r s)) j=if iS u j=max r s then min r s else iS u j:=by
 have o6:pJ (u.set (max r s).toNat (min r s)):=by
  intro j hj;rw[bR] at hj;rw[uZ (by omega)];split
  .rename_i e;subst e;omega
  exact h j hj
 refine⟨o6,?_⟩;have rM:u.getD (max r s).toNat 0=max r s:=by
  rcases ak8 r s with q|q
  .rw[alB q];exact es
  rw[alC q];exact er
 have rm:u.getD (min r s).toNat 0=min r s:=by
  rcases ak8 r s with q|q
  .rw[alD q];exact er
  rw[alE q];exact es
 have key:∀(n:Nat) (j:Int),j.toNat<=n->0<=j->j<(u.length:Int)->iS (u.set (max r s).toNat (min r s)) j=if iS u j=max r s then min r s else iS u j:=by
  intro n
  induction n with
  |zero=>
   intro j hn Af zD;have a:=mQ h Af zD;have b:=mQ o6 Af (by rw[bR];exact zD);rw[lJ h Af zD (by omega),lJ o6 Af (by rw[bR];exact zD) (by omega),ah (by omega)]
  |succ n ih=>
   intro j hn Af zD;have a:=mQ h Af zD;have adB:j<((u.set (max r s).toNat (min r s)).length:Int):=by rw[bR];exact zD
   rw[nX o6 Af adB,uZ (by omega)]
   by_cases e:(max r s).toNat=j.toNat
   .have e:j=max r s:=by omega
    subst e;rw[ak rfl,ah (by omega),ih (min r s) (by omega) (by omega) (by omega),lJ h (by omega) (by omega) rm,lJ h Af zD rM,ah (by omega),ak rfl]
   rw[ah e,nX h Af zD];split
   .rename_i c;rw[ah (by omega)]
   exact ih _ (by omega) a.1 (by omega)
 exact λj=>key j.toNat j (az _)
theorem tY {u:List Int}{j:Nat}{x:Int}:(u++[x]).getD j 0=if j<u.length then u.getD j 0 else if j=u.length then x else 0:=by
 rw[aJ,aJ,ami];split
 .rfl
 by_cases e:j=u.length
 .rw[ak e];simp[e]
 rw[ah e,dF (by simp;omega)];rfl
theorem NV {u:List Int}(h:pJ u):pJ (u++[(u.length:Int)])/\(∀j,0<=j->j<(u.length:Int)->iS (u++[(u.length:Int)]) j=iS u j)/\iS (u++[(u.length:Int)]) (u.length:Int)=(u.length:Int):=by
 have o6:pJ (u++[(u.length:Int)]):=by
  intro j hj;rw[aN,cz] at hj;rw[tY];split
  .exact h j (by assumption)
  rw[ak (by omega)];omega
 have hl:((u++[(u.length:Int)]).length:Int)=(u.length:Int)+1:=by simp
 refine⟨o6,?_,lJ o6 (by omega) (by omega) (by rw[tY,ah (by omega),ak (by omega)])⟩;have key:∀(n:Nat) (j:Int),j.toNat<=n->0<=j->j<(u.length:Int)->iS (u++[(u.length:Int)]) j=iS u j:=by
  intro n
  induction n with
  |zero=>
   intro j hn Af zD;have a:=mQ h Af zD;rw[lJ h Af zD (by omega),lJ o6 Af (by omega) (by rw[tY,ak (by omega)];omega)]
  |succ n ih=>
   intro j hn Af zD;have a:=mQ h Af zD;have e9:(u++[(u.length:Int)]).getD j.toNat 0=u.getD j.toNat 0:=by rw[tY,ak (by omega)]
   rw[nX o6 Af (by omega),nX h Af zD,e9];split
   .rfl
   exact ih _ (by omega) a.1 (by omega)
 exact λj=>key j.toNat j (az _)
theorem aie (p:Addr)(w:aa)(hc:∃x,w.cell? p=some (.bool x))(hz:w.frozen? p=false):
  CallsD aq 166 #[.pointer (some p)] .returning w λe u' w'=>e= .returned (.tuple #[])/\u'= .returning/\w'=w.setCell p (.bool true):=by
 have⟨x,hc⟩:=hc;refine callsD_of_wpS func166 rfl λadC cs hu=>?_;apply wpS_region;simp[wpOpsS,go_sem,recoverD,hu,Tryz.ntmps166,Exit.thenS,hc,hz,bodyPostS,results,Tryz.results166];cases adC;simp_all
theorem aif (sb pb:Nat)(x:Int)(w:aa)(DP:(w.alloc (.cells #[.bool false] 4)).cell? ⟨sb,0,none⟩=some (.map (some pb)))(hl:∃v,(dK 140 (.map (some pb)) (.int .i64 x) false).run aq (w.alloc (.cells #[.bool false] 4))= .ok v (w.alloc (.cells #[.bool false] 4))):
  Calls aq 138 #[.pointer (some ⟨sb,0,none⟩),.int .i64 x] w (MU (.bool true) w):=by
 have⟨v,hl⟩:=hl;have hmf:∀(fn:Fn) (first cap:Array af) (w:aa),(Instr.makeFunc fn first cap).run aq w= .ok (.func fn first cap) w:=λ_ _ _ _=>rfl
 go_enter_defers func138,Tryz.ntmps138
 go_wp2
 refine leaves_cons (f:=166) (args:= #[.pointer (some ⟨w.heap.size,0,none⟩)]) (by simp) (by simp[go_sem]) ?_;refine(aie ⟨w.heap.size,0,none⟩ _ ⟨true,by simp[go_sem]⟩ (by simp[go_sem])).mono ?_;rintro e u' w'' ⟨rfl,rfl,rfl⟩;simp[Leaves,settle,results,Tryz.results138,go_sem];exact⟨rfl,oO _ _⟩
def adD (b:Nat)(ko:List (Nat×Nat))(ys:List Sy):Tr Out:=match ko,ys with
 |[],[.one (.ptr j 0),.one (.v (.int .i64 x))]=>.res j λz=>match z with
  | .box _ (.mp q::_)=>.res q λy=>match y with
   | .map .int .int _=>.ret ⟨[mR .int (show Int from x)],[],.one (.b (.lit true)),[]⟩
   |_=>.fail
  |_=>.fail
 |_,_=>.fail
theorem ZW:zS aq 138 adD:=by
 intro o n A S F s r a w b B ko ys out H hF YO BZ h kF tP hB;unfold adD at h;split at h
 .rename_i j x;obtain⟨z,hz,h⟩:=iW h;split at h
  .rename_i bt q l;obtain⟨y,hy,h⟩:=iW h;split at h
   .rename_i m;have e:=iX h;subst e;have hx:mR .int (show Int from x):=kF _ (av.2 rfl);have hm:ji A r j=some (Rs.of (.box (A.b j) bt ((Sc.mp q::l).map (Sc.den A)))):=by simp[ji,hz,R2.den]
    have hb:w.heap[A.b j]?=some (.cells (((Sc.mp q::l).map (Sc.den A)).toArray) bt (0,0)):=H.jl.ok j _ hm;obtain⟨_,hbl,_⟩:=H.jl.own j _ (A.b j) hm rfl;have hq:ji A r q=some (yH (A.m q) m):=by simp[ji,hy,R2.den]
    obtain⟨pb,hpb,Dk⟩:∃pb,A.m q=some pb/\pX S w pb m:=H.jl.ok q _ hq;obtain⟨_,VE,_⟩:=H.jl.own q _ pb hq hpb;have NW:=oO w (.cells #[.bool false] 4);obtain⟨zs,kY,_,_⟩:=Dk.keep (w':=w.alloc (.cells #[.bool false] 4)) (λk hk=>NW.block k (H.jl.nN k hk)) (NW.block pb VE);have Gk:=kY.look (P:=aq) (t:=140) (kt:=3) (et:=3) (by kernel_rfl) (by kernel_rfl) (z:=.int .i64 0) (by kernel_rfl) hx;have qF:(w.alloc (.cells #[.bool false] 4)).cell? ⟨A.b j,0,none⟩=some (.map (some pb)):=by
     rw[cell_of_row _ _ _ _ _ _ ((NW.block _ hbl).trans hb)];show some (Value.map (A.m q))=_;rw[hpb]
    refine(aif (A.b j) pb x w qF ⟨_,Gk⟩).mono λe w' hw=>?_;obtain⟨rfl,RZ⟩:=hw;refine⟨_,rfl,A,S,?_,rfl,tv,tv⟩;exact⟨H.size,H.lH,H.env,λt e he hc=>⟨Sy.mono (λ_=>.inl) (H.rE t e he hc).1,(H.rE t e he hc).2⟩,λj x hj=>⟨.inl (H.kP j x hj).1,R2.mono (λ_=>.inl) (H.kP j x hj).2.1,(H.kP j x hj).2.2⟩,H.jl.on RZ,H.args,⟨λj hj=>.inl (H.AP.1 j hj),H.AP.2⟩⟩
   cases h
  cases h
 cases h
def acw:kI aq:=⟨_,adD,ZW⟩
abbrev p9:=List (Int×Int)
def kz (M:p9)(L:List Int)(x:Int):p9:=if(iA M x).isSome then M else lD M x (L.length:Int)
def kN (M:p9)(L:List Int)(x:Int):List Int:=if(iA M x).isSome then L else L++[x]
def kT (M:p9)(L U:List Int)(x:Int):List Int:=if(iA M x).isSome then U else U++[(L.length:Int)]
def r7 (M:p9)(g x:Int):Int:=if(iA M x).isSome then g else g+1
def lS (M:p9)(L:List Int)(x:Int):Int:=(iA M x).getD (L.length:Int)
def M1:Nat->List Int->Int->List Int×Int
 |0,U,i=>(U,i)
 |f+1,U,i=>if U.getD i.toNat 0=i then(U,i) else M1 f (U.set i.toNat (U.getD (U.getD i.toNat 0).toNat 0)) ((U.set i.toNat (U.getD (U.getD i.toNat 0).toNat 0)).getD i.toNat 0)
theorem hvS {f:Nat}{c:List Int}{k:Int}(hf:0<f)(h:¬c.getD k.toNat 0=k):M1 f c k=M1 (f-1) (c.set k.toNat (c.getD (c.getD k.toNat 0).toNat 0)) ((c.set k.toNat (c.getD (c.getD k.toNat 0).toNat 0)).getD k.toNat 0):=by
 obtain⟨q,rfl⟩:∃q,f=q+1:=⟨f-1,by omega⟩;rw[show q+1-1=q by omega]
 conv=>lhs;unfold M1
 rw[ah h]
theorem hvE {f:Nat}{c:List Int}{k:Int}(hf:0<f)(h:c.getD k.toNat 0=k):M1 f c k=(c,k):=by
 obtain⟨q,rfl⟩:∃q,f=q+1:=⟨f-1,by omega⟩;unfold M1;rw[ak h]
def qI (U:List Int)(i:Int):List Int:=(M1 (i.toNat+1) U i).1
def Cv (U:List Int)(i:Int):Int:=(M1 (i.toNat+1) U i).2
theorem Eg:∀(f:Nat) (U:List Int) (i:Int),pJ U->0<=i->i<(U.length:Int)->i.toNat<f->
  (M1 f U i).2=iS U i/\pJ (M1 f U i).1/\(M1 f U i).1.length=U.length/\∀j,0<=j->j<(U.length:Int)->iS (M1 f U i).1 j=iS U j
 |0,_,_,_,_,_,h=>by omega
 |f+1,U,i,hU,h0,h1,hf=>by
  unfold M1;split
  .rename_i he;exact⟨(lJ hU h0 h1 he).symm,hU,rfl,λ_ _ _=>rfl⟩
  rename_i he;have hy:=mQ hU h0 h1;have hz:=mQ hU hy.1 (show U.getD i.toNat 0<(U.length:Int) by omega);obtain⟨k1,k2⟩:=PO hU h0 h1;have hn:(U.set i.toNat (U.getD (U.getD i.toNat 0).toNat 0)).getD i.toNat 0=U.getD (U.getD i.toNat 0).toNat 0:=by rw[uZ (by omega),ak rfl]
  have hl:(U.set i.toNat (U.getD (U.getD i.toNat 0).toNat 0)).length=U.length:=bR ..;rw[hn];obtain⟨q1,q2,q3,q4⟩:=Eg f (U.set i.toNat (U.getD (U.getD i.toNat 0).toNat 0)) (U.getD (U.getD i.toNat 0).toNat 0) k1 hz.1 (by omega) (by omega);refine⟨?_,q2,by omega,λj j0 j1=>by rw[q4 j j0 (by omega),k2 j j0 j1]⟩;rw[q1,k2 _ hz.1 (by omega),Ae hU hy.1 (by omega),Ae hU h0 h1]
def jnM (M:p9)(L:List Int)(x y:Int):p9:=kz (kz M L x) (kN M L x) y
def jnL (M:p9)(L:List Int)(x y:Int):List Int:=kN (kz M L x) (kN M L x) y
def VF (M:p9)(L U:List Int)(x y:Int):List Int:=qI (qI (kT (kz M L x) (kN M L x) (kT M L U x) y) (lS M L x)) (lS (kz M L x) (kN M L x) y)
def zf (M:p9)(L U:List Int)(x y:Int):Int:=Cv (kT (kz M L x) (kN M L x) (kT M L U x) y) (lS M L x)
def zg (M:p9)(L U:List Int)(x y:Int):Int:=Cv (qI (kT (kz M L x) (kN M L x) (kT M L U x) y) (lS M L x)) (lS (kz M L x) (kN M L x) y)
def Tv (M:p9)(L U:List Int)(x y:Int):List Int:=if zf M L U x y=zg M L U x y then VF M L U x y else(VF M L U x y).set (max (zf M L U x y) (zg M L U x y)).toNat (min (zf M L U x y) (zg M L U x y))
def R4 (M:p9)(L U:List Int)(g x y:Int):Int:=if zf M L U x y=zg M L U x y then r7 (kz M L x) (r7 M g x) y else r7 (kz M L x) (r7 M g x) y-1
def VG (M:p9)(L U:List Int)(x y:Int):Bool:=if zf M L U x y=zg M L U x y then false else true
structure zh (M:p9)(L U:List Int):Prop where
 ok:pJ U
 len:U.length=L.length
 at_:∀x i,iA M x=some i->0<=i/\i<(L.length:Int)/\L.getD i.toNat 0=x
 FM:M.length<=L.length
 ex:∀i:Nat,i<L.length->iA M (L.getD i 0)=some (i:Int)
theorem Ll (M:p9)(L:List Int)(x:Int):L.length<=(kN M L x).length/\(kN M L x).length<=L.length+1:=by
 unfold kN;split
 .omega
 simp
theorem VH (M:p9)(g x:Int):g<=r7 M g x/\r7 M g x<=g+1:=by unfold r7;split<;>omega
theorem zh.nil:zh [] [] []:=⟨λj h=>(by simp at h),rfl,λx i h=>(by cases h),az _,λi h=>(by simp at h)⟩
theorem zh.put {M:p9}{L U:List Int}(h:zh M L U)(x:Int):zh (kz M L x) (kN M L x) (kT M L U x)/\0<=lS M L x/\lS M L x<((kN M L x).length:Int)/\iA (kz M L x) x=some (lS M L x):=by
 cases hx:iA M x with
 |some i=>
  have e1:kz M L x=M:=by unfold kz;rw[hx];rfl
  have e2:kN M L x=L:=by unfold kN;rw[hx];rfl
  have e3:kT M L U x=U:=by unfold kT;rw[hx];rfl
  have e4:lS M L x=i:=by unfold lS;rw[hx];rfl
  rw[e1,e2,e3,e4];obtain⟨h1,h2,_⟩:=h.at_ x i hx;exact⟨h,h1,h2,hx⟩
 |none=>
  have e1:kz M L x=lD M x (L.length:Int):=by unfold kz;rw[hx];rfl
  have e2:kN M L x=L++[x]:=by unfold kN;rw[hx];rfl
  have e3:kT M L U x=U++[(L.length:Int)]:=by unfold kT;rw[hx];rfl
  have e4:lS M L x=(L.length:Int):=by unfold lS;rw[hx];rfl
  rw[e1,e2,e3,e4];have hlen:=h.len;have wQ:∀i:Nat,i<L.length->L.getD i 0≠x:=λi hi q=>by
   have:=h.ex i hi;rw[q,hx] at this;cases this
  refine⟨⟨?_,by simp[hlen],λz i hz=>?_,?_,λi hi=>?_⟩,by omega,by simp;omega,by rw[jT,ak rfl]⟩
  .have:=(NV h.ok).1;rwa[hlen] at this
  .rw[jT] at hz;split at hz
   .rename_i q;cases hz;subst q;refine⟨by omega,by simp;omega,?_⟩;rw[cH];simp
   obtain⟨k1,k2,k3⟩:=h.at_ z i hz;refine⟨k1,by simp;omega,?_⟩;rw[aJ,cO (by omega),<-aJ];exact k3
  .have:=ny M x (L.length:Int);have:=h.FM;simp;omega
  rw[jT];simp at hi
  by_cases q:i<L.length
  .rw[aJ,cO q,<-aJ,ah λe=>wQ i q e.symm];exact h.ex i q
  have:i=L.length:=by omega
  subst this;simp
theorem agt {U:List Int}{i j:Int}(hU:pJ U)(i0:0<=i)(i1:i<(U.length:Int))(j0:0<=j)(j1:j<(U.length:Int)):
  pJ (qI U i)/\(qI U i).length=U.length/\pJ (qI (qI U i) j)/\(qI (qI U i) j).length=U.length/\0<=Cv U i/\Cv U i<(U.length:Int)/\0<=Cv (qI U i) j/\Cv (qI U i) j<(U.length:Int):=by
 obtain⟨a1,a2,a3,_⟩:=Eg (i.toNat+1) U i hU i0 i1 (cX _);have a3:(qI U i).length=U.length:=a3;have a2:pJ (qI U i):=a2;obtain⟨b1,b2,b3,_⟩:=Eg (j.toNat+1) (qI U i) j a2 j0 (by omega) (cX _);have b3:(qI (qI U i) j).length=(qI U i).length:=b3;have a1:Cv U i=iS U i:=a1;have b1:Cv (qI U i) j=iS (qI U i) j:=b1;obtain⟨q1,q2,_⟩:=pK hU i0 i1;obtain⟨r1,r2,_⟩:=pK a2 j0 (show j<((qI U i).length:Int) by omega);exact⟨a2,a3,b2,by omega,by rw[a1];exact q1,by rw[a1];omega,by rw[b1];exact r1,by rw[b1];omega⟩
def NY (n:Int)(e:Int×Int):Prop:=0<=e.1/\e.1<n/\0<=e.2/\e.2<n
instance (n:Int) (e:Int×Int):Decidable (NY n e):=by unfold NY;infer_instance
def R5 (n:Int)(E:List (Int×Int)):Prop:=∀j,j<E.length->NY n (E.getD j (0,0))
instance (n:Int) (E:List (Int×Int)):Decidable (R5 n E):=by unfold R5;infer_instance
def jm (n:Int)(E:List (Int×Int)):Int:=if n<0 then 3 else if 1024<n\/1024-n<(E.length:Int) then 2 else if R5 n E then 0 else 3
theorem Eh {n:Int}{E:List (Int×Int)}(h0:0<=n)(h1:n<=1024)(h2:(E.length:Int)<=1024-n){i:Int}(hi:0<=i)(hl:i<(E.length:Int))(h:¬NY n (E.getD i.toNat (0,0))):jm n E=3:=by
 unfold jm;rw[ah (by omega),ah (by omega),ah (λq:R5 n E=>h (q i.toNat (by omega)))]
theorem G3 {n:Int}{E:List (Int×Int)}(h0:0<=n)(h1:n<=1024)(h2:(E.length:Int)<=1024-n){i:Int}(hl:¬i<(E.length:Int))(h:∀j:Nat,(j:Int)<i->NY n (E.getD j (0,0))):jm n E=0:=by
 unfold jm;rw[ah (by omega),ah (by omega),ak (show R5 n E from λj hj=>h j (by omega))]
def jQ (l:List Int)(n:Int):Prop:=∀j,j<l.length->0<=l.getD j 0/\l.getD j 0<n/\(0<j->l.getD (j-1) 0<l.getD j 0)
instance (l:List Int) (n:Int):Decidable (jQ l n):=by unfold jQ;infer_instance
def Ei (l:List Int)(x:Int):Nat->Int->Int->Int
 |0,lo,_=>lo
 |f+1,lo,hi=>if lo<hi then(if l.getD ((lo+hi)/2).toNat 0<x then Ei l x f ((lo+hi)/2+1) hi else Ei l x f lo ((lo+hi)/2)) else lo
def VI (l:List Int)(x:Int):Int:=Ei l x l.length 0 (l.length:Int)
def hasB (l:List Int)(x:Int):Bool:=decide (VI l x<(l.length:Int)) && decide (l.getD (VI l x).toNat 0=x)
theorem xo {l:List Int}{x lo hi:Int}(h:¬lo<hi):∀f,Ei l x f lo hi=lo
 |0=>rfl
 |f+1=>by unfold Ei;rw[ah h]
theorem x6 {l:List Int}{x:Int}:∀(f g:Nat) (lo hi:Int),(hi-lo).toNat<=f->(hi-lo).toNat<=g->Ei l x f lo hi=Ei l x g lo hi
 |0,g,lo,hi,h1,h2=>by rw[xo (by omega),xo (by omega)]
 |f+1,0,lo,hi,h1,h2=>by rw[xo (by omega),xo (by omega)]
 |f+1,g+1,lo,hi,h1,h2=>by
  unfold Ei
  by_cases h:lo<hi
  .rw[ak h,ak h];split
   .exact x6 f g _ _ (by omega) (by omega)
   exact x6 f g _ _ (by omega) (by omega)
  rw[ah h,ah h]
def PR (l:List Int)(x lo hi:Int):Int:=Ei l x (hi-lo).toNat lo hi
theorem acy {l:List Int}{x lo hi:Int}(h:lo<hi)(hx:l.getD ((lo+hi)/2).toNat 0<x):PR l x lo hi=PR l x ((lo+hi)/2+1) hi:=by
 unfold PR;obtain⟨f,hf⟩:∃f,(hi-lo).toNat=f+1:=⟨(hi-lo).toNat-1,by omega⟩;rw[hf]
 conv=>lhs;unfold Ei
 rw[ak h,ak hx];exact x6 _ _ _ _ (by omega) (by omega)
theorem acz {l:List Int}{x lo hi:Int}(h:lo<hi)(hx:¬l.getD ((lo+hi)/2).toNat 0<x):PR l x lo hi=PR l x lo ((lo+hi)/2):=by
 unfold PR;obtain⟨f,hf⟩:∃f,(hi-lo).toNat=f+1:=⟨(hi-lo).toNat-1,by omega⟩;rw[hf]
 conv=>lhs;unfold Ei
 rw[ak h,ah hx];exact x6 _ _ _ _ (by omega) (by omega)
theorem Jb {l:List Int}{x lo hi:Int}(h:¬lo<hi):PR l x lo hi=lo:=xo h _
theorem acA (l:List Int)(x:Int):PR l x 0 (l.length:Int)=VI l x:=by unfold PR VI;congr 1
theorem Ca {l:List Int}{n:Int}(h:jQ l n):∀j,j<l.length->(j:Int)<=l.getD j 0
 |0,hj=>by have:=h 0 hj;omega
 |j+1,hj=>by
  have ih:=Ca h j (by omega);have:=(h (j+1) hj).2.2 (by omega);rw[show j+1-1=j by omega] at this;omega
theorem jv {l:List Int}{n:Int}(h:jQ l n)(hn:0<=n):(l.length:Int)<=n:=by
 cases hl:l.length with
 |zero=>omega
 |succ m=>
  have h1:=Ca h m (by omega);have h2:=h m (by omega);omega
def xp (E:List (Int×Int))(V L:List Int):Prop:=∀j,j<L.length->hasB V (E.getD (L.getD j 0).toNat (0,0)).1=true/\hasB V (E.getD (L.getD j 0).toNat (0,0)).2=true
instance (E:List (Int×Int)) (V L:List Int):Decidable (xp E V L):=by unfold xp;infer_instance
def iM (n:Int)(E:List (Int×Int))(V L:List Int):Int:=
 if jm n E≠0 then jm n E else if ¬jQ V n\/¬jQ L (E.length:Int) then 4 else if xp E V L then 0 else 4
theorem jD {n:Int}{E:List (Int×Int)}(h:jm n E=0):0<=n/\n<=1024/\(E.length:Int)<=1024-n/\R5 n E:=by
 unfold jm at h;split at h
 .omega
 split at h
 .omega
 split at h
 .rename_i q;exact⟨by omega,by omega,by omega,q⟩
 omega
theorem nG {l:List Int}{x:Int}:x∈l↔∃j,j<l.length/\l.getD j 0=x:=by
 constructor
 .intro h;obtain⟨j,hj,e⟩:=ajY h;exact⟨j,hj,by rw[aJ,aY hj];exact e⟩
 rintro⟨j,hj,e⟩;rw[aJ,aY hj] at e;exact e▸cI hj
theorem NZ {l:List Int}{i:Int}(h0:0<=i)(h:i<(l.length:Int)):l.drop i.toNat=l.getD i.toNat 0::l.drop (i+1).toNat:=by
 have hi:i.toNat<l.length:=by omega
 rw[List.drop_eq_getElem_cons hi,aJ,aY hi,show(i+1).toNat=i.toNat+1 by omega];rfl
theorem VJ {l:List Int}{i:Int}(h:¬i<(l.length:Int)):l.drop i.toNat=[]:=List.drop_of_length_le (by omega)
def agu (a b:List Int):Prop:=∀j,j<a.length->hasB b (a.getD j 0)=true
instance (a b:List Int):Decidable (agu a b):=by unfold agu;infer_instance
theorem jt {n:Int}{E:List (Int×Int)}{V L:List Int}(h:iM n E V L=0):jm n E=0/\jQ V n/\jQ L (E.length:Int)/\xp E V L:=by
 unfold iM at h;split at h
 .rename_i q;exact(q h).elim
 rename_i q;split at h
 .omega
 rename_i q2;split at h
 .rename_i q3;exact⟨by omega,by have:=not_or.1 q2;exact ajV.1 this.1,by have:=not_or.1 q2;exact ajV.1 this.2,q3⟩
 omega
def iC (E:List (Int×Int))(d:Int):Int:=if d%2=0 then(E.getD (d/2).toNat (0,0)).1 else(E.getD (d/2).toNat (0,0)).2
def jx (d:Int):Int:=if d%2=0 then d+1 else d-1
def kO (E:List (Int×Int))(e v s:Int):List Int:=
 (if s<=0/\iC E (2*e+0)=v then[2*e+0] else[])++(if s<=1/\iC E (2*e+1)=v then[2*e+1] else[])
theorem wv {E:List (Int×Int)}{e v s:Int}(h0:0<=s)(h:s<2):kO E e v s=(if iC E (2*e+s)=v then[2*e+s] else[])++kO E e v (s+1):=by
 rcases(show s=0\/s=1 by omega) with rfl|rfl
 .simp[kO]
 simp[kO]
theorem FN {E:List (Int×Int)}{e v s:Int}(h:¬s<2):kO E e v s=[]:=by
 unfold kO;rw[ah (by omega),ah (by omega)];rfl
def jR (E:List (Int×Int))(L:List Int)(v:Int):List Int:=L.flatMap λe=>kO E e v 0
theorem Jc {E:List (Int×Int)}{L:List Int}{v i:Int}(h0:0<=i)(h:i<(L.length:Int)):jR E (L.drop i.toNat) v=kO E (L.getD i.toNat 0) v 0++jR E (L.drop (i+1).toNat) v:=by
 rw[NZ h0 h];rfl
theorem N0 {E:List (Int×Int)}{L:List Int}{v i:Int}(h:¬i<(L.length:Int)):jR E (L.drop i.toNat) v=[]:=by rw[VJ h];rfl
theorem ZX {E:List (Int×Int)}{e:Int}:iC E (2*e+0)=(E.getD e.toNat (0,0)).1:=by
 unfold iC;rw[ak (by omega),show(2*e+0)/2=e by omega]
theorem ZY {E:List (Int×Int)}{e:Int}:iC E (2*e+1)=(E.getD e.toNat (0,0)).2:=by
 unfold iC;rw[ah (by omega),show(2*e+1)/2=e by omega]
def tZ (E:List (Int×Int))(L:List Int):List Int:=L.flatMap λe=>[(E.getD e.toNat (0,0)).1,(E.getD e.toNat (0,0)).2]
abbrev acB (l:List Int):List Int:=l.mergeSort λx y=>decide (x<=y)
def Jd (E:List (Int×Int))(e v:Int):Prop:=(E.getD e.toNat (0,0)).1=v\/(E.getD e.toNat (0,0)).2=v
instance (E:List (Int×Int)) (e v:Int):Decidable (Jd E e v):=by unfold Jd;infer_instance
theorem Ag {l:List Int}{n:Int}(h:jQ l n):∀ {i j:Nat},i<j->j<l.length->l.getD i 0<l.getD j 0:=by
 intro i j J2 hj
 induction j with
 |zero=>omega
 |succ j ih=>
  have h1:=(h (j+1) hj).2.2 (by omega);rw[show j+1-1=j by omega] at h1
  by_cases e:i=j
  .subst e;exact h1
  have:=ih (by omega) (by omega);omega
theorem Ej {l:List Int}{n x:Int}(h:jQ l n):∀(f:Nat) (lo hi:Int),(hi-lo).toNat<=f->0<=lo->lo<=hi->hi<=(l.length:Int)->(∀j:Nat,(j:Int)<lo->l.getD j 0<x)->(∀j:Nat,hi<=(j:Int)->j<l.length->x<=l.getD j 0)->
  0<=PR l x lo hi/\PR l x lo hi<=(l.length:Int)/\(∀j:Nat,(j:Int)<PR l x lo hi->l.getD j 0<x)/\(∀j:Nat,PR l x lo hi<=(j:Int)->j<l.length->x<=l.getD j 0)
 |0,lo,hi,hf,h0,h1,h2,ha,hb=>by
  rw[Jb (by omega)];exact⟨h0,by omega,ha,λj hj=>hb j (by omega)⟩
 |f+1,lo,hi,hf,h0,h1,h2,ha,hb=>by
  by_cases oB:lo<hi
  .by_cases hx:l.getD ((lo+hi)/2).toNat 0<x
   .rw[acy oB hx];refine Ej h f _ _ (by omega) (by omega) (by omega) h2 (λj hj=>?_) hb
    by_cases e:j=((lo+hi)/2).toNat
    .rw[e];exact hx
    have:=Ag h (i:=j) (j:=((lo+hi)/2).toNat) (by omega) (by omega);omega
   rw[acz oB hx];refine Ej h f _ _ (by omega) h0 (by omega) (by omega) ha (λj hj hl=>?_)
   by_cases e:j=((lo+hi)/2).toNat
   .rw[e];omega
   have:=Ag h (i:=((lo+hi)/2).toNat) (j:=j) (by omega) hl;omega
  rw[Jb oB];exact⟨h0,by omega,ha,λj hj=>hb j (by omega)⟩
theorem u6 {l:List Int}{n x:Int}(h:jQ l n):hasB l x=decide (x∈l):=by
 obtain⟨h0,h1,h2,h3⟩:=Ej (x:=x) h l.length 0 (l.length:Int) (by omega) (by omega) (by omega) (bN _) (λj hj=>by omega) (λj hj hl=>by omega);rw[acA] at h0 h1 h2 h3;unfold hasB;rw[<-Bool.decide_and];refine decide_eq_decide.2 ⟨λ⟨a,b⟩=>nG.2 ⟨_,by omega,b⟩,λhm=>?_⟩;obtain⟨j,hj,e⟩:=nG.1 hm;have h4:¬(j:Int)<VI l x:=λq=>by have:=h2 j q;omega
 have h5:=h3 (VI l x).toNat (by omega) (by omega);refine⟨by omega,?_⟩
 by_cases e2:(VI l x).toNat=j
 .rw[e2];exact e
 have:=Ag h (i:=(VI l x).toNat) (j:=j) (by omega) hj;omega
end Go.Proofs.YtnfdimfepbbbpaaGreatDoor
namespace Go.Proofs.YtnfdimfepbbbpaaGreatDoor.Deep
structure Gr where
 L:List Int
 A:Int->Int
 B:Int->Int
namespace Gr
variable (G:Gr)
def inc (f x:Int):Prop:=G.A f=x\/G.B f=x
def lp (f:Int):Prop:=G.A f=G.B f
def oZ (f x y:Int):Prop:=(G.A f=x/\G.B f=y)\/(G.A f=y/\G.B f=x)
def Ek (x y:Int):Prop:=∃f∈G.L,G.oZ f x y
inductive p8 (P:Int->Prop):Int->Int->Prop
 |refl {x}:P x->p8 P x x
 |step {x y z}:p8 P x y->G.Ek y z->P z->p8 P x z
variable {G}
theorem oZ.symm {f x y:Int}(h:G.oZ f x y):G.oZ f y x:=h.elim .inr .inl
theorem oZ.left {f x y:Int}(h:G.oZ f x y):G.inc f x:=h.elim (λh=>.inl h.1) (λh=>.inr h.2)
theorem oZ.right {f x y:Int}(h:G.oZ f x y):G.inc f y:=h.symm.left
theorem oZ.of {f x y:Int}(h:G.oZ f x y){z:Int}(hz:G.inc f z):z=x\/z=y:=by
 rcases h with⟨h1,h2⟩|⟨h1,h2⟩<;>rcases hz with e|e<;>simp_all
theorem Ek.symm {x y:Int}(h:G.Ek x y):G.Ek y x:=let⟨f,hf,hj⟩:=h;⟨f,hf,hj.symm⟩
theorem p8.mono {P P':Int->Prop}(hp:∀x,P x->P' x){x y:Int}(h:G.p8 P x y):G.p8 P' x y:=by
 induction h with
 |refl h=>exact .refl (hp _ h)
 |step _ ha hz ih=>exact .step ih ha (hp _ hz)
theorem p8.first {P:Int->Prop}{x y:Int}(h:G.p8 P x y):P x:=by
 induction h with
 |refl h=>exact h
 |step _ _ _ ih=>exact ih
theorem p8.last {P:Int->Prop}{x y:Int}(h:G.p8 P x y):P y:=by
 cases h with
 |refl h=>exact h
 |step _ _ h=>exact h
theorem p8.trans {P:Int->Prop}{x y z:Int}(h:G.p8 P x y)(k:G.p8 P y z):G.p8 P x z:=by
 induction k with
 |refl _=>exact h
 |step _ ha hz ih=>exact .step ih ha hz
theorem p8.one {P:Int->Prop}{x y:Int}(hx:P x)(h:G.Ek x y)(hy:P y):G.p8 P x y:=.step (.refl hx) h hy
theorem p8.symm {P:Int->Prop}{x y:Int}(h:G.p8 P x y):G.p8 P y x:=by
 induction h with
 |refl h=>exact .refl h
 |step h ha hz ih=>exact(p8.one hz ha.symm h.last).trans ih
theorem p8.closed {P Q:Int->Prop}(hc:∀x y,Q x->G.Ek x y->P y->Q y){x y:Int}(h:G.p8 P x y)(hx:Q x):Q y:=by
 induction h with
 |refl _=>exact hx
 |step _ ha hz ih=>exact hc _ _ ih ha hz
end Gr
def Tog (G:Gr)(z f g:Int):Prop:=∃a b,G.inc f a/\a≠z/\G.inc g b/\b≠z/\G.p8 (· ≠z) a b
structure St where
 met:Int->Int
 low:Int->Int
 cnt:Int
 wI:List Int
 lV:List (List Int)
 ins:List (Int×List Int)
def vp (f:Int->Int)(x y:Int):Int->Int:=λz=>if z=x then y else f z
theorem Em (f:Int->Int)(x y:Int):vp f x y x=y:=by simp[vp]
theorem N1 (f:Int->Int){x z:Int}(y:Int)(h:z≠x):vp f x y z=f z:=by simp[vp,h]
def enter (v:Int)(s:St):St:={s with cnt:=s.cnt+1,met:=vp s.met v (s.cnt+1),low:=vp s.low v (s.cnt+1)}
def key (b:List Int):Int×List Int:=((acB b).headD 0,acB b)
inductive Loop (D:Int->List Int)(T:Int->Int):Int->Int->List Int->St->St->Prop
 |nil {v via s}:Loop D T v via [] s s
 |lp {v via d ds s s'}:T d=v->Loop D T v via ds {s with ins:=s.ins++[(d/2,[d/2])]} s'->Loop D T v via (d::ds) s s'
 |via {v via d ds s s'}:T d≠v->d/2=via->Loop D T v via ds s s'->Loop D T v via (d::ds) s s'
 |keep {v via d ds s s1 s'}:T d≠v->d/2≠via->s.met (T d)=0->Loop D T (T d) (d/2) (D (T d)) (enter (T d) {s with wI:=s.wI++[d/2]}) s1->s1.low (T d)<s1.met v->
  Loop D T v via ds {s1 with low:=vp s1.low v (min (s1.low v) (s1.low (T d)))} s'->Loop D T v via (d::ds) s s'
 |take {v via d ds s s1 s' pre S}:T d≠v->d/2≠via->s.met (T d)=0->Loop D T (T d) (d/2) (D (T d)) (enter (T d) {s with wI:=s.wI++[d/2]}) s1->¬s1.low (T d)<s1.met v->s1.wI=pre++d/2::S->d/2∉pre->
  Loop D T v via ds {s1 with low:=vp s1.low v (min (s1.low v) (s1.low (T d))),wI:=pre,lV:=s1.lV++[d/2::S],ins:=s1.ins++[key (d/2::S)]} s'->Loop D T v via (d::ds) s s'
 |back {v via d ds s s'}:T d≠v->d/2≠via->s.met (T d)≠0->s.met (T d)<s.met v->Loop D T v via ds {s with wI:=s.wI++[d/2],low:=vp s.low v (min (s.low v) (s.met (T d)))} s'->Loop D T v via (d::ds) s s'
 |skip {v via d ds s s'}:T d≠v->d/2≠via->s.met (T d)≠0->¬s.met (T d)<s.met v->Loop D T v via ds s s'->Loop D T v via (d::ds) s s'
def Good (G:Gr)(ua:List Int)(b:List Int):Prop:=∃(p:Int) (N:Int->Prop),¬N p/\(∃f∈b,G.inc f p)/\(∀f∈b,f∈G.L/\¬G.lp f/\∃x y,N x/\(N y\/y=p)/\G.oZ f x y)/\
 (∀x y,N x->G.Ek x y->N y\/y=p)/\(∀x,N x->∀f∈G.L,G.inc f x->G.lp f\/f∈b\/f∈ua)/\(∀f∈b,∀g∈b,∀z,Tog G z f g)
def x7 (G:Gr):List Int->List (List Int)->Prop
 |_,[]=>True
 |ua,b::bs=>Good G ua b/\x7 G (ua++b) bs
theorem x7.snoc {G:Gr}{b:List Int}:∀ {ua:List Int} {bs:List (List Int)},x7 G ua bs->Good G (ua++bs.flatten) b->x7 G ua (bs++[b])
 |e,[],_,h=>⟨by simpa using h,tv⟩
 |e,c::bs,h,hb=>⟨h.1,x7.snoc h.2 (by simpa[bl] using hb)⟩
structure wA (G:Gr)(D:Int->List Int)(T:Int->Int):Prop where
 mem:∀v d,d∈D v->d/2∈G.L/\G.oZ (d/2) v (T d)
 all:∀f x,f∈G.L->G.inc f x->∃d∈D x,d/2=f
 one:∀v d d',d∈D v->d'∈D v->d/2=d'/2->T d≠v->d=d'
 nodup:∀v,(D v).Nodup
structure agv (G:Gr)(s:St):Prop where
 VK:∀x,0<=s.met x/\s.met x<=s.cnt
 inj:∀x y,s.met x≠0->s.met x=s.met y->x=y
 bv:∀f∈s.lV.flatten,∀x,G.inc f x->s.met x≠0
 nd:(s.lV.flatten++s.wI).Nodup
 ku:x7 G [] s.lV
 R6:∀q∈s.ins,(q.2=[q.1]/\q.1∈G.L/\G.lp q.1)\/∃b∈s.lV,q=key b
 R7:∀b∈s.lV,key b∈s.ins
 ne:∀b∈s.lV,b≠[]
structure Ctx (G:Gr)(Y:Int->Prop)(o:St)(v via:Int):Prop where
 mT:agv G o
 new:o.met v=0
 uw:∀x,Y x->o.met x≠0
 black:∀x y,o.met x≠0->¬Y x->G.Ek x y->o.met y≠0
 up:(via∉G.L/\(∀x,¬Y x)/\o.wI=[])\/(via∈G.L/\∃p,Y p/\G.oZ via p v/\∀x,Y x->o.met x<=o.met p)
 sv:∀f∈o.wI,f=via\/∀x,G.inc f x->o.met x≠0
abbrev New (o s:St)(x:Int):Prop:=o.met x=0/\s.met x≠0
structure ux (G:Gr)(T:Int->Int)(Y:Int->Prop)(o:St)(v via:Int)(dn:List Int)(s:St)(S:List Int)(Bs:List (List Int)):Prop where
 mT:agv G s
 old:∀x,o.met x≠0->s.met x=o.met x
 R8:∀x,o.met x≠0->s.low x=o.low x
 new:∀x,New o s x->o.cnt<s.met x
 Je:s.met v=o.cnt+1
 wI:s.wI=o.wI++S
 lV:s.lV=o.lV++Bs
 seen:∀x y,New o s x->x≠v->G.Ek x y->s.met y≠0
 G4:∀d∈dn,s.met (T d)≠0
 sE:∀f∈S,f∈G.L/\¬G.lp f/\f≠via/\∃x y,New o s x/\(New o s y\/Y y)/\G.oZ f x y
 bE:∀f∈Bs.flatten,∀x,G.inc f x->New o s x
 ZZ:∀x,New o s x->x≠v->∀f∈G.L,G.inc f x->(G.lp f/\(f,[f])∈s.ins)\/f∈S\/f∈Bs.flatten
 Lm:∀d∈dn,(G.lp (d/2)/\(d/2,[d/2])∈s.ins)\/d/2=via\/d/2∈S\/d/2∈Bs.flatten
 src:∀f∈S,G.inc f v->∀y,G.inc f y->Y y->∃d∈dn,d/2=f
 Z0:s.low v<=s.met v
 VL:∀f∈S,∀y,Y y->G.inc f y->s.low v<=s.met y
 Z1:s.low v<s.met v->∃f∈S,∃x y,New o s x/\Y y/\G.oZ f x y/\s.met y<=s.low v
 out:∀f∈S,∀z,New o s z->∃a y,G.inc f a/\a≠z/\Y y/\G.p8 (λx=>(New o s x\/Y x)/\x≠z) a y
 conn:∀x,New o s x->G.p8 (New o s) v x
 En:∀q∈o.ins,q∈s.ins
section
variable {G:Gr}{D:Int->List Int}{T:Int->Int}{Y:Int->Prop}{o s:St}{v via:Int}{dn S:List Int}{Bs:List (List Int)}
theorem ux.Ln (C:Ctx G Y o v via)(R:ux G T Y o v via dn s S Bs):New o s v:=⟨C.new,by rw[R.Je];have:=(C.mT.VK v).1;have:=(C.mT.VK v).2;omega⟩
theorem ux.more (R:ux G T Y o v via dn s S Bs){d:Int}(h1:s.met (T d)≠0)(h2:(G.lp (d/2)/\(d/2,[d/2])∈s.ins)\/d/2=via\/d/2∈S\/d/2∈Bs.flatten):ux G T Y o v via (dn++[d]) s S Bs:=
 {R with
  G4:=λd' yJ=>by
   rcases aK.1 yJ with h|h
   .exact R.G4 d' h
   rw[av.1 h];exact h1
  Lm:=λd' yJ=>by
   rcases aK.1 yJ with h|h
   .exact R.Lm d' h
   rw[av.1 h];exact h2
  src:=λf hf hv y hy hY=>by
   obtain⟨d',yJ,e⟩:=R.src f hf hv y hy hY;exact⟨d',aQ _ yJ,e⟩}
theorem ux.lp (R:ux G T Y o v via dn s S Bs){e:Int}(hL:e∈G.L)(hl:G.lp e):ux G T Y o v via dn {s with ins:=s.ins++[(e,[e])]} S Bs:=
 {R with
  mT:={R.mT with
   R6:=λq hq=>by
    rcases aK.1 hq with h|h
    .exact R.mT.R6 q h
    rw[av.1 h];exact .inl ⟨rfl,hL,hl⟩
   R7:=λb hb=>aQ _ (R.mT.R7 b hb)}
  ZZ:=λx hx mc f hf hi=>(R.ZZ x hx mc f hf hi).imp_left λh=>⟨h.1,aQ _ h.2⟩
  Lm:=λd hd=>(R.Lm d hd).imp_left λh=>⟨h.1,aQ _ h.2⟩
  En:=λq hq=>aQ _ (R.En q hq)}
theorem ux.Z2 (C:Ctx G Y o v via)(R:ux G T Y o v via dn s S Bs){w:Int}(hw:s.met w≠0)(oB:s.met w<s.met v)(VM:G.Ek w v):Y w:=by
 have ho:o.met w≠0:=λh0=>by
  have:=R.new w ⟨h0,hw⟩;rw[R.Je] at oB;omega
 exact bL λhn=>C.black w v ho hn VM C.new
theorem ux.back (HD:wA G D T)(C:Ctx G Y o v via)(R:ux G T Y o v via dn s S Bs){d:Int}(hd:d∈D v)(Na:∀x∈dn,x∈D v)(PS:d∉dn)(h1:T d≠v)(h2:d/2≠via)(h3:s.met (T d)≠0)(h4:s.met (T d)<s.met v):
  ux G T Y o v via (dn++[d]) {s with wI:=s.wI++[d/2],low:=vp s.low v (min (s.low v) (s.met (T d)))} (S++[d/2]) Bs:=by
 obtain⟨hL,hj⟩:=HD.mem v d hd;have VM:G.Ek v (T d):=⟨_,hL,hj⟩;have hY:Y (T d):=R.Z2 C h3 h4 VM.symm;have M3:=R.Ln C;have N2:¬G.lp (d/2):=λh=>by
  rcases hj with⟨a,b⟩|⟨a,b⟩
  .exact h1 (by rw[<-a,<-b];exact h.symm)
  exact h1 (by rw[<-a,<-b];exact h)
 have hnb:d/2∉s.lV.flatten:=λh=>by
  rw[R.lV,cF,aK] at h;rcases h with h|h
  .exact C.mT.bv _ h v hj.left C.new
  exact C.uw _ hY (R.bE _ h (T d) hj.right).1
 have Ah:d/2∉s.wI:=λh=>by
  rw[R.wI,aK] at h;rcases h with h|h
  .rcases C.sv _ h with e|e
   .exact h2 e
   exact e v hj.left C.new
  obtain⟨d',yJ,e⟩:=R.src _ h hj.left _ hj.right hY;exact PS (HD.one v d d' hd (Na d' yJ) e.symm h1▸yJ)
 have aih:∀x,o.met x≠0->vp s.low v (min (s.low v) (s.met (T d))) x=s.low x:=λx hx=>N1 _ _ (λe=>hx (by rw[e];exact C.new));have IA:vp s.low v (min (s.low v) (s.met (T d))) v=min (s.low v) (s.met (T d)):=Em _ _ _;refine⟨⟨R.mT.VK,R.mT.inj,R.mT.bv,?_,R.mT.ku,R.mT.R6,R.mT.R7,R.mT.ne⟩,R.old,λx hx=>(aih x hx).trans (R.R8 x hx),R.new,R.Je,by simp only[R.wI,bl],R.lV,R.seen,λd' yJ=>?_,λf hf=>?_,R.bE,λx hx mc f hf hi=>?_,λd' yJ=>?_,λf hf hv y hy Fx=>?_,?_,λf hf y Fx hi=>?_,λh=>?_,λf hf z hz=>?_,R.conn,R.En⟩
 .show(s.lV.flatten++(s.wI++[d/2])).Nodup;rw[<-bl,cY];refine⟨R.mT.nd,by simp,λa ha b hb=>?_⟩;rw[av.1 hb];rintro rfl;exact(aK.1 ha).elim hnb Ah
 .rcases aK.1 yJ with h|h
  .exact R.G4 d' h
  rw[av.1 h];exact h3
 .rcases aK.1 hf with h|h
  .exact R.sE f h
  rw[av.1 h];exact⟨hL,N2,h2,v,T d,M3,.inr hY,hj⟩
 .rcases R.ZZ x hx mc f hf hi with h|h|h
  .exact .inl h
  .exact .inr (.inl (aQ _ h))
  exact .inr (.inr h)
 .rcases aK.1 yJ with h|h
  .rcases R.Lm d' h with h|h|h|h
   .exact .inl h
   .exact .inr (.inl h)
   .exact .inr (.inr (.inl (aQ _ h)))
   exact .inr (.inr (.inr h))
  exact .inr (.inr (.inl (bq _ (by rw[av.1 h];simp))))
 .rcases aK.1 hf with h|h
  .obtain⟨d',yJ,e⟩:=R.src f h hv y hy Fx;exact⟨d',aQ _ yJ,e⟩
  exact⟨d,by simp,(av.1 h).symm⟩
 .show vp s.low v _ v<=s.met v;rw[IA];have:=R.Z0;omega
 .show vp s.low v _ v<=s.met y;rw[IA];rcases aK.1 hf with h|h
  .have:=R.VL f h y Fx hi;omega
  rw[av.1 h] at hi;rcases hj.of hi with rfl|rfl
  .exact absurd C.new (C.uw _ Fx)
  omega
 .have h:vp s.low v (min (s.low v) (s.met (T d))) v<s.met v:=h;show ∃f∈_,∃x y,_/\_/\_/\s.met y<=vp s.low v _ v;rw[IA] at h ⊢
  by_cases hm:s.low v<s.met (T d)
  .obtain⟨f,hf,x,y,a,b,c,e⟩:=R.Z1 (by omega);exact⟨f,aQ _ hf,x,y,a,b,c,by omega⟩
  exact⟨d/2,by simp,v,T d,M3,hY,hj,by omega⟩
 rcases aK.1 hf with h|h
 .exact R.out f h z hz
 rw[av.1 h];have mc:T d≠z:=λe=>C.uw _ hY (by rw[e];exact hz.1);exact⟨T d,T d,hj.right,mc,hY,.refl ⟨.inr hY,mc⟩⟩
end
end Go.Proofs.YtnfdimfepbbbpaaGreatDoor.Deep
namespace Go.Proofs.YtnfdimfepbbbpaaGreatDoor.Deep
section
variable {G:Gr}{D:Int->List Int}{T:Int->Int}{Y:Int->Prop}{o s s1:St}{v via:Int}{dn S S1:List Int}{Bs B1:List (List Int)}
abbrev Lo (Y:Int->Prop)(v x:Int):Prop:=Y x\/x=v
abbrev tc (s:St)(e:Int):St:={s with wI:=s.wI++[e]}
theorem ux.VN (C:Ctx G Y o v via)(R:ux G T Y o v via dn s S Bs){e w:Int}(hi:G.inc e w)(hw:s.met w=0)(mc:e≠via):e∉s.wI:=by
 intro h;rw[R.wI,aK] at h;rcases h with h|h
 .rcases C.sv _ h with q|q
  .exact mc q
  exact q w hi (by
   have:=R.old w;exact bL λhh=>hh (by have:=this hh;omega))
 obtain⟨_,_,_,x,y,hx,hy,hj⟩:=R.sE e h;rcases hj.of hi with rfl|rfl
 .exact hx.2 hw
 rcases hy with hy|hy
 .exact hy.2 hw
 have h1:=C.uw _ hy;have:=R.old _ h1;omega
theorem ux.child (HD:wA G D T)(C:Ctx G Y o v via)(R:ux G T Y o v via dn s S Bs){d:Int}(hd:d∈D v)(h1:T d≠v)(h2:d/2≠via)(h3:s.met (T d)=0):
  Ctx G (Lo Y v) (tc s (d/2)) (T d) (d/2):=by
 obtain⟨hL,hj⟩:=HD.mem v d hd;have M3:=R.Ln C;have Ah:d/2∉s.wI:=R.VN C hj.right h3 h2;have hnb:d/2∉s.lV.flatten:=λh=>R.mT.bv _ h _ hj.right h3;refine⟨⟨R.mT.VK,R.mT.inj,R.mT.bv,?_,R.mT.ku,R.mT.R6,R.mT.R7,R.mT.ne⟩,h3,λx hx=>?_,λx y hx hn ha=>?_,.inr ⟨hL,v,.inr rfl,hj,λx hx=>?_⟩,λf hf=>?_⟩
 .show(s.lV.flatten++(s.wI++[d/2])).Nodup;rw[<-bl,cY];refine⟨R.mT.nd,by simp,λa ha b hb=>?_⟩;rw[av.1 hb];rintro rfl;exact(aK.1 ha).elim hnb Ah
 .rcases hx with hx|rfl
  .have:=C.uw x hx;show s.met x≠0;rw[R.old x this];exact this
  exact M3.2
 .show s.met y≠0;have hx:s.met x≠0:=hx
  by_cases ho:o.met x=0
  .exact R.seen x y ⟨ho,hx⟩ (λe=>hn (.inr e)) ha
  have hy:=C.black x y ho (λe=>hn (.inl e)) ha;rw[R.old y hy];exact hy
 .rcases hx with hx|rfl
  .have h:=C.uw x hx;show s.met x<=s.met v;rw[R.old x h,R.Je];have:=(C.mT.VK x).2;omega
  exact bN _
 rcases aK.1 hf with h|h
 .refine .inr λx hi=>?_;show s.met x≠0;intro h0
  by_cases e:f=via
  .rcases C.up with⟨_,_,hs⟩|⟨_,p,hp,hjp,_⟩
   .rw[R.wI,hs,cm] at h;exact(R.sE f h).2.2.1 e
   rw[e] at hi;rcases hjp.of hi with rfl|rfl
   .have h1:=C.uw _ hp;have:=R.old _ h1;omega
   exact M3.2 h0
  exact R.VN C hi h0 e h
 exact .inl (av.1 h)
structure aii (G:Gr)(Y:Int->Prop)(o s s1:St)(v e w:Int)(S1:List Int)(B1:List (List Int)):Prop where
 nw:∀x,New o s1 x↔New o s x\/New s s1 x
 met:∀x,s.met x≠0->s1.met x=s.met x
 old:∀x,o.met x≠0->s1.met x=o.met x
 vs:s1.met v=s.met v
 lv:s1.low v=s.low v
 VO:New s s1 w
 lt:s1.met v<s1.met w
theorem ux.behind (HD:wA G D T)(C:Ctx G Y o v via)(R:ux G T Y o v via dn s S Bs){d:Int}(hd:d∈D v)(h1:T d≠v)(h2:d/2≠via)(h3:s.met (T d)=0)
  (R1:ux G T (Lo Y v) (tc s (d/2)) (T d) (d/2) (D (T d)) s1 S1 B1):aii G Y o s s1 v (d/2) (T d) S1 B1:=by
 have C1:=R.child HD C hd h1 h2 h3;have M3:=R.Ln C;have hm:∀x,s.met x≠0->s1.met x=s.met x:=R1.old;have hw:=R1.Ln C1;refine⟨λx=>⟨λ⟨a,b⟩=>?_,λh=>?_⟩,hm,λx hx=>?_,hm v M3.2,R1.R8 v M3.2,hw,?_⟩
 .by_cases q:s.met x=0
  .exact .inr ⟨q,b⟩
  exact .inl ⟨a,q⟩
 .rcases h with⟨a,b⟩|⟨a,b⟩
  .exact⟨a,by rw[hm x b];exact b⟩
  refine⟨bL λq=>?_,b⟩;have:=R.old x q;omega
 .have:=R.old x hx;rw[hm x (by omega)];exact this
 rw[hm v M3.2];have:=R1.new _ hw;have h4:(tc s (d/2)).cnt=s.cnt:=rfl;have:=(R.mT.VK v).2;omega
theorem ux.Z3 (HD:wA G D T)(R:ux G T Y o v via (D v) s S Bs)(x:Int)(hx:New o s x)(f:Int)(hf:f∈G.L)(hi:G.inc f x):(G.lp f/\(f,[f])∈s.ins)\/f=via\/f∈S\/f∈Bs.flatten:=by
 by_cases e:x=v
 .subst e;obtain⟨d,hd,rfl⟩:=HD.all f x hf hi;exact R.Lm d hd
 rcases R.ZZ x hx e f hf hi with h|h
 .exact .inl h
 exact .inr (.inr h)
theorem ux.VP (HD:wA G D T)(R:ux G T Y o v via (D v) s S Bs)(x y:Int)(hx:New o s x)(ha:G.Ek x y):s.met y≠0:=by
 by_cases e:x=v
 .subst e;have⟨f,hf,hj⟩:=ha;obtain⟨d,hd,rfl⟩:=HD.all f x hf hj.left;obtain⟨_,JZ⟩:=HD.mem x d hd;have:=R.G4 d hd;rcases JZ.of hj.right with rfl|rfl
  .exact hx.2
  exact this
 exact R.seen x y hx e ha
theorem ux.nbr (HD:wA G D T)(C:Ctx G Y o v via)(R:ux G T Y o v via (D v) s S Bs){x y:Int}(hx:New o s x)(ha:G.Ek x y):New o s y\/Y y:=by
 have hy:=R.VP HD x y hx ha
 by_cases ho:o.met y=0
 .exact .inl ⟨ho,hy⟩
 exact .inr (bL λhn=>C.black y x ho hn ha.symm hx.1)
theorem ux.VQ (HD:wA G D T)(C:Ctx G Y o v via)(R:ux G T Y o v via dn s S Bs){d:Int}(hd:d∈D v)(h1:T d≠v)(h2:d/2≠via)(h3:s.met (T d)=0)
  (R1:ux G T (Lo Y v) (tc s (d/2)) (T d) (d/2) (D (T d)) s1 S1 B1) (Ig:¬s1.low (T d)<s1.met v) {f y:Int} (hf:f∈S1) (hy:Lo Y v y) (hi:G.inc f y):y=v:=by
 have B:=R.behind HD C hd h1 h2 h3 R1;rcases hy with hy|hy
 .have h4:=R1.VL f hf y (.inl hy) hi;have h5:=C.uw y hy;rw[B.old y h5] at h4;rw[B.vs,R.Je] at Ig;have:=(C.mT.VK y).2;omega
 exact hy
theorem ux.stays (HD:wA G D T)(C:Ctx G Y o v via)(R:ux G T Y o v via dn s S Bs){d:Int}(hd:d∈D v)(h1:T d≠v)(h2:d/2≠via)(h3:s.met (T d)=0)
  (R1:ux G T (Lo Y v) (tc s (d/2)) (T d) (d/2) (D (T d)) s1 S1 B1) (Ig:¬s1.low (T d)<s1.met v) {x y:Int} (hx:New s s1 x) (ha:G.Ek x y):New s s1 y\/y=v:=by
 have C1:=R.child HD C hd h1 h2 h3;rcases R1.nbr HD C1 hx ha with h|h
 .exact .inl h
 refine .inr ?_;have⟨f,hf,hj⟩:=ha;have hyx:y≠x:=λe=>by
  have:=C1.uw y h;rw[e] at this;exact this hx.1
 rcases R1.Z3 HD x hx f hf hj.left with q|q|q|q
 .exfalso;have:G.A f=G.B f:=q.1;rcases hj with⟨a,b⟩|⟨a,b⟩
  .exact hyx (by rw[<-a,<-b,this])
  exact hyx (by rw[<-a,<-b,this])
 .obtain⟨_,hjd⟩:=HD.mem v d hd;rw[q] at hj;rcases hjd.of hj.right with e|e
  .exact e
  exfalso;have:=C1.uw y h;rw[e] at this;exact this h3
 .exact R.VQ HD C hd h1 h2 h3 R1 Ig q h hj.right
 exfalso;exact C1.uw y h (R1.bE f q y hj.right).1
theorem ux.block (HD:wA G D T)(C:Ctx G Y o v via)(R:ux G T Y o v via dn s S Bs){d:Int}(hd:d∈D v)(h1:T d≠v)(h2:d/2≠via)(h3:s.met (T d)=0)
  (R1:ux G T (Lo Y v) (tc s (d/2)) (T d) (d/2) (D (T d)) s1 S1 B1) (Ig:¬s1.low (T d)<s1.met v):Good G ([]++s1.lV.flatten) (d/2::S1):=by
 obtain⟨hL,hj⟩:=HD.mem v d hd;have C1:=R.child HD C hd h1 h2 h3;have hw:=R1.Ln C1;have hnv:¬New s s1 v:=λh=>(R.Ln C).2 h.1;have N2:¬G.lp (d/2):=λh=>by
  rcases hj with⟨a,b⟩|⟨a,b⟩
  .exact h1 (by rw[<-a,<-b];exact h.symm)
  exact h1 (by rw[<-a,<-b];exact h)
 have G5:∀f∈d/2::S1,f∈G.L/\¬G.lp f/\∃x y,New s s1 x/\(New s s1 y\/y=v)/\G.oZ f x y:=by
  intro f hf;rcases aD.1 hf with rfl|hf
  .exact⟨hL,N2,T d,v,hw,.inr rfl,hj.symm⟩
  obtain⟨a,b,_,x,y,hx,hy,Eo⟩:=R1.sE f hf;refine⟨a,b,x,y,hx,?_,Eo⟩;rcases hy with hy|hy
  .exact .inl hy
  exact .inr (R.VQ HD C hd h1 h2 h3 R1 Ig hf hy Eo.right)
 have hstay:∀x y,New s s1 x->G.Ek x y->New s s1 y\/y=v:=λx y hx ha=>R.stays HD C hd h1 h2 h3 R1 Ig hx ha;have sN:∀f∈d/2::S1,∀z,∃a,G.inc f a/\a≠z/\G.p8 (· ≠z) a (if New s s1 z then v else T d):=by
  intro f hf z
  by_cases hz:New s s1 z
  .rw[ak hz];have Tw:v≠z:=λe=>hnv (e▸hz);rcases aD.1 hf with rfl|hf'
   .exact⟨v,hj.left,Tw,.refl Tw⟩
   obtain⟨a,y,hia,haz,hy,hr⟩:=R1.out f hf' z hz;refine⟨a,hia,haz,?_⟩;have Fp:G.p8 (· ≠z) a y:=hr.mono λx hx=>hx.2;have hQ:(New s s1 a\/G.p8 (· ≠z) a v):=by
    obtain⟨_,_,x,y',hx,RP,Eo⟩:=G5 f hf;rcases Eo.of hia with e|e
    .rw[e];exact .inl hx
    rcases RP with RP|RP
    .rw[e];exact .inl RP
    rw[e,RP];exact .inr (.refl Tw)
   have FO:=Gr.p8.closed (P:=(· ≠z)) (Q:=λx=>G.p8 (· ≠z) a x/\(New s s1 x\/G.p8 (· ≠z) a v)) (λx y ⟨hx,CG⟩ ha hp=>by
    refine⟨.step hx ha hp,?_⟩;rcases CG with CG|CG
    .rcases hstay x y CG ha with h|h
     .exact .inl h
     exact .inr (h▸.step hx ha hp)
    exact .inr CG) Fp ⟨.refl haz,hQ⟩
   rcases FO.2 with h|h
   .exact absurd h.1 (C1.uw y hy)
   exact h
  rw[ah hz];obtain⟨_,_,x,y,hx,hy,Eo⟩:=G5 f hf;refine⟨x,Eo.left,λe=>hz (e▸hx),(Gr.p8.mono (P:=New s s1) (P':=(· ≠z)) (λu hu=>λe:u=z=>hz (e▸hu)) (R1.conn x hx)).symm⟩
 refine⟨v,New s s1,hnv,⟨d/2,by simp,hj.left⟩,G5,hstay,λx hx f hf hi=>?_,λf hf g hg z=>?_⟩
 .rcases R1.Z3 HD x hx f hf hi with q|q|q|q
  .exact .inl q.1
  .exact .inr (.inl (by rw[q];simp))
  .exact .inr (.inl (aI _ q))
  refine .inr (.inr ?_);rw[cm,R1.lV,cF];exact bq _ q
 obtain⟨a,ha,haz,hra⟩:=sN f hf z;obtain⟨b,hb,hbz,hrb⟩:=sN g hg z;exact⟨a,b,ha,haz,hb,hbz,hra.trans hrb.symm⟩
end
end Go.Proofs.YtnfdimfepbbbpaaGreatDoor.Deep
namespace Go.Proofs.YtnfdimfepbbbpaaGreatDoor.Deep
section
variable {G:Gr}{D:Int->List Int}{T:Int->Int}{Y:Int->Prop}{o s s1:St}{v via:Int}{dn S S1:List Int}{Bs B1:List (List Int)}
theorem ux.keep (HD:wA G D T)(C:Ctx G Y o v via)(R:ux G T Y o v via dn s S Bs){d:Int}(hd:d∈D v)(h1:T d≠v)(h2:d/2≠via)(h3:s.met (T d)=0)
  (R1:ux G T (Lo Y v) (tc s (d/2)) (T d) (d/2) (D (T d)) s1 S1 B1) (oB:s1.low (T d)<s1.met v):
  ux G T Y o v via (dn++[d]) {s1 with low:=vp s1.low v (min (s1.low v) (s1.low (T d)))} (S++d/2::S1) (Bs++B1):=by
 obtain⟨hL,hj⟩:=HD.mem v d hd;have C1:=R.child HD C hd h1 h2 h3;have B:=R.behind HD C hd h1 h2 h3 R1;have M3:=R.Ln C;have FC:New o s1 v:=(B.nw v).2 (.inl M3);have NQ:New o s1 (T d):=(B.nw _).2 (.inr B.VO);have hYm:∀y,Y y->s1.met y=s.met y:=λy hy=>B.met y (C1.uw y (.inl hy));have N2:¬G.lp (d/2):=λh=>by
  rcases hj with⟨a,b⟩|⟨a,b⟩
  .exact h1 (by rw[<-a,<-b];exact h.symm)
  exact h1 (by rw[<-a,<-b];exact h)
 have IA:vp s1.low v (min (s1.low v) (s1.low (T d))) v=min (s1.low v) (s1.low (T d)):=Em _ _ _;have hold:∀x,o.met x≠0->vp s1.low v (min (s1.low v) (s1.low (T d))) x=o.low x:=λx hx=>by
  rw[N1 _ _ (λe=>hx (by rw[e];exact C.new))];exact(R1.R8 x (by have:=R.old x hx;show s.met x≠0;omega)).trans (R.R8 x hx)
 have wQ:∀x,New o s1 x->o.cnt<s1.met x:=λx hx=>by
  rcases(B.nw x).1 hx with h|h
  .rw[B.met x h.2];exact R.new x h
  have h4:=R1.new x h;have h5:(tc s (d/2)).cnt=s.cnt:=rfl;have:=(R.mT.VK v).2;have:=R.Je;omega
 have VR:∀x y,New o s1 x->x≠v->G.Ek x y->s1.met y≠0:=λx y hx mc ha=>by
  rcases(B.nw x).1 hx with h|h
  .have:=R.seen x y h mc ha;rw[B.met y this];exact this
  exact R1.VP HD x y h ha
 have N3:∀d'∈dn++[d],s1.met (T d')≠0:=λd' yJ=>by
  rcases aK.1 yJ with h|h
  .have:=R.G4 d' h;rw[B.met _ this];exact this
  rw[av.1 h];exact B.VO.2
 have hbE:∀f∈(Bs++B1).flatten,∀x,G.inc f x->New o s1 x:=λf hf x hi=>by
  rw[cF,aK] at hf;rcases hf with h|h
  .exact(B.nw x).2 (.inl (R.bE f h x hi))
  exact(B.nw x).2 (.inr (R1.bE f h x hi))
 have VS:∀f∈S,G.inc f v->∀y,G.inc f y->Y y->∃d'∈dn++[d],d'/2=f:=λf hf hv y hy Fx=>by
  obtain⟨d',yJ,e⟩:=R.src f hf hv y hy Fx;exact⟨d',aQ _ yJ,e⟩
 have VT:min (s1.low v) (s1.low (T d))<=s1.met v:=by
  have:=R.Z0;rw[B.vs,B.lv];omega
 have VU:∀f∈S,∀z,New o s1 z->∃a y,G.inc f a/\a≠z/\Y y/\G.p8 (λx=>(New o s1 x\/Y x)/\x≠z) a y:=λf hf z hz=>by
  rcases(B.nw z).1 hz with h|h
  .obtain⟨a,y,k1,k2,k3,k4⟩:=R.out f hf z h;exact⟨a,y,k1,k2,k3,k4.mono λx hx=>⟨hx.1.imp_left λq=>(B.nw x).2 (.inl q),hx.2⟩⟩
  obtain⟨a,y,k1,k2,k3,k4⟩:=R.out f hf v M3;have wW:∀x,New o s x\/Y x->x≠z:=λx hx e=>by
   have h0:s.met z=0:=h.1;rw[<-e] at h0;rcases hx with hx|hx
   .exact hx.2 h0
   exact C1.uw x (.inl hx) h0
  exact⟨a,y,k1,wW a k4.first.1,k3,k4.mono λx hx=>⟨hx.1.imp_left λq=>(B.nw x).2 (.inl q),wW x hx.1⟩⟩
 have hvw:G.Ek v (T d):=⟨_,hL,hj⟩;have VV:∀x,New o s1 x->G.p8 (New o s1) v x:=λx hx=>by
  rcases(B.nw x).1 hx with h|h
  .exact(R.conn x h).mono λy hy=>(B.nw y).2 (.inl hy)
  exact(Gr.p8.one FC hvw NQ).trans (Gr.p8.mono (P:=New s s1) (λy hy=>(B.nw y).2 (.inr hy)) (R1.conn x h))
 have adE:∀q∈o.ins,q∈s1.ins:=λq hq=>R1.En q (R.En q hq);have adG:∀f∈S,f∈G.L/\¬G.lp f/\f≠via/\∃x y,New o s1 x/\(New o s1 y\/Y y)/\G.oZ f x y:=λf hf=>by
  obtain⟨k1,k2,k3,x,y,hx,hy,Eo⟩:=R.sE f hf;exact⟨k1,k2,k3,x,y,(B.nw x).2 (.inl hx),hy.imp_left λq=>(B.nw y).2 (.inl q),Eo⟩
 obtain⟨f0,R9,x0,y0,Tp,hy0,Af,aij⟩:=R1.Z1 (by have:=B.lt;omega);have Tp:New s s1 x0:=Tp;have hY0:Y y0:=by
  rcases hy0 with h|h
  .exact h
  rw[h] at aij;omega
 have hp:∃p,Y p/\G.Ek v p:=by
  rcases C.up with⟨_,h,_⟩|⟨hvL,p,hp,hjp,_⟩
  .exact absurd hY0 (h _)
  exact⟨p,hp,via,hvL,hjp.symm⟩
 have⟨p,hYp,hvp⟩:=hp;have Tx:∀f∈S1,f∈G.L:=λf hf=>(R1.sE f hf).1;have Z4:¬New s s1 v:=λh=>M3.2 h.1;have hYn:∀y,Y y->¬New o s1 y:=λy hy h=>C.uw y hy h.1;have agw:∀y,Y y->¬New s s1 y:=λy hy h=>C1.uw y (.inl hy) h.1;refine⟨⟨R1.mT.VK,R1.mT.inj,R1.mT.bv,R1.mT.nd,R1.mT.ku,R1.mT.R6,R1.mT.R7,R1.mT.ne⟩,B.old,hold,wQ,B.vs.trans R.Je,?_,?_,VR,N3,λf hf=>?_,hbE,λx hx mc f hf hi=>?_,λd' yJ=>?_,λf hf hv y hy Fx=>?_,?_,λf hf y Fx hi=>?_,λh=>?_,λf hf z hz=>?_,VV,adE⟩
 .show s1.wI=_;rw[R1.wI];show s.wI++[d/2]++S1=_;rw[R.wI];simp
 .show s1.lV=_;rw[R1.lV];show s.lV++B1=_;rw[R.lV];simp
 .rcases aK.1 hf with hf|hf
  .exact adG f hf
  rcases aD.1 hf with rfl|hf
  .exact⟨hL,N2,h2,v,T d,FC,.inl NQ,hj⟩
  obtain⟨k1,k2,k3,x,y,hx,hy,Eo⟩:=R1.sE f hf;have hx:New s s1 x:=hx;refine⟨k1,k2,λe=>?_,x,y,(B.nw x).2 (.inr hx),?_,Eo⟩
  .rcases C.up with⟨h,_⟩|⟨_,q,hq,hjq,_⟩
   .exact h (e▸k1)
   rw[e] at Eo;rcases hjq.of Eo.left with e'|e'
   .exact agw q hq (e'▸hx)
   exact Z4 (e'▸hx)
  rcases hy with hy|hy|hy
  .exact .inl ((B.nw y).2 (.inr hy))
  .exact .inr hy
  exact .inl (hy▸FC)
 .rcases(B.nw x).1 hx with h|h
  .rcases R.ZZ x h mc f hf hi with q|q|q
   .exact .inl ⟨q.1,R1.En _ q.2⟩
   .exact .inr (.inl (aQ _ q))
   exact .inr (.inr (by rw[cF];exact aQ _ q))
  rcases R1.Z3 HD x h f hf hi with q|q|q|q
  .exact .inl q
  .exact .inr (.inl (by rw[q];simp))
  .exact .inr (.inl (bq _ (aI _ q)))
  exact .inr (.inr (by rw[cF];exact bq _ q))
 .rcases aK.1 yJ with h|h
  .rcases R.Lm d' h with q|q|q|q
   .exact .inl ⟨q.1,R1.En _ q.2⟩
   .exact .inr (.inl q)
   .exact .inr (.inr (.inl (aQ _ q)))
   exact .inr (.inr (.inr (by rw[cF];exact aQ _ q)))
  rw[av.1 h];exact .inr (.inr (.inl (by simp)))
 .rcases aK.1 hf with hf|hf
  .exact VS f hf hv y hy Fx
  rcases aD.1 hf with rfl|hf
  .exact⟨d,by simp,rfl⟩
  exfalso;obtain⟨k1,k2,k3,x,y',hx,RP,Eo⟩:=R1.sE f hf;have hx:New s s1 x:=hx;have hvy:v=y':=by
   rcases Eo.of hv with e|e
   .exact absurd (e▸hx) Z4
   exact e
  have:y=y':=by
   rcases Eo.of hy with e|e
   .exact absurd (e▸hx) (agw y Fx)
   exact e
  rw[this,<-hvy] at Fx;exact C.uw v Fx C.new
 .show vp s1.low v _ v<=s1.met v;rw[IA];exact VT
 .show vp s1.low v _ v<=s1.met y;rw[IA];rcases aK.1 hf with hf|hf
  .have:=R.VL f hf y Fx hi;rw[hYm y Fx,B.lv];omega
  rcases aD.1 hf with rfl|hf
  .exfalso;rcases hj.of hi with e|e
   .exact C.uw y Fx (by rw[e];exact C.new)
   exact C1.uw y (.inl Fx) (by rw[e];exact h3)
  have:=R1.VL f hf y (.inl Fx) hi;omega
 .have h:vp s1.low v (min (s1.low v) (s1.low (T d))) v<s1.met v:=h;show ∃f∈_,∃x y,_/\_/\_/\s1.met y<=vp s1.low v _ v;rw[IA] at h ⊢
  by_cases hm:s1.low v<=s1.low (T d)
  .obtain⟨f,hf,x,y,k1,k2,k3,k4⟩:=R.Z1 (by rw[<-B.lv,<-B.vs];omega);exact⟨f,aQ _ hf,x,y,(B.nw x).2 (.inl k1),k2,k3,by rw[hYm y k2];have:=B.lv;omega⟩
  exact⟨f0,bq _ (aI _ R9),x0,y0,(B.nw x0).2 (.inr Tp),hY0,Af,by omega⟩
 rcases aK.1 hf with hf|hf
 .exact VU f hf z hz
 have hup:v≠z->G.p8 (λx=>(New o s1 x\/Y x)/\x≠z) v p:=λmc=>Gr.p8.one ⟨.inl FC,mc⟩ hvp ⟨.inr hYp,λe=>hYn p hYp (e▸hz)⟩;have uD:¬New s s1 z->∀x,New s s1 x->G.p8 (λx=>(New o s1 x\/Y x)/\x≠z) (T d) x:=λhnz x hx=>
  Gr.p8.mono (P:=New s s1) (λy hy=>⟨.inl ((B.nw y).2 (.inr hy)),λe=>hnz (e▸hy)⟩) (R1.conn x hx)
 have agx:G.Ek x0 y0:=⟨f0,Tx f0 R9,Af⟩;rcases aD.1 hf with rfl|hf
 .by_cases Tw:v=z
  .have hnz:¬New s s1 z:=Tw▸Z4;exact⟨T d,y0,hj.right,λe=>hnz (e▸B.VO),hY0,(uD hnz x0 Tp).step agx ⟨.inr hY0,λe=>hYn y0 hY0 (e▸hz)⟩⟩
  exact⟨v,p,hj.left,Tw,hYp,hup Tw⟩
 by_cases YW:New s s1 z
 .obtain⟨a,y,k1,k2,k3,k4⟩:=R1.out f hf z YW;have Tw:v≠z:=λe=>Z4 (e▸YW);have k4':G.p8 (λx=>(New o s1 x\/Y x)/\x≠z) a y:=k4.mono λx hx=>by
   refine⟨?_,hx.2⟩;rcases hx.1 with h|h|h
   .exact .inl ((B.nw x).2 (.inr h))
   .exact .inr h
   exact .inl (h▸FC)
  rcases k3 with k3|k3
  .exact⟨a,y,k1,k2,k3,k4'⟩
  rw[k3] at k4';exact⟨a,p,k1,k2,hYp,k4'.trans (hup Tw)⟩
 obtain⟨_,_,_,x,y,hx,hy,Eo⟩:=R1.sE f hf;have hx:New s s1 x:=hx;have hxz:x≠z:=λe=>YW (e▸hx);have acC:=(uD YW x hx).symm
 by_cases Tw:v=z
 .exact⟨x,y0,Eo.left,hxz,hY0,(acC.trans (uD YW x0 Tp)).step agx ⟨.inr hY0,λe=>hYn y0 hY0 (e▸hz)⟩⟩
 exact⟨x,p,Eo.left,hxz,hYp,(acC.step hvw.symm ⟨.inl FC,Tw⟩).trans (hup Tw)⟩
theorem ux.take (HD:wA G D T)(C:Ctx G Y o v via)(R:ux G T Y o v via dn s S Bs){d:Int}(hd:d∈D v)(h1:T d≠v)(h2:d/2≠via)(h3:s.met (T d)=0)
  (R1:ux G T (Lo Y v) (tc s (d/2)) (T d) (d/2) (D (T d)) s1 S1 B1) (Ig:¬s1.low (T d)<s1.met v):
  ux G T Y o v via (dn++[d]) {s1 with low:=vp s1.low v (min (s1.low v) (s1.low (T d))),wI:=s.wI,lV:=s1.lV++[d/2::S1],ins:=s1.ins++[key (d/2::S1)]} S (Bs++B1++[d/2::S1]):=by
 obtain⟨hL,hj⟩:=HD.mem v d hd;have C1:=R.child HD C hd h1 h2 h3;have B:=R.behind HD C hd h1 h2 h3 R1;have M3:=R.Ln C;have FC:New o s1 v:=(B.nw v).2 (.inl M3);have NQ:New o s1 (T d):=(B.nw _).2 (.inr B.VO);have hYm:∀y,Y y->s1.met y=s.met y:=λy hy=>B.met y (C1.uw y (.inl hy));have N2:¬G.lp (d/2):=λh=>by
  rcases hj with⟨a,b⟩|⟨a,b⟩
  .exact h1 (by rw[<-a,<-b];exact h.symm)
  exact h1 (by rw[<-a,<-b];exact h)
 have IA:vp s1.low v (min (s1.low v) (s1.low (T d))) v=min (s1.low v) (s1.low (T d)):=Em _ _ _;have hold:∀x,o.met x≠0->vp s1.low v (min (s1.low v) (s1.low (T d))) x=o.low x:=λx hx=>by
  rw[N1 _ _ (λe=>hx (by rw[e];exact C.new))];exact(R1.R8 x (by have:=R.old x hx;show s.met x≠0;omega)).trans (R.R8 x hx)
 have wQ:∀x,New o s1 x->o.cnt<s1.met x:=λx hx=>by
  rcases(B.nw x).1 hx with h|h
  .rw[B.met x h.2];exact R.new x h
  have h4:=R1.new x h;have h5:(tc s (d/2)).cnt=s.cnt:=rfl;have:=(R.mT.VK v).2;have:=R.Je;omega
 have VR:∀x y,New o s1 x->x≠v->G.Ek x y->s1.met y≠0:=λx y hx mc ha=>by
  rcases(B.nw x).1 hx with h|h
  .have:=R.seen x y h mc ha;rw[B.met y this];exact this
  exact R1.VP HD x y h ha
 have N3:∀d'∈dn++[d],s1.met (T d')≠0:=λd' yJ=>by
  rcases aK.1 yJ with h|h
  .have:=R.G4 d' h;rw[B.met _ this];exact this
  rw[av.1 h];exact B.VO.2
 have hbE:∀f∈(Bs++B1).flatten,∀x,G.inc f x->New o s1 x:=λf hf x hi=>by
  rw[cF,aK] at hf;rcases hf with h|h
  .exact(B.nw x).2 (.inl (R.bE f h x hi))
  exact(B.nw x).2 (.inr (R1.bE f h x hi))
 have VS:∀f∈S,G.inc f v->∀y,G.inc f y->Y y->∃d'∈dn++[d],d'/2=f:=λf hf hv y hy Fx=>by
  obtain⟨d',yJ,e⟩:=R.src f hf hv y hy Fx;exact⟨d',aQ _ yJ,e⟩
 have VT:min (s1.low v) (s1.low (T d))<=s1.met v:=by
  have:=R.Z0;rw[B.vs,B.lv];omega
 have VU:∀f∈S,∀z,New o s1 z->∃a y,G.inc f a/\a≠z/\Y y/\G.p8 (λx=>(New o s1 x\/Y x)/\x≠z) a y:=λf hf z hz=>by
  rcases(B.nw z).1 hz with h|h
  .obtain⟨a,y,k1,k2,k3,k4⟩:=R.out f hf z h;exact⟨a,y,k1,k2,k3,k4.mono λx hx=>⟨hx.1.imp_left λq=>(B.nw x).2 (.inl q),hx.2⟩⟩
  obtain⟨a,y,k1,k2,k3,k4⟩:=R.out f hf v M3;have wW:∀x,New o s x\/Y x->x≠z:=λx hx e=>by
   have h0:s.met z=0:=h.1;rw[<-e] at h0;rcases hx with hx|hx
   .exact hx.2 h0
   exact C1.uw x (.inl hx) h0
  exact⟨a,y,k1,wW a k4.first.1,k3,k4.mono λx hx=>⟨hx.1.imp_left λq=>(B.nw x).2 (.inl q),wW x hx.1⟩⟩
 have hvw:G.Ek v (T d):=⟨_,hL,hj⟩;have VV:∀x,New o s1 x->G.p8 (New o s1) v x:=λx hx=>by
  rcases(B.nw x).1 hx with h|h
  .exact(R.conn x h).mono λy hy=>(B.nw y).2 (.inl hy)
  exact(Gr.p8.one FC hvw NQ).trans (Gr.p8.mono (P:=New s s1) (λy hy=>(B.nw y).2 (.inr hy)) (R1.conn x h))
 have adE:∀q∈o.ins,q∈s1.ins:=λq hq=>R1.En q (R.En q hq);have adG:∀f∈S,f∈G.L/\¬G.lp f/\f≠via/\∃x y,New o s1 x/\(New o s1 y\/Y y)/\G.oZ f x y:=λf hf=>by
  obtain⟨k1,k2,k3,x,y,hx,hy,Eo⟩:=R.sE f hf;exact⟨k1,k2,k3,x,y,(B.nw x).2 (.inl hx),hy.imp_left λq=>(B.nw y).2 (.inl q),Eo⟩
 have KM:=R.block HD C hd h1 h2 h3 R1 Ig;have G5:∀f∈d/2::S1,∀x,G.inc f x->New o s1 x:=λf hf x hi=>by
  rcases aD.1 hf with rfl|hf
  .rcases hj.of hi with e|e
   .rw[e];exact FC
   rw[e];exact NQ
  obtain⟨_,_,_,x',y',hx,hy,Eo⟩:=R1.sE f hf;rcases Eo.of hi with e|e
  .rw[e];exact(B.nw x').2 (.inr hx)
  rcases hy with hy|hy
  .rw[e];exact(B.nw y').2 (.inr hy)
  rw[e,R.VQ HD C hd h1 h2 h3 R1 Ig hf hy Eo.right];exact FC
 have PS:(s1.lV.flatten++(s.wI++d/2::S1)).Nodup:=by
  have:=R1.mT.nd;rw[R1.wI] at this;simpa[tc] using this
 have Zz:min (s1.low v) (s1.low (T d))=s.low v:=by
  have:=R.Z0;rw[B.vs] at Ig;rw[B.lv];omega
 refine⟨⟨R1.mT.VK,R1.mT.inj,λf hf x hi=>?_,?_,R1.mT.ku.snoc KM,λq hq=>?_,λb hb=>?_,λb hb=>?_⟩,B.old,hold,wQ,B.vs.trans R.Je,R.wI,?_,VR,N3,adG,λf hf x hi=>?_,λx hx mc f hf hi=>?_,λd' yJ=>?_,VS,?_,λf hf y Fx hi=>?_,λh=>?_,VU,VV,λq hq=>aQ _ (adE q hq)⟩
 .have hf:f∈(s1.lV++[d/2::S1]).flatten:=hf;rw[cF,aK] at hf;rcases hf with hf|hf
  .exact R1.mT.bv f hf x hi
  exact(G5 f (by simpa using hf) x hi).2
 .show((s1.lV++[d/2::S1]).flatten++s.wI).Nodup;rw[cF,bl];refine(List.Perm.nodup_iff (List.Perm.append_left _ ?_)).2 PS;simp only[ak9,alF,aZ];exact anD
 .rcases aK.1 hq with h|h
  .rcases R1.mT.R6 q h with h|⟨b,hb,e⟩
   .exact .inl h
   exact .inr ⟨b,aQ _ hb,e⟩
  exact .inr ⟨_,bq _ (by simp),av.1 h⟩
 .rcases aK.1 hb with h|h
  .exact aQ _ (R1.mT.R7 b h)
  rw[av.1 h];exact bq _ (by simp)
 .rcases aK.1 hb with h|h
  .exact R1.mT.ne b h
  rw[av.1 h];simp
 .show s1.lV++[d/2::S1]=_;rw[R1.lV];show s.lV++B1++_=_;rw[R.lV];simp
 .rw[cF,aK] at hf;rcases hf with hf|hf
  .exact hbE f hf x hi
  exact G5 f (by simpa using hf) x hi
 .rcases(B.nw x).1 hx with h|h
  .rcases R.ZZ x h mc f hf hi with q|q|q
   .exact .inl ⟨q.1,aQ _ (R1.En _ q.2)⟩
   .exact .inr (.inl q)
   exact .inr (.inr (by simp only[cF,aK];exact .inl (.inl q)))
  rcases R1.Z3 HD x h f hf hi with q|q|q|q
  .exact .inl ⟨q.1,aQ _ q.2⟩
  .exact .inr (.inr (by rw[q];simp))
  .exact .inr (.inr (by simp[q]))
  exact .inr (.inr (by simp only[cF,aK];exact .inl (.inr q)))
 .rcases aK.1 yJ with h|h
  .rcases R.Lm d' h with q|q|q|q
   .exact .inl ⟨q.1,aQ _ (R1.En _ q.2)⟩
   .exact .inr (.inl q)
   .exact .inr (.inr (.inl q))
   exact .inr (.inr (.inr (by simp only[cF,aK];exact .inl (.inl q))))
  rw[av.1 h];exact .inr (.inr (.inr (by simp)))
 .show vp s1.low v _ v<=s1.met v;rw[IA];exact VT
 .show vp s1.low v _ v<=s1.met y;rw[IA,Zz,hYm y Fx];exact R.VL f hf y Fx hi
 have h:vp s1.low v (min (s1.low v) (s1.low (T d))) v<s1.met v:=h;show ∃f∈_,∃x y,_/\_/\_/\s1.met y<=vp s1.low v _ v;rw[IA,Zz] at h ⊢;rw[B.vs] at h;obtain⟨f,hf,x,y,k1,k2,k3,k4⟩:=R.Z1 h;exact⟨f,hf,x,y,(B.nw x).2 (.inl k1),k2,k3,by rw[hYm y k2];exact k4⟩
end
end Go.Proofs.YtnfdimfepbbbpaaGreatDoor.Deep
namespace Go.Proofs.YtnfdimfepbbbpaaGreatDoor.Deep
section
variable {G:Gr}{D:Int->List Int}{T:Int->Int}
def left (U:List Int)(s:St):Nat:=(U.filter λx=>decide (s.met x=0)).length
end
end Go.Proofs.YtnfdimfepbbbpaaGreatDoor.Deep
namespace Go.Proofs.YtnfdimfepbbbpaaGreatDoor
open Go.RowKit
abbrev Z5 (l:List Int):Prop:=l.Pairwise (· < ·)
theorem jf {l:List Int}{n:Int}:jQ l n↔Z5 l/\∀x∈l,0<=x/\x<n:=by
 constructor
 .intro h;refine⟨dJ.2 λi j hi hj J2=>?_,λx hx=>?_⟩
  .have:=Ag h J2 hj;simpa[aJ,aY hi,aY hj] using this
  obtain⟨j,hj,rfl⟩:=nG.1 hx;have:=h j hj;omega
 rintro⟨h1,h2⟩ j hj;have hm:=h2 (l.getD j 0) (nG.2 ⟨j,hj,rfl⟩);refine⟨hm.1,hm.2,λh0=>?_⟩;have:=dJ.1 h1 (j-1) j (by omega) hj (by omega);simpa[aJ,aY hj,aY (show j-1<l.length by omega)] using this
theorem G6 {E:List (Int×Int)}{L:List Int}{x:Int}:x∈tZ E L↔∃e∈L,Jd E e x:=by
 unfold tZ Jd;simp only[dG,aD,ako,or_false];constructor<;>rintro⟨e,he,h⟩<;>exact⟨e,he,by rcases h with h|h;exact .inl h.symm;exact .inr h.symm⟩
theorem nh {E:List (Int×Int)}{L:List Int}{v d:Int}:d∈jR E L v↔d/2∈L/\iC E d=v:=by
 unfold jR kO;simp only[dG,aK];constructor
 .rintro⟨e,he,h⟩;rcases h with h|h
  .split at h
   .rename_i q;simp at h;subst h;refine⟨by rw[show(2*e)/2=e by omega];exact he,?_⟩;have:=q.2;rw[show 2*e+0=2*e by omega] at this;exact this
   simp at h
  split at h
  .rename_i q;simp at h;subst h;exact⟨by rw[show(2*e+1)/2=e by omega];exact he,q.2⟩
  simp at h
 rintro⟨he,h⟩;refine⟨d/2,he,?_⟩
 by_cases c:d%2=0
 .left;rw[ak ⟨by omega,by rw[show 2*(d/2)+0=d by omega];exact h⟩];simp;omega
 right;rw[ak ⟨by omega,by rw[show 2*(d/2)+1=d by omega];exact h⟩];simp;omega
theorem yO {E:List (Int×Int)}{e v s d:Int}(h:d∈kO E e v s):d=2*e\/d=2*e+1:=by
 unfold kO at h;rcases aK.1 h with h|h<;>split at h<;>simp at h<;>omega
theorem FP (E:List (Int×Int))(e v s:Int):Z5 (kO E e v s):=by
 unfold kO;split<;>split<;>simp<;>omega
theorem sD {E:List (Int×Int)}{L:List Int}{v m:Int}(h:jQ L m):jQ (jR E L v) (2*m):=by
 obtain⟨h1,h2⟩:=jf.1 h;refine jf.2 ⟨?_,λx hx=>by have:=h2 _ (nh.1 hx).1;omega⟩;unfold jR;rw[Z5,List.pairwise_flatMap];refine⟨λe _=>FP E e v 0,h1.imp λCw x hx y hy=>?_⟩;have:=yO hx;have:=yO hy;omega
end Go.Proofs.YtnfdimfepbbbpaaGreatDoor
namespace Go.Proofs.YtnfdimfepbbbpaaGreatDoor
open Go.Proofs.YtnfdimfepbbbpaaGreatDoor.Deep
def eA (E:List (Int×Int))(f:Int):Int:=(E.getD f.toNat (0,0)).1
def eB (E:List (Int×Int))(f:Int):Int:=(E.getD f.toNat (0,0)).2
abbrev Lp (E:List (Int×Int))(L:List Int):Gr:=⟨L,eA E,eB E⟩
def jJ (E:List (Int×Int))(d:Int):Int:=if d%2=0 then eB E (d/2) else eA E (d/2)
theorem CT {E:List (Int×Int)}{d:Int}:iC E d=if d%2=0 then eA E (d/2) else eB E (d/2):=rfl
theorem pZ {l:List Int}(h:Z5 l):l.Nodup:=h.imp λh e=>by omega
theorem Lq {E:List (Int×Int)}{L:List Int}{m:Int}(hL:jQ L m):wA (Lp E L) (jR E L) (jJ E):=by
 have hj:∀v d,d∈jR E L v->(Lp E L).oZ (d/2) v (jJ E d):=λv d hd=>by
  obtain⟨h1,h2⟩:=nh.1 hd;rw[CT] at h2;unfold jJ Gr.oZ;split at h2
  .rename_i h;rw[ak h];exact .inl ⟨h2,rfl⟩
  rename_i h;rw[ah h];exact .inr ⟨rfl,h2⟩
 refine⟨λv d hd=>⟨(nh.1 hd).1,hj v d hd⟩,λf x hf hi=>?_,λv d d' h1 h2 he mc=>?_,λv=>pZ (jf.1 (sD hL)).1⟩
 .rcases hi with h|h
  .refine⟨2*f,nh.2 ⟨by rw[show 2*f/2=f by omega];exact hf,?_⟩,by omega⟩;rw[CT,ak (by omega),show 2*f/2=f by omega];exact h
  refine⟨2*f+1,nh.2 ⟨by rw[show(2*f+1)/2=f by omega];exact hf,?_⟩,by omega⟩;rw[CT,ah (by omega),show(2*f+1)/2=f by omega];exact h
 refine bL λhd=>mc ?_;have t1:=(nh.1 h1).2;have t2:=(nh.1 h2).2;rw[CT] at t1 t2;unfold jJ
 by_cases c:d%2=0
 .rw[ah (by omega),<-he] at t2;rw[ak c];exact t2
 rw[ak (by omega),<-he] at t2;rw[ah c];exact t2
def xq (E:List (Int×Int))(but:Int)(i:Nat)(m:List Int)(e:Int):List Int:=
 let m1:=if eA E e=m.getD i 0/\eB E e≠but/\eB E e∉m then m++[eB E e] else m
 if eB E e=m1.getD i 0/\eA E e≠but/\eA E e∉m1 then m1++[eA E e] else m1
def nY (E:List (Int×Int))(but:Int)(i:Nat)(l:List Int)(m:List Int):List Int:=l.foldl (xq E but i) m
def Tz (E:List (Int×Int))(L:List Int)(but:Int):Nat->Nat->List Int->List Int
 |0,_,m=>m
 |f+1,i,m=>if i<m.length then Tz E L but f (i+1) (nY E but i L m) else m
def spread (E:List (Int×Int))(L:List Int)(a but:Int):List Int:=Tz E L but (2*L.length+1) 0 [a]
def sk (but:Int)(i:Nat)(m:List Int)(x y:Int):List Int:=if x=m.getD i 0/\y≠but/\y∉m then m++[y] else m
theorem x8 (E:List (Int×Int))(but:Int)(i:Nat)(m:List Int)(e:Int):xq E but i m e=sk but i (sk but i m (eA E e) (eB E e)) (eB E e) (eA E e):=rfl
structure Sp (G:Gr)(a but:Int)(U:List Int)(m:List Int):Prop where
 nd:m.Nodup
 fst:a∈m
 rch:∀x∈m,G.p8 (· ≠but) a x
 sub:∀x∈m,x∈U
theorem VW {G:Gr}{a but:Int}{U m:List Int}{i:Nat}{x y e:Int}(h:Sp G a but U m)(he:e∈G.L)(hj:G.oZ e x y)(hy:y∈U)(hi:i<m.length):
  Sp G a but U (sk but i m x y)/\(∃r,sk but i m x y=m++r)/\(x=m.getD i 0->y≠but->y∈sk but i m x y):=by
 unfold sk;split
 .rename_i c;refine⟨⟨?_,aQ _ h.fst,λz hz=>?_,λz hz=>?_⟩,⟨_,rfl⟩,λ_ _=>by simp⟩
  .rw[cY];exact⟨h.nd,by simp,λp hp q hq e=>c.2.2 (by rw[av.1 hq] at e;exact e▸hp)⟩
  .rcases aK.1 hz with hz|hz
   .exact h.rch z hz
   rw[av.1 hz];exact(h.rch x (c.1▸nG.2 ⟨i,hi,rfl⟩)).step ⟨e,he,hj⟩ c.2.1
  rcases aK.1 hz with hz|hz
  .exact h.sub z hz
  rw[av.1 hz];exact hy
 rename_i c;refine⟨h,⟨[],by simp⟩,λh1 h2=>bL λh3=>c ⟨h1,h2,h3⟩⟩
theorem xu {m r:List Int}{i:Nat}(h:i<m.length):(m++r).getD i 0=m.getD i 0:=by
 rw[aJ,aJ,cO h]
theorem Ai {E:List (Int×Int)}{L:List Int}{a but:Int}{U:List Int}(hU:∀e∈L,eA E e∈U/\eB E e∈U){i:Nat}:∀ {l:List Int} {m:List Int},(∀e∈l,e∈L)->Sp (Lp E L) a but U m->i<m.length->
  Sp (Lp E L) a but U (nY E but i l m)/\(∃r,nY E but i l m=m++r)/\(∀e∈l,∀y,(Lp E L).oZ e (m.getD i 0) y->y≠but->y∈nY E but i l m)
 |[],m,_,h,_=>⟨h,⟨[],by simp[nY]⟩,λe he=>by simp at he⟩
 |e::l,m,hs,h,hi=>by
  have he:=hs e (by simp);obtain⟨h1,⟨r1,e1⟩,k1⟩:=VW (G:=Lp E L) (e:=e) (i:=i) (x:=eA E e) (y:=eB E e) h he (.inl ⟨rfl,rfl⟩) (hU e he).2 hi;have hi1:i<(sk but i m (eA E e) (eB E e)).length:=by rw[e1,aN];omega
  obtain⟨h2,⟨r2,e2⟩,k2⟩:=VW (G:=Lp E L) (e:=e) (i:=i) (x:=eB E e) (y:=eA E e) h1 he (.inr ⟨rfl,rfl⟩) (hU e he).1 hi1;have o7:i<(xq E but i m e).length:=by rw[x8,e2,aN];omega
  obtain⟨h3,⟨r3,e3⟩,k3⟩:=Ai hU (l:=l) (m:=xq E but i m e) (i:=i) (λx hx=>hs x (aI _ hx)) h2 o7;have aik:∀x,x∈xq E but i m e->x∈nY E but i (e::l) m:=λx hx=>by
   show x∈nY E but i l (xq E but i m e);rw[e3];exact aQ _ hx
  have MT:(sk but i m (eA E e) (eB E e)).getD i 0=m.getD i 0:=by rw[e1];exact xu hi
  have hg2:(xq E but i m e).getD i 0=m.getD i 0:=by rw[x8,e2,xu hi1,MT]
  refine⟨h3,⟨r1++r2++r3,?_⟩,λf hf y hj hy=>?_⟩
  .show nY E but i l (xq E but i m e)=_;rw[e3,x8,e2,e1];simp
  rcases aD.1 hf with rfl|hf
  .refine aik y ?_;rw[x8];rcases hj with⟨p,q⟩|⟨p,q⟩
   .have:=k1 p (by rw[show eB E f=y from q];exact hy);rw[show eB E f=y from q] at this;rw[e2];rw[show eB E f=y from q];exact aQ _ this
   have:=k2 (by rw[MT];exact q) (by rw[show eA E f=y from p];exact hy);rw[show eA E f=y from p] at this ⊢;exact this
  exact k3 f hf y (by rw[hg2];exact hj) hy
theorem N4 {E:List (Int×Int)}{L:List Int}{a but:Int}{U:List Int}(hU:∀e∈L,eA E e∈U/\eB E e∈U):∀(f i:Nat) (m:List Int),Sp (Lp E L) a but U m->U.length<=i+f->(∀j,j<i->j<m.length->∀y,(Lp E L).Ek (m.getD j 0) y->y≠but->y∈m)->i<=m.length->
  Sp (Lp E L) a but U (Tz E L but f i m)/\(∀x∈Tz E L but f i m,∀y,(Lp E L).Ek x y->y≠but->y∈Tz E L but f i m)
 |0,i,m,h,hf,hc,hi=>by
  have hle:m.length<=U.length:=by
   have:=h.nd.length_le_of_subset h.sub;exact this
  refine⟨h,λx hx y ha hy=>?_⟩;have hx:x∈m:=hx;obtain⟨j,hj,e⟩:=nG.1 hx;exact hc j (by omega) hj y (by rw[e];exact ha) hy
 |f+1,i,m,h,hf,hc,hi=>by
  unfold Tz;split
  .rename_i oB;obtain⟨h1,⟨r,e1⟩,h3⟩:=Ai (i:=i) hU (l:=L) (λ_ h=>h) h oB;refine N4 hU f (i+1) _ h1 (by omega) (λj hj JZ y ha hy=>?_) (by rw[e1,aN];omega)
   by_cases c:j=i
   .subst c;have hg:(nY E but j L m).getD j 0=m.getD j 0:=by rw[e1];exact xu oB
    rw[hg] at ha;have⟨e,he,hj⟩:=ha;exact h3 e he y hj hy
   have hg:(nY E but i L m).getD j 0=m.getD j 0:=by rw[e1];exact xu (by omega)
   rw[hg] at ha;rw[e1];exact aQ _ (hc j (by omega) (by omega) y ha hy)
  refine⟨h,λx hx y ha hy=>?_⟩;obtain⟨j,hj,e⟩:=nG.1 hx;exact hc j (by omega) hj y (by rw[e];exact ha) hy
theorem x9 (E:List (Int×Int)):∀L:List Int,(tZ E L).length=2*L.length
 |[]=>rfl
 |x::l=>by
  have h:tZ E (x::l)=[(E.getD x.toNat (0,0)).1,(E.getD x.toNat (0,0)).2]++tZ E l:=rfl;rw[h,aN,x9 E l];simp;omega
section
variable {n:Int}{E:List (Int×Int)}{V L:List Int}{s:St}
end
def yP (E:List (Int×Int))(m:List (Int×List Int))(e:Int):List (Int×List Int):=
 lD (lD m (E.getD e.toNat (0,0)).1 ((iA m (E.getD e.toNat (0,0)).1).getD []++[2*e])) (E.getD e.toNat (0,0)).2
  ((iA (lD m (E.getD e.toNat (0,0)).1 ((iA m (E.getD e.toNat (0,0)).1).getD []++[2*e])) (E.getD e.toNat (0,0)).2).getD []++[2*e+1])
def jX (E:List (Int×Int))(L:List Int):List (Int×List Int):=L.foldl (yP E) []
theorem Sa {E:List (Int×Int)}{L M:List Int}{x:Int}:jR E (L++M) x=jR E L x++jR E M x:=by unfold jR;rw[List.flatMap_append]
theorem N5 {E:List (Int×Int)}{L:List Int}{i:Int}(h0:0<=i)(h:i<(L.length:Int)):jX E (L.take (i+1).toNat)=yP E (jX E (L.take i.toNat)) (L.getD i.toNat 0):=by
 unfold jX;rw[show(i+1).toNat=i.toNat+1 by omega,alG (by omega),dH,aJ,aY (show i.toNat<L.length by omega)];rfl
theorem N6 {E:List (Int×Int)}{m:List (Int×List Int)}{e v:Int}:(iA (yP E m e) v).getD []=(iA m v).getD []++kO E e v 0:=by
 unfold yP kO;rw[jT,jT,jT,ZX,ZY];generalize (E.getD e.toNat (0,0)).1=A;generalize (E.getD e.toNat (0,0)).2=B
 by_cases h1:A=v<;>by_cases h2:B=v
 .simp[h1,h2]
 .simp[h1,h2]
 .have:¬A=B:=λq=>h1 (q.trans h2);simp[h1,h2,this]
 simp[h1,h2]
theorem Ep (E:List (Int×Int))(v:Int):∀(L M:List Int),(∀x,(iA (M.foldl (yP E) []) x).getD []=jR E M x)->(iA ((L.foldl (yP E) (M.foldl (yP E) []))) v).getD []=jR E (M++L) v
 |[],M,h=>by rw[aZ];exact h v
 |e::L,M,h=>by
  have:=Ep E v L (M++[e]) λx=>by
   rw[dH,dm,anE,N6,h x,Sa];simp[jR]
  rw[dH,dm,anE] at this;rw[dm,this,bl];rfl
theorem ya {E:List (Int×Int)}{L:List Int}{v:Int}:(iA (jX E L) v).getD []=jR E L v:=by
 have:=Ep E v L [] λx=>rfl;exact this
theorem FQ (E:List (Int×Int))(e v s:Int):(kO E e v s).length<=2:=by
 unfold kO;split<;>split<;>simp
theorem Er (E:List (Int×Int))(v:Int):∀L:List Int,(jR E L v).length<=2*L.length
 |[]=>by simp[jR]
 |e::L=>by
  have h1:=FQ E e v 0;have h2:=Er E v L;show(kO E e v 0++jR E L v).length<=_;rw[aN,bf];omega
theorem G7 (E:List (Int×Int)):∀(L:List Int) (m:List (Int×List Int)),(L.foldl (yP E) m).length<=m.length+2*L.length
 |[],m=>by simp
 |e::L,m=>by
  have h1:=G7 E L (yP E m e);have h2:(yP E m e).length<=m.length+2:=bg (ny _ _ _) (amb (ny _ _ _));rw[dm,bf];omega
theorem PT {n:Int}{E:List (Int×Int)}(hr:jm n E=0){e:Int}(h0:0<=e)(h1:e<(E.length:Int)):0<=(E.getD e.toNat (0,0)).1/\(E.getD e.toNat (0,0)).1<n/\0<=(E.getD e.toNat (0,0)).2/\(E.getD e.toNat (0,0)).2<n:=by
 obtain⟨_,_,_,h⟩:=jD hr;obtain⟨a,b,c,d⟩:=h e.toNat (by omega);exact⟨a,b,c,d⟩
theorem zk {n:Int}{E:List (Int×Int)}{V L:List Int}(hp:iM n E V L=0){i:Int}{m:List (Int×List Int)}(hm:m=jX E (L.take i.toNat))(h0:0<=i)(h1:i<(L.length:Int)):
  (0<=L.getD i.toNat 0/\L.getD i.toNat 0<(E.length:Int)/\(E.length:Int)<=1024)/\
  (0<=(E.getD (L.getD i.toNat 0).toNat (0,0)).1/\(E.getD (L.getD i.toNat 0).toNat (0,0)).1<1024/\0<=(E.getD (L.getD i.toNat 0).toNat (0,0)).2/\(E.getD (L.getD i.toNat 0).toNat (0,0)).2<1024)/\
  ((iA m (E.getD (L.getD i.toNat 0).toNat (0,0)).1).getD []).length<=4096/\
  m.length<=4096/\
  ((iA (lD m (E.getD (L.getD i.toNat 0).toNat (0,0)).1 ((iA m (E.getD (L.getD i.toNat 0).toNat (0,0)).1).getD []++[2*L.getD i.toNat 0])) (E.getD (L.getD i.toNat 0).toNat (0,0)).2).getD []).length<=4096/\
  (lD m (E.getD (L.getD i.toNat 0).toNat (0,0)).1 ((iA m (E.getD (L.getD i.toNat 0).toNat (0,0)).1).getD []++[2*L.getD i.toNat 0])).length<=4096:=by
 subst hm;obtain⟨hr,hV,hL,_⟩:=jt hp;obtain⟨r1,r2,r3,r4⟩:=jD hr;have hlen:=jv hL (by omega);obtain⟨k1,k2,_⟩:=hL i.toNat (by omega);obtain⟨e1,e2,e3,e4⟩:=PT hr k1 k2;have MY:(L.take i.toNat).length<=1024:=by rw[aW];omega
 have hd:∀v,((iA (jX E (L.take i.toNat)) v).getD []).length<=2048:=λv=>by
  rw[ya];exact bg (Er E v _) (by omega)
 have hl:=G7 E (L.take i.toNat) [];have hl:(jX E (L.take i.toNat)).length<=2048:=by
  unfold jX;simp only[bP] at hl;omega
 refine⟨⟨k1,k2,by omega⟩,⟨e1,by omega,e3,by omega⟩,bg (hd _) (by omega),by omega,?_,bg (ny _ _ _) (by omega)⟩;rw[jT];split
 .have:=hd (E.getD (L.getD i.toNat 0).toNat (0,0)).1;simp only[cK,aN,cz];omega
 exact bg (hd _) (by omega)
def mz (E:List (Int×Int))(v shut:Int)(s:List (Int×Int)×List Int)(d:Int):List (Int×Int)×List Int:=
 if(iA s.1 (jJ E d)).isSome=true\/jJ E d=shut then s else(lD s.1 (jJ E d) ((iA s.1 v).getD 0+1),s.2++[jJ E d])
def ni (E:List (Int×Int))(M:List (Int×List Int))(v shut:Int)(s:List (Int×Int)×List Int):List (Int×Int)×List Int:=((iA M v).getD []).foldl (mz E v shut) s
def Bi (E:List (Int×Int))(M:List (Int×List Int))(shut:Int):Nat->Int->List (Int×Int)×List Int->List (Int×Int)
 |0,_,s=>s.1
 |f+1,v,s=>match(ni E M v shut s).2 with
  |[]=>(ni E M v shut s).1
  |x::q=>Bi E M shut f x ((ni E M v shut s).1,q)
def l5 (E:List (Int×Int))(M:List (Int×List Int))(a shut:Int):List (Int×Int):=Bi E M shut (2*E.length+2) a ([(a,0)],[])
theorem Lr {α:Type}{l:List (Int×α)}{x:Int}{v:α}(h:iA l x=none):(lD l x v).length=l.length+1:=by
 rw[(Ks h).length_eq];rfl
structure Sb (U:List Int)(s:List (Int×Int)×List Int):Prop where
 nd:(s.1.map (·.1)).Nodup
 sub:∀p∈s.1,p.1∈U
theorem Sb.len {U:List Int}{s:List (Int×Int)×List Int}(h:Sb U s):s.1.length<=U.length:=by
 have:=anF h.nd (l₂:=U) (λx hx=>by obtain⟨p,hp,rfl⟩:=aV.1 hx;exact h.sub p hp);rwa[bp] at this
theorem N7 {U:List Int}{E:List (Int×Int)}{v shut d:Int}{s:List (Int×Int)×List Int}(h:Sb U s)(hd:jJ E d∈U):Sb U (mz E v shut s d)/\(mz E v shut s d).1.length+s.2.length=s.1.length+(mz E v shut s d).2.length:=by
 unfold mz;split
 .exact⟨h,rfl⟩
 rename_i q;have hn:iA s.1 (jJ E d)=none:=by
  cases hl:iA s.1 (jJ E d) with
  |none=>rfl
  |some z=>exact(q (.inl (by rw[hl];rfl))).elim
 refine⟨⟨?_,λp hp=>?_⟩,?_⟩
 .have:=(Ks (v:=(iA s.1 v).getD 0+1) hn).map (·.1);refine this.nodup_iff.2 (ajZ.2 ⟨λhm=>?_,h.nd⟩);obtain⟨p,hp,e⟩:=aV.1 hm;exact wS.1 hn p.2 (by rw[show(jJ E d,p.2)=p from Prod.ext e.symm rfl];exact hp)
 .rcases Pg.1 hp with rfl|⟨hp,_⟩
  .exact hd
  exact h.sub p hp
 show(lD s.1 _ _).length+s.2.length=s.1.length+(s.2++[jJ E d]).length;rw[Lr hn,aN];simp;omega
theorem Z6 {a b:Bool}(h:a=true/\b=true):(a && b)=true:=by rw[h.1,h.2];rfl
theorem adH {a b:Bool}(h:a=false\/b=false):(a && b)=false:=by rcases h with h|h<;>rw[h]<;>simp
theorem agy {a:Bool}{p:Prop}(h:a=false/\¬p):¬(a=true\/p):=λq=>q.elim (λz=>by rw[h.1] at z;cases z) h.2
theorem Z7 {l:List Int}(h:¬l=[]):l=l.getD 0 0::l.drop 1:=by
 cases l with
 |nil=>exact(h rfl).elim
 |cons x l=>rfl
theorem Ls {n:Int}{E:List (Int×Int)}(hr:jm n E=0){d:Int}(h0:0<=d)(h1:d/2<(E.length:Int)):0<=jJ E d/\jJ E d<1024/\jJ E d∈E.flatMap λe=>[e.1,e.2]:=by
 have hn:=(jD hr).2.1;obtain⟨a,b,c,e⟩:=PT hr (e:=d/2) (by omega) h1;have hm:E.getD (d/2).toNat (0,0)∈E:=by
  rw[aJ,aY (show(d/2).toNat<E.length by omega)];exact cI _
 unfold jJ eA eB;split
 .exact⟨c,by omega,dG.2 ⟨_,hm,by simp⟩⟩
 exact⟨a,by omega,dG.2 ⟨_,hm,by simp⟩⟩
def DOk (E:List (Int×Int))(M:List (Int×List Int)):Prop:=∀v,∀d∈(iA M v).getD [],0<=d/\d/2<(E.length:Int)
def univ (E:List (Int×Int))(a:Int):List Int:=a::E.flatMap λe=>[e.1,e.2]
theorem Lt (E:List (Int×Int))(a:Int):(univ E a).length=2*E.length+1:=by
 have:∀E:List (Int×Int),(E.flatMap λe=>[e.1,e.2]).length=2*E.length:=λE=>by
  induction E with
  |nil=>rfl
  |cons e E ih=>rw[cE,aN,ih];simp;omega
 show(E.flatMap λe=>[e.1,e.2]).length+1=_;rw[this]
theorem Z8 {n:Int}{E:List (Int×Int)}(hr:jm n E=0){a:Int}(h0:0<=a)(h1:a<1024):∀x∈univ E a,0<=x/\x<1024:=λx hx=>by
 have hn:=(jD hr).2.1;rcases aD.1 hx with rfl|hx
 .exact⟨h0,h1⟩
 obtain⟨e,he,hx⟩:=dG.1 hx;obtain⟨j,hj,rfl⟩:=ajY he;have:=(jD hr).2.2.2 j hj;rw[aJ,aY hj] at this;have⟨p,q,r,t⟩:=this;simp only[cK] at p q r t;rcases aD.1 hx with rfl|hx
 .exact⟨p,by omega⟩
 rw[av.1 hx];exact⟨r,by omega⟩
structure N8 (E:List (Int×Int))(a:Int)(v:Int)(k:Nat)(m:List (Int×Int))(q:List Int):Prop where
 s:Sb (univ E a) (m,q)
 vU:v∈univ E a
 qU:∀x∈q,x∈univ E a
 n:m.length=k+1+q.length
 b:∀p∈m,0<=p.2/\p.2<=(k:Int)+1
 vM:(iA m v).isSome=true
 qM:∀x∈q,(iA m x).isSome=true
 c:0<=(iA m v).getD 0/\(iA m v).getD 0<=(k:Int)
structure Jf (E:List (Int×Int))(M:List (Int×List Int))(a shut v:Int)(ok:Bool)(q:List Int)(m:List (Int×Int))(k:Nat):Prop where
 go:ok=true->N8 E a v k m q/\(∀p∈m,p.2<=(k:Int))/\l5 E M a shut=Bi E M shut (2*E.length+2-k) v (m,q)
 done:ok=false->m=l5 E M a shut
 kB:k<=2*E.length+1
theorem vN {m:List (Int×Int)}{P:Int->Prop}(h0:P 0)(h:∀p∈m,P p.2)(v:Int):P ((iA m v).getD 0):=by
 cases hl:iA m v with
 |none=>exact h0
 |some z=>exact h _ (xO hl)
theorem PU {α:Type}(a:Int)(y:α):iA [(a,y)] a=some y:=by
 cases h:iA [(a,y)] a with
 |none=>exact(wS.1 h y aE).elim
 |some z=>have:=av.1 (xO h);cases this;rfl
theorem Jf.init (E:List (Int×Int))(M:List (Int×List Int))(a shut:Int):Jf E M a shut a true [] [(a,0)] 0:=by
 refine⟨λ_=>⟨⟨⟨by simp,λp hp=>?_⟩,aE,λx hx=>(by cases hx),rfl,λp hp=>?_,by rw[PU];rfl,λx hx=>(by cases hx),vN (P:=λy=>0<=y/\y<=((0:Nat):Int)) ⟨by omega,by omega⟩ (λp hp=>by rw[av.1 hp];exact⟨by simp,by simp⟩) a⟩,λp hp=>?_,rfl⟩,(λq=>by cases q),by omega⟩
 .rw[av.1 hp];exact aE
 .rw[av.1 hp];exact⟨by simp,by simp⟩
 rw[av.1 hp];simp
theorem N8.bd {E:List (Int×Int)}{a v:Int}{k:Nat}{m:List (Int×Int)}{q:List Int}(h:N8 E a v k m q):m.length<=2*E.length+1/\k<=2*E.length:=by
 have h1:=h.s.len;rw[Lt] at h1;have h2:=h.n;simp only at h1;exact⟨h1,by omega⟩
theorem N8.agz {E:List (Int×Int)}{a v shut d:Int}{k:Nat}{m:List (Int×Int)}{q:List Int}(h:N8 E a v k m q)(hd:jJ E d∈univ E a)(hn:¬((iA m (jJ E d)).isSome=true\/jJ E d=shut)):
  N8 E a v k (lD m (jJ E d) ((iA m v).getD 0+1)) (q++[jJ E d]):=by
 have hv:=h.vM;have e:mz E v shut (m,q) d=(lD m (jJ E d) ((iA m v).getD 0+1),q++[jJ E d]):=by unfold mz;rw[ah hn]
 obtain⟨k1,k2⟩:=N7 (v:=v) (shut:=shut) h.s hd;rw[e] at k1 k2;have mc:¬jJ E d=v:=λz=>hn (.inl (by rw[z];exact hv));refine⟨k1,h.vU,λx hx=>?_,?_,λp hp=>?_,?_,λx hx=>?_,?_⟩
 .rcases aK.1 hx with hx|hx
  .exact h.qU x hx
  rw[av.1 hx];exact hd
 .have:=h.n;simp only at k2;omega
 .have hc:=h.c;rcases Pg.1 hp with rfl|⟨hp,_⟩
  .exact⟨by show 0<=(iA m v).getD 0+1;omega,by show(iA m v).getD 0+1<=(k:Int)+1;omega⟩
  exact h.b p hp
 .rw[jT,ah mc];exact hv
 .rw[jT];split
  .rfl
  rename_i z;rcases aK.1 hx with hx|hx
  .exact h.qM x hx
  rw[av.1 hx] at z;exact(z rfl).elim
 rw[jT,ah mc];exact h.c
theorem td {α:Type}(f:α->Int->α){l:List Int}{i:Int}(s:α)(h0:0<=i)(h:i<(l.length:Int)):(l.take (i+1).toNat).foldl f s=f ((l.take i.toNat).foldl f s) (l.getD i.toNat 0):=by
 rw[show(i+1).toNat=i.toNat+1 by omega,alG (by omega),dH,aJ,aY (show i.toNat<l.length by omega)];rfl
theorem Jf.step {E:List (Int×Int)}{M:List (Int×List Int)}{a shut v:Int}{ok:Bool}{q q' q2:List Int}{m m':List (Int×Int)}{k:Nat}(h:Jf E M a shut v ok q m k)(o6:ok=true)(he:ni E M v shut (m,q)=(m',q'))(hm:N8 E a v k m' q'):
  (q'=[]->Jf E M a shut 0 false q2 m' (k+1))/\(∀x t,q'=x::t->Jf E M a shut x true t m' (k+1)):=by
 obtain⟨h1,h2,h3⟩:=h.go o6;have⟨b1,b2⟩:=hm.bd;have hf:2*E.length+2-k=(2*E.length+2-(k+1))+1:=by omega
 have kg:l5 E M a shut=(match(m',q').2 with
  |[]=>(m',q').1
  |x::t=>Bi E M shut (2*E.length+2-(k+1)) x ((m',q').1,t)):=by
  rw[h3,hf,<-he];rfl
 refine⟨λz=>?_,λx t z=>?_⟩
 .subst z;exact⟨λw=>(by cases w),λ_=>kg.symm,by omega⟩
 subst z;refine⟨λ_=>⟨⟨⟨hm.s.nd,hm.s.sub⟩,hm.qU x aE,λy hy=>hm.qU y (aI _ hy),?_,λp hp=>?_,?_,?_,?_⟩,λp hp=>?_,kg⟩,λw=>(by cases w),by omega⟩
 .have:=hm.n;rw[bf] at this;omega
 .have:=hm.b p hp;exact⟨this.1,by omega⟩
 .exact hm.qM x aE
 .exact λy hy=>hm.qM y (aI _ hy)
 .exact vN (P:=λy=>0<=y/\y<=((k+1:Nat):Int)) ⟨by omega,by omega⟩ (λp hp=>by have:=hm.b p hp;exact⟨this.1,by omega⟩) x
 have:=hm.b p hp;omega
def uc (l:List Int)(i:Int):List Int:=l.drop i.toNat++l.take i.toNat
def pS (l:List Int):Nat->Int
 |0=>0
 |k+1=>if l.getD k 0<l.getD (pS l k).toNat 0 then(k:Int) else pS l k
def iK (l:List Int):List Int:=uc l (pS l l.length)
theorem rL (l:List Int):∀k:Nat,0<=pS l k/\(pS l k=0\/pS l k<(k:Int))
 |0=>⟨bN _,.inl rfl⟩
 |k+1=>by
  obtain⟨h1,h2⟩:=rL l k;unfold pS;split
  .exact⟨by omega,.inr (by omega)⟩
  exact⟨h1,h2.imp id λh=>by omega⟩
theorem ud (l:List Int){i:Int}(h:0<=i):pS l (i+1).toNat=if l.getD i.toNat 0<l.getD (pS l i.toNat).toNat 0 then i else pS l i.toNat:=by
 rw[show(i+1).toNat=i.toNat+1 by omega];show(if _ then((i.toNat:Nat):Int) else _)=_;rw[cC h]
theorem kJ (l:List Int):(iK l).length=l.length:=by
 unfold iK uc;rw[aN,bu,aW];have:=rL l l.length;omega
theorem vO {l:List Int}{x:Int}(h:x∈iK l):x∈l:=by
 unfold iK uc at h;rcases aK.1 h with h|h
 .exact dP h
 exact cQ h
def Aj (P:List (Int×Int))(t:List Int):Nat->List (Int×Int)
 |0=>P
 |k+1=>lD (Aj P t k) (t.getD k 0) (k:Int)
def tf (T:List (List Int)):Nat->List (Int×Int)
 |0=>[]
 |v+1=>Aj (tf T v) (iK (T.getD v [])) (iK (T.getD v [])).length
theorem Sd {P:List (Int×Int)}{t:List Int}{i:Int}(h:0<=i):Aj P t (i+1).toNat=lD (Aj P t i.toNat) (t.getD i.toNat 0) i:=by
 rw[show(i+1).toNat=i.toNat+1 by omega];show lD _ _ ((i.toNat:Nat):Int)=_;rw[cC h]
theorem Se {T:List (List Int)}{i:Int}(h:0<=i):tf T (i+1).toNat=Aj (tf T i.toNat) (iK (T.getD i.toNat [])) (iK (T.getD i.toNat [])).length:=by
 rw[show(i+1).toNat=i.toNat+1 by omega];rfl
theorem Es (P:List (Int×Int))(t:List Int):∀k,(Aj P t k).length<=P.length+k
 |0=>az _
 |k+1=>by
  have:=Es P t k;have:=ny (Aj P t k) (t.getD k 0) (k:Int);show(lD _ _ _).length<=_;omega
theorem Sf {α β:Type}{f:α->β}{T:List α}{i:Int}(d:α)(h0:0<=i)(h1:i<(T.length:Int)):(T.take (i+1).toNat).map f=(T.take i.toNat).map f++[f (T.getD i.toNat d)]:=by
 rw[show(i+1).toNat=i.toNat+1 by omega,alI,cg,aY (by omega)]
 congr 1
 rw[aJ,aY (by omega)];rfl
theorem iG {α:Type}{l:List α}{i:Nat}{d:α}(h:i<l.length):l.getD i d∈l:=by
 rw[aJ,aY h];exact cI _
def kH (T:List (List Int)):Prop:=∀l∈T,∀d∈l,-9223372036854775808<=d/\d<=9223372036854775807
def jc (T:List (List Int)):Prop:=T.length<=10000/\∀l∈T,l.length<=10000
theorem Lu {T:List (List Int)}(h:jc T):∀v,(tf T v).length<=v*10000
 |0=>by simp[tf]
 |v+1=>by
  have h1:=Lu h v;have h2:=Es (tf T v) (iK (T.getD v [])) (iK (T.getD v [])).length;have h3:(T.getD v []).length<=10000:=by
   by_cases q:v<T.length
   .exact h.2 _ (iG q)
   rw[aJ,dF (by omega)];simp
  rw[kJ] at h2;show(Aj _ _ _).length<=_;rw[bT,kJ];omega
abbrev xw:Type:=List (List Int)×(List (Int×Int)×(List (Int×Int)×List Int))
def lz (r:Option xw)(d s:Int):Int×Bool:=match r with
 |none=>(0,false)
 |some (T,lv,pl,ds)=>match iA lv d with
  |none=>(0,false)
  |some v=>((T.getD v.toNat []).getD (((iA pl d).getD 0+s+((T.getD v.toNat []).length:Int))%((T.getD v.toNat []).length:Int)).toNat 0,true)
def Et (r:Option xw)(d:Int):Prop:=match r with
 |none=>False
 |some (T,lv,pl,ds)=> ∀v,iA lv d=some v->0<=v/\v<(T.length:Int)/\(T.getD v.toNat []).length<=10000/\0<=(iA pl d).getD 0/\(iA pl d).getD 0<((T.getD v.toNat []).length:Int)
theorem Et.some {r:Option xw}{d:Int}(h:Et r d):∃x,r=Option.some x:=by
 cases r with
 |none=>exact h.elim
 |some x=>exact⟨x,rfl⟩
def Cx (M:List (Int×Int))(k v:Int):List (Int×Int):=lD (lD M k ((iA M k).getD 0)) k v
theorem Eu (M:List (Int×Int))(k v:Int):(Cx M k v).length<=M.length+2:=by
 have h1:=ny M k ((iA M k).getD 0);have h2:=ny (lD M k ((iA M k).getD 0)) k v;unfold Cx;omega
def lv1 (E:List (Int×Int))(M:List (Int×Int))(e:Int):List (Int×Int):=Cx (Cx M (2*e) (E.getD e.toNat (0,0)).1) (2*e+1) (E.getD e.toNat (0,0)).2
def zF (E:List (Int×Int))(L:List Int):Nat->List (Int×Int)
 |0=>[]
 |k+1=>lv1 E (zF E L k) (L.getD k 0)
def mE (L:List Int):Nat->List Int
 |0=>[]
 |k+1=>mE L k++[2*L.getD k 0,2*L.getD k 0+1]
theorem VX {E:List (Int×Int)}{L:List Int}{i:Int}(h:0<=i):zF E L (i+1).toNat=lv1 E (zF E L i.toNat) (L.getD i.toNat 0):=by
 rw[show(i+1).toNat=i.toNat+1 by omega];rfl
theorem VY {L:List Int}{i:Int}(h:0<=i):mE L (i+1).toNat=mE L i.toNat++[2*L.getD i.toNat 0,2*L.getD i.toNat 0+1]:=by
 rw[show(i+1).toNat=i.toNat+1 by omega];rfl
theorem PV (E:List (Int×Int))(L:List Int):∀k,(zF E L k).length<=4*k
 |0=>az _
 |k+1=>by
  have h:=PV E L k;have h1:=Eu (zF E L k) (2*L.getD k 0) (E.getD (L.getD k 0).toNat (0,0)).1;have h2:=Eu (Cx (zF E L k) (2*L.getD k 0) (E.getD (L.getD k 0).toNat (0,0)).1) (2*L.getD k 0+1) (E.getD (L.getD k 0).toNat (0,0)).2;show(Cx _ _ _).length<=_;omega
theorem ue (L:List Int):∀k,(mE L k).length=2*k
 |0=>rfl
 |k+1=>by
  have:=ue L k;show(mE L k++[2*L.getD k 0,2*L.getD k 0+1]).length=_;rw[aN];simp;omega
def J6 (lv:List (Int×Int))(v:Int)(t:List Int)(P:List (Int×Int)):Nat->Option (List (Int×Int))
 |0=>some P
 |k+1=>match J6 lv v t P k with
  |none=>none
  |some Q=>if(iA lv (t.getD k 0)).isSome=true/\(iA lv (t.getD k 0)).getD 0=v/\(iA Q (t.getD k 0)).isSome=false then some (lD Q (t.getD k 0) (k:Int)) else none
def G8 (lv:List (Int×Int))(T:List (List Int)):Nat->Option (List (Int×Int))
 |0=>some []
 |v+1=>match G8 lv T v with
  |none=>none
  |some P=>J6 lv (v:Int) (T.getD v []) P (T.getD v []).length
theorem Lv {lv:List (Int×Int)}{v:Int}{t:List Int}{P:List (Int×Int)}{k:Nat}(h:J6 lv v t P k=none):∀ {m:Nat},k<=m->J6 lv v t P m=none
 |0,hm=>by rw[show k=0 by omega] at h;exact h
 |m+1,hm=>by
  by_cases q:k=m+1
  .rw[<-q];exact h
  have:=Lv h (m:=m) (by omega);unfold J6;rw[this]
theorem Lw {lv:List (Int×Int)}{T:List (List Int)}{k:Nat}(h:G8 lv T k=none):∀ {m:Nat},k<=m->G8 lv T m=none
 |0,hm=>by rw[show k=0 by omega] at h;exact h
 |m+1,hm=>by
  by_cases q:k=m+1
  .rw[<-q];exact h
  have:=Lw h (m:=m) (by omega);unfold G8;rw[this]
theorem Lx {lv:List (Int×Int)}{v:Int}{t:List Int}{P Q:List (Int×Int)}{i:Int}(h:0<=i)(hQ:J6 lv v t P i.toNat=some Q):
  J6 lv v t P (i+1).toNat=if(iA lv (t.getD i.toNat 0)).isSome=true/\(iA lv (t.getD i.toNat 0)).getD 0=v/\(iA Q (t.getD i.toNat 0)).isSome=false then some (lD Q (t.getD i.toNat 0) i) else none:=by
 rw[show(i+1).toNat=i.toNat+1 by omega]
 conv=>lhs;unfold J6
 rw[hQ];show(if _ then some (lD Q _ ((i.toNat:Nat):Int)) else none)=_;rw[cC h]
theorem Lz {lv:List (Int×Int)}{T:List (List Int)}{P:List (Int×Int)}{v:Int}(h:0<=v)(hP:G8 lv T v.toNat=some P):G8 lv T (v+1).toNat=J6 lv v (T.getD v.toNat []) P (T.getD v.toNat []).length:=by
 rw[show(v+1).toNat=v.toNat+1 by omega]
 conv=>lhs;unfold G8
 rw[hP];show J6 lv ((v.toNat:Nat):Int) _ _ _=_;rw[cC h]
theorem Jg {lv:List (Int×Int)}{v:Int}{t:List Int}{P:List (Int×Int)}:∀ {k:Nat} {Q:List (Int×Int)},J6 lv v t P k=some Q->Q.length<=P.length+k
 |0,Q,h=>by cases h;omega
 |k+1,Q,h=>by
  unfold J6 at h;split at h
  .cases h
  rename_i R hR;have:=Jg hR;split at h
  .cases h;have:=ny R (t.getD k 0) (k:Int);omega
  cases h
theorem Jh {lv:List (Int×Int)}{T:List (List Int)}(hs:jc T):∀ {v:Nat} {Q:List (Int×Int)},G8 lv T v=some Q->Q.length<=v*10000
 |0,Q,h=>by cases h;simp
 |v+1,Q,h=>by
  unfold G8 at h;split at h
  .cases h
  rename_i R hR;have h1:=Jh hs hR;have h2:=Jg h;have h3:(T.getD v []).length<=10000:=by
   by_cases q:v<T.length
   .exact hs.2 _ (iG q)
   rw[aJ,dF (by omega)];simp
  rw[bT];omega
def kC (n:Int)(E:List (Int×Int))(V L:List Int)(T:List (List Int)):Option xw×Int:=
 if iM n E V L≠0 then(none,iM n E V L) else if(T.length:Int)≠n then(none,5) else match G8 (zF E L L.length) T T.length with
  |none=>(none,5)
  |some P=>if(P.length:Int)≠((zF E L L.length).length:Int) then(none,5) else(some (T.map iK,zF E L L.length,tf T T.length,mE L L.length),0)
theorem LA {n:Int}{E:List (Int×Int)}{V L:List Int}{T:List (List Int)}(h1:iM n E V L=0)(h2:(T.length:Int)=n)(h3:G8 (zF E L L.length) T T.length=none):kC n E V L T=(none,5):=by
 unfold kC;rw[ah (by omega),ah (by omega),h3]
theorem Ev {n:Int}{E:List (Int×Int)}{V L:List Int}{T:List (List Int)}(h1:iM n E V L=0)(h2:¬(T.length:Int)=n):kC n E V L T=(none,5):=by
 unfold kC;rw[ah (by omega),ak h2]
theorem LB {n:Int}{E:List (Int×Int)}{V L:List Int}{T:List (List Int)}{P:List (Int×Int)}(h1:iM n E V L=0)(h2:(T.length:Int)=n)(h3:G8 (zF E L L.length) T T.length=some P)(h4:¬(P.length:Int)=((zF E L L.length).length:Int)):kC n E V L T=(none,5):=by
 unfold kC;rw[ah (by omega),ah (by omega),h3];exact ak h4
theorem Ji {n:Int}{E:List (Int×Int)}{V L:List Int}{T:List (List Int)}{P:List (Int×Int)}(h1:iM n E V L=0)(h2:(T.length:Int)=n)(h3:G8 (zF E L L.length) T T.length=some P)(h4:(P.length:Int)=((zF E L L.length).length:Int)):kC n E V L T=(some (T.map iK,zF E L L.length,tf T T.length,mE L L.length),0):=by
 unfold kC;rw[ah (by omega),ah (by omega),h3];exact ah (by omega)
theorem cover {α:Type}[DecidableEq α]{l m:List α}(hl:l.Nodup)(hs:∀x∈l,x∈m)(h:m.length<=l.length):∀x∈m,x∈l:=λx hx=>bL λq=>by
 have h1:(x::l).Nodup:=ajZ.2 ⟨q,hl⟩;have:=h1.length_le_of_subset (l₂:=m) λy hy=>(aD.1 hy).elim (λe=>e▸hx) (hs y);simp at this;omega
theorem mJ {α:Type}{l:List α}{z:α}(h:l.Nodup){i j:Nat}(hi:i<l.length)(hj:j<l.length)(e:l.getD i z=l.getD j z):i=j:=by
 rw[aJ,aJ,aY hi,aY hj] at e;exact(List.getElem_inj h).1 e
theorem iT {α:Type}{l:List α}{z x:α}:x∈l↔∃j,j<l.length/\l.getD j z=x:=by
 constructor
 .intro h;obtain⟨j,hj,e⟩:=ajY h;exact⟨j,hj,by rw[aJ,aY hj];exact e⟩
 rintro⟨j,hj,e⟩;rw[aJ,aY hj] at e;exact e▸cI hj
def jS (L:List Int)(d:Int):Prop:=d/2∈L
theorem zl {L:List Int}{d:Int}:jS L d↔∃e∈L,d=2*e\/d=2*e+1:=by
 constructor
 .exact λh=>⟨d/2,h,by omega⟩
 rintro⟨e,he,q⟩;have:d/2=e:=by omega
 unfold jS;rw[this];exact he
theorem CU {L:List Int}:∀ {k:Nat},k<=L.length->∀d,d∈mE L k↔jS (L.take k) d
 |0,_,d=>by simp[mE,jS]
 |k+1,h,d=>by
  have ih:=CU (L:=L) (k:=k) (by omega) d;have e:L.take (k+1)=L.take k++[L.getD k 0]:=by
   rw[alI,aJ,aY (by omega)];rfl
  unfold jS at ih ⊢;rw[e,mE,aK,ih,aK];simp only[aD,ako,or_false];constructor
  .rintro(q|q|q)
   .exact .inl q
   .exact .inr (by omega)
   exact .inr (by omega)
  rintro(q|q)
  .exact .inl q
  exact .inr (by omega)
theorem mC {L:List Int}(d:Int):d∈mE L L.length↔jS L d:=by rw[CU (az _),bU]
theorem yc {L:List Int}(h:L.Nodup):∀ {k:Nat},k<=L.length->(mE L k).Nodup
 |0,_=>ajW
 |k+1,hk=>by
  have hn:L.getD k 0∉L.take k:=λq=>by
   obtain⟨j,hj,e⟩:=iT (z:=0).1 q;rw[aW] at hj;rw[aJ,bK,ak (by omega),<-aJ] at e;have:=mJ h (by omega) (by omega) e;omega
  have PS:∀d,d/2=L.getD k 0->d∉mE L k:=λd hd q=>hn (by have:=(CU (by omega) d).1 q;unfold jS at this;rwa[hd] at this);rw[mE,cY];refine⟨yc h (by omega),?_,?_⟩
  .simp only[ajZ,av,ako,not_false_eq_true,ajW,and_true];omega
  intro a ha b hb e;subst e;simp only[aD,ako,or_false] at hb;exact PS a (by omega) ha
theorem LC {M:List (Int×Int)}{k v x:Int}:iA (Cx M k v) x=if k=x then some v else iA M x:=by
 unfold Cx;rw[jT,jT];split<;>rfl
theorem tg {E:List (Int×Int)}{L:List Int}:∀ {k:Nat},k<=L.length->∀d,iA (zF E L k) d=if d∈mE L k then some (iC E d) else none
 |0,_,d=>by simp[mE,zF];rfl
 |k+1,h,d=>by
  have ih:=tg (E:=E) (L:=L) (k:=k) (by omega) d;show iA (lv1 E (zF E L k) (L.getD k 0)) d=_;unfold lv1;rw[LC,LC,ih,mE]
  by_cases h1:2*L.getD k 0+1=d
  .rw[ak h1,ak (bq _ (by simp[<-h1]))];rw[<-h1];congr 1;unfold iC
   rw[ah (by omega),show(2*L.getD k 0+1)/2=L.getD k 0 by omega]
  rw[ah h1]
  by_cases h2:2*L.getD k 0=d
  .rw[ak h2,ak (bq _ (by simp[<-h2]))];rw[<-h2];congr 1;unfold iC
   rw[ak (by omega),show(2*L.getD k 0)/2=L.getD k 0 by omega]
  rw[ah h2];have e:(d∈mE L k++[2*L.getD k 0,2*L.getD k 0+1])↔d∈mE L k:=by
   rw[aK];constructor
   .rintro(q|q)
    .exact q
    simp only[aD,ako,or_false] at q;omega
   exact .inl
  by_cases h3:d∈mE L k
  .rw[ak h3,ak (e.2 h3)]
  rw[ah h3,ah λq=>h3 (e.1 q)]
def KN {α:Type}(m:List (Int×α)):Prop:=(m.map (·.1)).Nodup
theorem VZ {α:Type}{m:List (Int×α)}(h:KN m)(x:Int):KN (DA m x):=h.sublist (aoh _ List.filter_sublist)
theorem LD {α:Type}{m:List (Int×α)}(h:KN m)(x:Int)(v:α):KN (lD m x v):=by
 have hp:(lD m x v).Perm ((x,v)::DA m x):=AZ (k:=.int) (x,v) (sw (k:=.int) m x);unfold KN;rw[(hp.map (·.1)).nodup_iff,bn,ajZ];refine⟨λq=>?_,VZ h x⟩;obtain⟨p,hp,e⟩:=aV.1 q;have:iA (DA m x) x=none:=by rw[DB,ak rfl]
 have e:p.1=x:=e;exact wS.1 this p.2 (by obtain⟨p1,p2⟩:=p;subst e;exact hp)
theorem Jj {α:Type}:KN ([]:List (Int×α)):=ajW
theorem mem_keys {α:Type}{m:List (Int×α)}{x:Int}:x∈m.map (·.1)↔(iA m x).isSome=true:=by
 constructor
 .intro h;obtain⟨p,hp,e⟩:=aV.1 h;cases hq:iA m x with
  |some _=>rfl
  |none=>exact(wS.1 hq p.2 (by obtain⟨p1,p2⟩:=p;have e:p1=x:=e;subst e;exact hp)).elim
 intro h;obtain⟨v,hv⟩:=bG.1 h;exact aV.2 ⟨_,xO hv,rfl⟩
theorem Jk {α:Type}{m:List (Int×α)}(h:KN m){l:List Int}(hl:l.Nodup)(he:∀x,x∈l↔(iA m x).isSome=true):m.length=l.length:=by
 have h1:=hl.length_le_of_subset (l₂:=m.map (·.1)) λx hx=>mem_keys.2 ((he x).1 hx);have h2:=h.length_le_of_subset (l₂:=l) λx hx=>(he x).2 (mem_keys.1 hx);rw[bp] at h1 h2;omega
theorem G9 {α:Type}{m:List (Int×α)}(h:KN m){x:Int}(hx:(iA m x).isSome=true):(DA m x).length+1=m.length:=by
 have hn:x∉(DA m x).map (·.1):=λq=>by
  have:=mem_keys.1 q;rw[DB,ak rfl] at this;cases this
 have hc:(x::(DA m x).map (·.1)).Nodup:=ajZ.2 ⟨hn,VZ h x⟩;have:=Jk h hc λy=>by
  rw[aD,mem_keys,DB];constructor
  .rintro(rfl|q)
   .exact hx
   split at q
   .cases q
   exact q
  intro q
  by_cases e:x=y
  .exact .inl e.symm
  exact .inr (by rw[ah e];exact q)
 simp at this;omega
theorem V0 {M:List (Int×Int)}(h:KN M)(k v:Int):KN (Cx M k v):=LD (LD h _ _) _ _
theorem acD (E:List (Int×Int))(L:List Int):∀k,KN (zF E L k)
 |0=>Jj
 |k+1=>V0 (V0 (acD E L k) _ _) _ _
theorem Ew {E:List (Int×Int)}{L:List Int}(h:L.Nodup):(zF E L L.length).length=(mE L L.length).length:=
 Jk (acD E L _) (yc h (az _)) λd=>by
  rw[tg (az _)]
  by_cases q:d∈mE L L.length
  .rw[ak q];exact⟨λ_=>rfl,λ_=>q⟩
  rw[ah q];exact⟨λz=>(q z).elim,λz=>by cases z⟩
theorem mK {α:Type}{l:List α}{k:Nat}(h:k<l.length)(z:α):l.take (k+1)=l.take k++[l.getD k z]:=by
 rw[alI,aJ,aY h];rfl
structure Gd (lv:List (Int×Int))(v:Int)(l:List Int)(P:List (Int×Int))(Q:List (Int×Int)):Prop where
 nd:l.Nodup
 fr:∀d∈l,iA P d=none
 lk:∀d∈l,iA lv d=some v
 ks:∀d,(iA Q d).isSome=true↔(iA P d).isSome=true\/d∈l
 kn:KN Q
theorem Ex {lv:List (Int×Int)}{v:Int}{t:List Int}{P:List (Int×Int)}(hP:KN P):∀ {k:Nat} {Q:List (Int×Int)},k<=t.length->J6 lv v t P k=some Q->Gd lv v (t.take k) P Q
 |0,Q,_,h=>by
  have h:some P=some Q:=h;cases h;exact⟨by rw[List.take_zero];exact ajW,λd hd=>by simp at hd,λd hd=>by simp at hd,λd=>by simp,hP⟩
 |k+1,Q,hk,h=>by
  unfold J6 at h;split at h
  .cases h
  rename_i R hR;obtain⟨g1,g2,g3,g4,g5⟩:=Ex hP (k:=k) (by omega) hR;split at h
  .rename_i hc;cases h;have⟨c1,c2,c3⟩:=hc;have hn:¬(iA R (t.getD k 0)).isSome=true:=by rw[c3];simp
   have hx:¬((iA P (t.getD k 0)).isSome=true\/t.getD k 0∈t.take k):=λq=>hn ((g4 _).2 q);rw[mK (by omega) 0];refine⟨?_,λd hd=>?_,λd hd=>?_,λd=>?_,LD g5 _ _⟩
   .rw[cY];exact⟨g1,by simp,λa ha b hb e=>by subst e;have:=av.1 hb;subst this;exact hx (.inr ha)⟩
   .rcases aK.1 hd with hd|hd
    .exact g2 d hd
    have:=av.1 hd;subst this;cases hq:iA P (t.getD k 0) with
    |none=>rfl
    |some _=>exact(hx (.inl (by rw[hq];rfl))).elim
   .rcases aK.1 hd with hd|hd
    .exact g3 d hd
    have:=av.1 hd;subst this;obtain⟨u,hu⟩:=bG.1 c1;rw[hu] at c2 ⊢;exact aL some c2
   rw[jT,aK,av]
   by_cases e:t.getD k 0=d
   .rw[ak e];exact⟨λ_=>.inr (.inr e.symm),λ_=>rfl⟩
   rw[ah e,g4];exact⟨λq=>q.elim .inl λq=>.inr (.inl q),λq=>q.elim .inl λq=>q.elim .inr λq=>(e q.symm).elim⟩
  cases h
theorem V1 {lv:List (Int×Int)}{v:Int}{t:List Int}{P:List (Int×Int)}(hP:KN P)(h1:t.Nodup)(h2:∀d∈t,iA P d=none)(h3:∀d∈t,iA lv d=some v):∀ {k:Nat},k<=t.length->∃Q,J6 lv v t P k=some Q
 |0,_=>⟨P,rfl⟩
 |k+1,hk=>by
  obtain⟨R,hR⟩:=V1 hP h1 h2 h3 (k:=k) (by omega);have g:=Ex hP (k:=k) (by omega) hR;have hm:t.getD k 0∈t:=iT.2 ⟨k,by omega,rfl⟩;have hnt:t.getD k 0∉t.take k:=λq=>by
   obtain⟨j,hj,e⟩:=iT (z:=0).1 q;rw[aW] at hj;rw[aJ,bK,ak (by omega),<-aJ] at e;have:=mJ h1 (by omega) (by omega) e;omega
  have agA:(iA R (t.getD k 0)).isSome=false:=by
   cases hq:(iA R (t.getD k 0)).isSome with
   |false=>rfl
   |true=>
    rcases(g.ks _).1 hq with z|z
    .rw[h2 _ hm] at z;cases z
    exact(hnt z).elim
  refine⟨lD R (t.getD k 0) (k:Int),?_⟩;unfold J6;rw[hR];exact ak ⟨by rw[h3 _ hm];rfl,by rw[h3 _ hm];rfl,agA⟩
structure GdF (lv:List (Int×Int))(T:List (List Int))(v:Nat)(Q:List (Int×Int)):Prop where
 nd:(T.take v).flatten.Nodup
 lk:∀u,u<v->∀d∈T.getD u [],iA lv d=some (u:Int)
 ks:∀d,(iA Q d).isSome=true↔d∈(T.take v).flatten
 kn:KN Q
theorem sL {T:List (List Int)}{v:Nat}(h:v<=T.length){d:Int}:d∈(T.take v).flatten↔∃u,u<v/\d∈T.getD u []:=by
 rw[List.mem_flatten];constructor
 .rintro⟨l,hl,hd⟩;obtain⟨j,hj,e⟩:=iT (z:=[]).1 hl;rw[aW] at hj;rw[aJ,bK,ak (by omega),<-aJ] at e;exact⟨j,by omega,by rw[e];exact hd⟩
 rintro⟨u,hu,hd⟩;refine⟨T.getD u [],iT (z:=[]).2 ⟨u,by rw[aW];omega,?_⟩,hd⟩;rw[aJ,bK,ak hu,<-aJ]
theorem Ak {lv:List (Int×Int)}{T:List (List Int)}:∀ {v:Nat} {Q:List (Int×Int)},v<=T.length->G8 lv T v=some Q->GdF lv T v Q
 |0,Q,_,h=>by
  have h:some []=some Q:=h;cases h;exact⟨by simp,λu hu=>by omega,λd=>by simp;rfl,Jj⟩
 |v+1,Q,hv,h=>by
  unfold G8 at h;split at h
  .cases h
  rename_i P hP;obtain⟨f1,f2,f3,f4⟩:=Ak (v:=v) (by omega) hP;obtain⟨g1,g2,g3,g4,g5⟩:=Ex f4 (az _) h;rw[bU] at g1 g2 g3 g4;refine⟨?_,λu hu d hd=>?_,λd=>?_,g5⟩
  .rw[mK (by omega) [],cF,ak9,alF,aZ,cY];exact⟨f1,g1,λa ha b hb e=>by subst e;have:=(f3 a).2 ha;rw[g2 a hb] at this;cases this⟩
  .by_cases q:u=v
   .subst q;exact g3 d hd
   exact f2 u (by omega) d hd
  rw[g4,f3,mK (by omega) [],cF,ak9,alF,aZ,aK]
theorem V2 {lv:List (Int×Int)}{T:List (List Int)}(h1:∀u,u<T.length->(T.getD u []).Nodup)(h2:∀u,u<T.length->∀d∈T.getD u [],iA lv d=some (u:Int)):∀ {v:Nat},v<=T.length->∃Q,G8 lv T v=some Q
 |0,_=>⟨[],rfl⟩
 |v+1,hv=>by
  obtain⟨P,hP⟩:=V2 h1 h2 (v:=v) (by omega);have g:=Ak (v:=v) (by omega) hP;unfold G8;rw[hP];refine V1 g.kn (h1 v (by omega)) (λd hd=>?_) (h2 v (by omega)) (az _);cases hq:iA P d with
  |none=>rfl
  |some _=>
   obtain⟨u,hu,hdu⟩:=(sL (by omega)).1 ((g.ks d).1 (by rw[hq];rfl));have e1:=h2 u (by omega) d hdu;rw[h2 v (by omega) d hd] at e1;injection e1 with e1
   omega
structure mN (n:Int)(E:List (Int×Int))(L:List Int)(T:List (List Int)):Prop where
 len:(T.length:Int)=n
 nd:∀v,v<T.length->(T.getD v []).Nodup
 mem:∀v,v<T.length->∀d,d∈T.getD v []↔jS L d/\iC E d=(v:Int)
theorem Al {L:List Int}{n:Int}(h:jQ L n):L.Nodup:=pZ (jf.1 h).1
theorem vP {n:Int}{E:List (Int×Int)}{V L:List Int}{T:List (List Int)}(h:(kC n E V L T).2=0):
  iM n E V L=0/\mN n E L T/\(kC n E V L T).1=some (T.map iK,zF E L L.length,tf T T.length,mE L L.length):=by
 unfold kC at h ⊢;split at h
 .rename_i q;exact(q h).elim
 rename_i hp;rw[ah hp];split at h
 .cases h
 rename_i hlen;rw[ah hlen];split at h
 .cases h
 rename_i P hP;split at h
 .cases h
 rename_i ail;have vQ:iM n E V L=0:=by omega
 obtain⟨_,_,hL,_⟩:=jt vQ;have hLn:=Al hL;obtain⟨f1,f2,f3,f4⟩:=Ak (Nat.le_refl _) hP;rw[List.take_length] at f1 f3;have e1:P.length=T.flatten.length:=Jk f4 f1 λd=>(f3 d).symm;have e2:=Ew (E:=E) hLn;have wF:∀d∈T.flatten,d∈mE L L.length:=λd hd=>by
  obtain⟨u,hu,hdu⟩:=(sL (Nat.le_refl T.length)).1 (by rw[List.take_length];exact hd);have:=f2 u hu d hdu;rw[tg (Nat.le_refl _)] at this;split at this
  .rename_i q;exact q
  cases this
 have aim:=cover f1 wF (by omega);refine⟨vQ,⟨by omega,λv hv=>?_,λv hv d=>⟨λhd=>?_,λ⟨hd,ht⟩=>?_⟩⟩,by rw[ah ail]⟩
 .have hm:T.getD v []∈T:=iT.2 ⟨v,hv,rfl⟩;exact f1.sublist (List.sublist_flatten_of_mem hm)
 .have:=f2 v hv d hd;rw[tg (Nat.le_refl _)] at this;split at this
  .rename_i q;exact⟨(mC d).1 q,by injection this⟩
  cases this
 have hdf:=aim d ((mC d).2 hd);obtain⟨u,hu,hdu⟩:=(sL (Nat.le_refl T.length)).1 (by rw[List.take_length];exact hdf);have:=f2 u hu d hdu;rw[tg (Nat.le_refl _),ak ((mC d).2 hd),ht] at this;injection this with this
 have:u=v:=by omega
 subst this;exact hdu
theorem zm {n:Int}{E:List (Int×Int)}{V L:List Int}{T:List (List Int)}(hp:iM n E V L=0)(h:mN n E L T):(kC n E V L T).2=0:=by
 obtain⟨hr,_,hL,_⟩:=jt hp;have hLn:=Al hL;have Gk:∀u,u<T.length->∀d∈T.getD u [],iA (zF E L L.length) d=some (u:Int):=λu hu d hd=>by
  obtain⟨h1,h2⟩:=(h.mem u hu d).1 hd;rw[tg (Nat.le_refl _),ak ((mC d).2 h1),h2]
 obtain⟨P,hP⟩:=V2 h.nd Gk (Nat.le_refl T.length);obtain⟨f1,f2,f3,f4⟩:=Ak (Nat.le_refl _) hP;rw[List.take_length] at f1 f3;have hds:=yc hLn (Nat.le_refl L.length);have MY:∀d,jS L d->0<=iC E d/\(iC E d).toNat<T.length:=λd hd=>by
  obtain⟨e,he,q⟩:=zl.1 hd;obtain⟨r1,r2,r3,r4⟩:=jD hr;have hb:=(jf.1 hL).2 e he;have o6:=r4 e.toNat (by omega);unfold NY at o6;have hlen:=h.len;rcases q with rfl|rfl
  .have e0:iC E (2*e)=(E.getD e.toNat (0,0)).1:=by unfold iC;rw[ak (by omega),show 2*e/2=e by omega]
   rw[e0];omega
  have e0:iC E (2*e+1)=(E.getD e.toNat (0,0)).2:=by unfold iC;rw[ah (by omega),show(2*e+1)/2=e by omega]
  rw[e0];omega
 have e1:P.length=(mE L L.length).length:=Jk f4 hds λd=>by
  rw[f3];constructor
  .intro hd;have hd:=(mC d).1 hd;obtain⟨t0,t1⟩:=MY d hd;have:=(h.mem _ t1 d).2 ⟨hd,by omega⟩;have:=(sL (Nat.le_refl T.length)).2 ⟨_,t1,this⟩;rwa[List.take_length] at this
  intro hd;obtain⟨u,hu,hdu⟩:=(sL (Nat.le_refl T.length)).1 (by rw[List.take_length];exact hd);exact(mC d).2 ((h.mem u hu d).1 hdu).1
 have e2:=Ew (E:=E) hLn;rw[Ji hp h.len hP (by omega)]
abbrev S4:Type:=p9×(List Int×(List Int×Int))
def u7 (U:List Int):Nat:=(List.range U.length).countP λi:Nat=>decide (iS U (i:Int)=(i:Int))
structure Ey (s:S4):Prop where
 rep:zh s.1 s.2.1 s.2.2.1
 cnt:s.2.2.2=(u7 s.2.2.1:Int)
def Rl (s:S4)(x y:Int):Prop:=∃i j,iA s.1 x=some i/\iA s.1 y=some j/\iS s.2.2.1 i=iS s.2.2.1 j
def mA (s:S4)(x:Int):S4:=(kz s.1 s.2.1 x,kN s.1 s.2.1 x,kT s.1 s.2.1 s.2.2.1 x,r7 s.1 s.2.2.2 x)
def M4 (s:S4)(x y:Int):S4:=(jnM s.1 s.2.1 x y,jnL s.1 s.2.1 x y,Tv s.1 s.2.1 s.2.2.1 x y,R4 s.1 s.2.1 s.2.2.1 s.2.2.2 x y)
def jnT (s:S4)(x y:Int):Bool:=VG s.1 s.2.1 s.2.2.1 x y
def smB (s:S4)(x y:Int):Bool:=match iA s.1 x,iA s.1 y with
 |some i,some j=>decide (Cv s.2.2.1 i=Cv (qI s.2.2.1 i) j)
 |_,_=>false
section
variable {s:S4}{x y a b:Int}
theorem Z9 (U:List Int):u7 U<=U.length:=by
 unfold u7;have:=List.countP_le_length (p:=λi:Nat=>decide (iS U (i:Int)=(i:Int))) (l:=bH U.length);rwa[List.length_range] at this
theorem Ey.nil:Ey ([],[],[],0):=⟨zh.nil,rfl⟩
theorem Ey.bd (h:Ey s):0<=s.2.2.2/\s.2.2.2<=(s.2.1.length:Int):=by
 have:=Z9 s.2.2.1;have:=h.rep.len;have:=h.cnt;omega
theorem Rl.refl (h:(iA s.1 x).isSome=true):Rl s x x:=by
 obtain⟨i,hi⟩:=bG.1 h;exact⟨i,i,hi,hi,rfl⟩
theorem Rl.symm (h:Rl s a b):Rl s b a:=let⟨i,j,h1,h2,h3⟩:=h;⟨j,i,h2,h1,h3.symm⟩
theorem Rl.trans {c:Int}(h:Rl s a b)(k:Rl s b c):Rl s a c:=by
 have⟨i,j,h1,h2,h3⟩:=h;obtain⟨j',l,k1,k2,k3⟩:=k;rw[h2] at k1;cases k1;exact⟨i,l,h1,k2,h3.trans k3⟩
theorem Rl.left (h:Rl s a b):(iA s.1 a).isSome=true:=let⟨i,_,h1,_⟩:=h;by rw[h1];rfl
theorem Rl.right (h:Rl s a b):(iA s.1 b).isSome=true:=h.symm.left
theorem xx {p q:Nat->Bool}{l:List Nat}(h:∀x∈l,p x=q x):l.countP p=l.countP q:=by
 induction l with
 |nil=>rfl
 |cons x l ih=>
  rw[akI,akI,ih λz hz=>h z (aI _ hz),h x aE]
theorem vR {p q:Nat->Bool}{n m:Nat}(hm:m<n)(hp:p m=true)(hq:q m=false)(h:∀x,x<n->x≠m->p x=q x):(bH n).countP q+1=(bH n).countP p:=by
 induction n with
 |zero=>omega
 |succ n ih=>
  rw[ala,amz,amz]
  by_cases e:m=n
  .subst e;have:=xx (p:=p) (q:=q) (l:=bH m) λx hx=>h x (by have:=b5.1 hx;omega) (by have:=b5.1 hx;omega);rw[this];simp[akI,hp,hq]
  have:=ih (by omega) λx hx=>h x (by omega);have e2:[n].countP q=[n].countP p:=by rw[akI,akI,h n (by omega) (λz=>e z.symm)];rfl
  rw[e2];omega
theorem Ey.add (h:Ey s)(x:Int):Ey (mA s x)/\∀a b,Rl (mA s x) a b↔Rl s a b\/(a=x/\b=x):=by
 obtain⟨M,L,U,g⟩:=s;have⟨hr,hc⟩:=h;change zh M L U at hr;change g=(u7 U:Int) at hc;refine⟨⟨(hr.put x).1,?_⟩,λa b=>?_⟩
 .show r7 M g x=(u7 (kT M L U x):Int);unfold r7 kT;split
  .exact hc
  have hlen:=hr.len;obtain⟨a1,a2,a3⟩:=NV hr.ok;rw[hlen] at a1 a2 a3;have e:u7 (U++[(L.length:Int)])=u7 U+1:=by
   unfold u7;rw[aN,cz,ala,amz];have h1:=xx (p:=λi:Nat=>decide (iS (U++[(L.length:Int)]) (i:Int)=(i:Int))) (q:=λi:Nat=>decide (iS U (i:Int)=(i:Int))) (l:=bH U.length) λz hz=>by
    have hz:=b5.1 hz;rw[a2 z (by omega) (by omega)]
   rw[h1,hlen];have h2:[L.length].countP (λi:Nat=>decide (iS (U++[(L.length:Int)]) (i:Int)=(i:Int)))=1:=by
    rw[akI];simp[a3]
   rw[h2]
  rw[e];omega
 show(∃i j,iA (kz M L x) a=some i/\iA (kz M L x) b=some j/\iS (kT M L U x) i=iS (kT M L U x) j)↔(∃i j,iA M a=some i/\iA M b=some j/\iS U i=iS U j)\/_;cases hx:iA M x with
 |some k=>
  have e1:kz M L x=M:=by unfold kz;rw[hx];rfl
  have e3:kT M L U x=U:=by unfold kT;rw[hx];rfl
  rw[e1,e3];exact⟨.inl,λq=>q.elim id λ⟨q1,q2⟩=>by subst q1;subst q2;exact⟨k,k,hx,hx,rfl⟩⟩
 |none=>
  have e1:kz M L x=lD M x (L.length:Int):=by unfold kz;rw[hx];rfl
  have e3:kT M L U x=U++[(L.length:Int)]:=by unfold kT;rw[hx];rfl
  rw[e1,e3];have hlen:=hr.len;obtain⟨a1,a2,a3⟩:=NV hr.ok;rw[hlen] at a1 a2 a3;have key:∀z i,iA M z=some i->0<=i/\i<(L.length:Int)/\iS U i<=i:=λz i hz=>by
   obtain⟨q1,q2,_⟩:=hr.at_ z i hz;exact⟨q1,q2,(pK hr.ok q1 (by omega)).2.1⟩
  constructor
  .rintro⟨i,j,h1,h2,h3⟩;rw[jT] at h1 h2
   by_cases qa:x=a<;>by_cases qb:x=b
   .exact .inr ⟨qa.symm,qb.symm⟩
   .rw[ak qa] at h1;rw[ah qb] at h2;cases h1;obtain⟨k1,k2,k3⟩:=key b j h2;rw[a3,a2 j k1 k2] at h3;omega
   .rw[ah qa] at h1;rw[ak qb] at h2;cases h2;obtain⟨k1,k2,k3⟩:=key a i h1;rw[a3,a2 i k1 k2] at h3;omega
   rw[ah qa] at h1;rw[ah qb] at h2;obtain⟨k1,k2,_⟩:=key a i h1;obtain⟨l1,l2,_⟩:=key b j h2;rw[a2 i k1 k2,a2 j l1 l2] at h3;exact .inl ⟨i,j,h1,h2,h3⟩
  rintro(⟨i,j,h1,h2,h3⟩|⟨rfl,rfl⟩)
  .obtain⟨k1,k2,_⟩:=key a i h1;obtain⟨l1,l2,_⟩:=key b j h2;have qa:x≠a:=λe=>by rw[e,h1] at hx;cases hx
   have qb:x≠b:=λe=>by rw[e,h2] at hx;cases hx
   exact⟨i,j,by rw[jT,ah qa];exact h1,by rw[jT,ah qb];exact h2,by rw[a2 i k1 k2,a2 j l1 l2];exact h3⟩
  exact⟨_,_,by rw[jT,ak rfl],by rw[jT,ak rfl],rfl⟩
theorem Ey.up (h:Ey s){U':List Int}(h1:pJ U')(h2:U'.length=s.2.2.1.length)(h3:∀j,0<=j->j<(s.2.2.1.length:Int)->iS U' j=iS s.2.2.1 j):Ey (s.1,s.2.1,U',s.2.2.2)/\∀a b,Rl (s.1,s.2.1,U',s.2.2.2) a b↔Rl s a b:=by
 have hlen:=h.rep.len;refine⟨⟨⟨h1,h2.trans h.rep.len,h.rep.at_,h.rep.FM,h.rep.ex⟩,?_⟩,λa b=>?_⟩
 .show s.2.2.2=(u7 U':Int);rw[h.cnt]
  congr 1
  unfold u7;rw[h2];exact xx λz hz=>by
   have hz:=b5.1 hz;rw[h3 z (by omega) (by omega)]
 have key:∀z i,iA s.1 z=some i->iS U' i=iS s.2.2.1 i:=λz i hz=>by
  obtain⟨q1,q2,_⟩:=h.rep.at_ z i hz;exact h3 i q1 (by omega)
 constructor
 .rintro⟨i,j,k1,k2,k3⟩;have k3:iS U' i=iS U' j:=k3;exact⟨i,j,k1,k2,by rw[<-key a i k1,<-key b j k2];exact k3⟩
 rintro⟨i,j,k1,k2,k3⟩;exact⟨i,j,k1,k2,by show iS U' i=iS U' j;rw[key a i k1,key b j k2];exact k3⟩
theorem TV (h:Ey s){i j:Int}(hi:iA s.1 x=some i)(hj:iA s.1 y=some j):pJ (qI (qI s.2.2.1 i) j)/\(qI (qI s.2.2.1 i) j).length=s.2.2.1.length/\(∀k,0<=k->k<(s.2.2.1.length:Int)->iS (qI (qI s.2.2.1 i) j) k=iS s.2.2.1 k)/\Cv s.2.2.1 i=iS s.2.2.1 i/\Cv (qI s.2.2.1 i) j=iS s.2.2.1 j:=by
 have hlen:=h.rep.len;obtain⟨i0,i1,_⟩:=h.rep.at_ x i hi;obtain⟨j0,j1,_⟩:=h.rep.at_ y j hj;obtain⟨a1,a2,a3,a4⟩:=Eg (i.toNat+1) s.2.2.1 i h.rep.ok i0 (by omega) (cX _);have a3:(qI s.2.2.1 i).length=s.2.2.1.length:=a3;have a2:pJ (qI s.2.2.1 i):=a2;have a4:∀k,0<=k->k<(s.2.2.1.length:Int)->iS (qI s.2.2.1 i) k=iS s.2.2.1 k:=a4;obtain⟨b1,b2,b3,b4⟩:=Eg (j.toNat+1) (qI s.2.2.1 i) j a2 j0 (by omega) (cX _);have b1:Cv (qI s.2.2.1 i) j=iS (qI s.2.2.1 i) j:=b1;exact⟨b2,b3.trans a3,λk k0 k1=>(b4 k k0 (by omega)).trans (a4 k k0 k1),a1,by rw[b1,a4 j j0 (by omega)]⟩
theorem aaa {M:p9}{L U:List Int}(h:zh M L U){z i:Int}(hz:iA M z=some i)(x:Int):iA (kz M L x) z=some i:=by
 unfold kz;split
 .exact hz
 rename_i q;rw[jT,ah]
 .exact hz
 intro e;rw[e,hz] at q;exact q rfl
theorem Ey.jn (h:Ey s)(x y:Int):Ey (M4 s x y)/\(jnT s x y=true↔¬(Rl s x y\/x=y))/\∀a b,Rl (M4 s x y) a b↔(Rl (mA (mA s x) y) a b\/(Rl (mA (mA s x) y) a x/\Rl (mA (mA s x) y) y b)\/(Rl (mA (mA s x) y) a y/\Rl (mA (mA s x) y) x b)):=by
 obtain⟨h1,r1⟩:=h.add x;obtain⟨h2,r2⟩:=h1.add y;obtain⟨_,p0,p1,px⟩:=h.rep.put x;obtain⟨_,p2,p3,py⟩:=h1.rep.put y;have px:iA (mA (mA s x) y).1 x=some (lS s.1 s.2.1 x):=aaa h1.rep px y;have py:iA (mA (mA s x) y).1 y=some (lS (mA s x).1 (mA s x).2.1 y):=py;obtain⟨a1,a2,a3,a4,a5⟩:=TV h2 px py;have O3:zf s.1 s.2.1 s.2.2.1 x y=iS (mA (mA s x) y).2.2.1 (lS s.1 s.2.1 x):=a4;have hrj:zg s.1 s.2.1 s.2.2.1 x y=iS (mA (mA s x) y).2.2.1 (lS (mA s x).1 (mA s x).2.1 y):=a5;have hT:Rl (mA (mA s x) y) x y↔zf s.1 s.2.1 s.2.2.1 x y=zg s.1 s.2.1 s.2.2.1 x y:=by
  rw[O3,hrj];constructor
  .rintro⟨i,j,k1,k2,k3⟩;rw[px] at k1;rw[py] at k2;cases k1;cases k2;exact k3
  exact λq=>⟨_,_,px,py,q⟩
 have hT2:Rl (mA (mA s x) y) x y↔Rl s x y\/x=y:=by
  rw[r2,r1];constructor
  .rintro((q|q)|q)
   .exact .inl q
   .exact .inr q.2.symm
   exact .inr q.1
  rintro(q|q)
  .exact .inl (.inl q)
  exact .inl (.inr ⟨rfl,q.symm⟩)
 have hS:∀U',Tv s.1 s.2.1 s.2.2.1 x y=U'->M4 s x y=((mA (mA s x) y).1,(mA (mA s x) y).2.1,U',R4 s.1 s.2.1 s.2.2.1 s.2.2.2 x y):=λU' e=>by rw[<-e];rfl
 have hU2:VF s.1 s.2.1 s.2.2.1 x y=qI (qI (mA (mA s x) y).2.2.1 (lS s.1 s.2.1 x)) (lS (mA s x).1 (mA s x).2.1 y):=rfl;have hb:jnT s x y=true↔¬zf s.1 s.2.1 s.2.2.1 x y=zg s.1 s.2.1 s.2.2.1 x y:=by
  unfold jnT VG;split
  .rename_i q;exact⟨(λz=>by cases z),λz=>(z q).elim⟩
  rename_i q;exact⟨λ_=>q,λ_=>rfl⟩
 rw[hb,<-hT,hT2];generalize TA:mA (mA s x) y=s2 at*
 have ajp:=h2.rep.len;obtain⟨i0,i1,_⟩:=h2.rep.at_ _ _ px;obtain⟨j0,j1,_⟩:=h2.rep.at_ _ _ py
 by_cases q:zf s.1 s.2.1 s.2.2.1 x y=zg s.1 s.2.1 s.2.2.1 x y
 .have eU:Tv s.1 s.2.1 s.2.2.1 x y=VF s.1 s.2.1 s.2.2.1 x y:=ak q;have eG:R4 s.1 s.2.1 s.2.2.1 s.2.2.2 x y=s2.2.2.2:=by
   unfold R4;rw[ak q,<-TA];rfl
  rw[hS _ (eU.trans hU2),eG];obtain⟨b1,b2⟩:=h2.up a1 a2 a3;refine⟨b1,Iff.rfl,λa b=>?_⟩;rw[b2];have Tq:=hT.2 q;exact⟨.inl,λz=>z.elim id λz=>z.elim (λ⟨z1,z2⟩=>z1.trans (Tq.trans z2)) λ⟨z1,z2⟩=>z1.trans (Tq.symm.trans z2)⟩
 obtain⟨b1,b2⟩:=h2.up a1 a2 a3;generalize hv:qI (qI s2.2.2.1 (lS s.1 s.2.1 x)) (lS (mA s x).1 (mA s x).2.1 y)=V at*
 have eU:Tv s.1 s.2.1 s.2.2.1 x y=V.set (max (zf s.1 s.2.1 s.2.2.1 x y) (zg s.1 s.2.1 s.2.2.1 x y)).toNat (min (zf s.1 s.2.1 s.2.2.1 x y) (zg s.1 s.2.1 s.2.2.1 x y)):=by
  have:Tv s.1 s.2.1 s.2.2.1 x y=(VF s.1 s.2.1 s.2.2.1 x y).set (max (zf s.1 s.2.1 s.2.2.1 x y) (zg s.1 s.2.1 s.2.2.1 x y)).toNat (min (zf s.1 s.2.1 s.2.2.1 x y) (zg s.1 s.2.1 s.2.2.1 x y)):=ah q;rw[this,hU2]
 have eG:R4 s.1 s.2.1 s.2.2.1 s.2.2.2 x y=s2.2.2.2-1:=by
  unfold R4;rw[ah q,<-TA];rfl
 rw[hS _ eU,eG,O3,hrj];rw[O3,hrj] at q;generalize hpi:lS s.1 s.2.1 x=pi at*
 generalize hpj:lS (mA s x).1 (mA s x).2.1 y=pj at*
 obtain⟨u1,u2,u3⟩:=pK h2.rep.ok i0 (show pi<(s2.2.2.1.length:Int) by omega);obtain⟨v1,v2,v3⟩:=pK h2.rep.ok j0 (show pj<(s2.2.2.1.length:Int) by omega);have V3:=vL h2.rep.ok i0 (show pi<(s2.2.2.1.length:Int) by omega);have V4:=vL h2.rep.ok j0 (show pj<(s2.2.2.1.length:Int) by omega);generalize hr:iS s2.2.2.1 pi=r at*
 generalize ht:iS s2.2.2.1 pj=t at*
 have hrV:V.getD r.toNat 0=r:=by
  have e:=a3 r u1 (by omega);have:=(pK a1 u1 (show r<(V.length:Int) by omega)).2.2;rw[e,V3] at this;exact this
 have htV:V.getD t.toNat 0=t:=by
  have e:=a3 t v1 (by omega);have:=(pK a1 v1 (show t<(V.length:Int) by omega)).2.2;rw[e,V4] at this;exact this
 obtain⟨c1,c2⟩:=ZU a1 u1 v1 (by omega) (by omega) hrV htV q;generalize hW:V.set (max r t).toNat (min r t)=Wn at*
 have LF:Wn.length=s2.2.2.1.length:=by rw[<-hW,bR];exact a2
 have c3:∀k,0<=k->k<(s2.2.2.1.length:Int)->iS Wn k=if iS s2.2.2.1 k=max r t then min r t else iS s2.2.2.1 k:=λk k0 k1=>by rw[c2 k k0 (by omega),a3 k k0 k1]
 have hmx:0<=max r t/\max r t<(s2.2.2.1.length:Int)/\iS s2.2.2.1 (max r t)=max r t/\max r t≠min r t/\iS s2.2.2.1 (min r t)=min r t:=by
  rcases ak8 r t with z|z
  .rw[alB z,alD z];exact⟨v1,by omega,V4,λe=>q e.symm,V3⟩
  rw[alC z,alE z];exact⟨u1,by omega,V3,q,V4⟩
 have⟨m1,m2,m3,m4,m5⟩:=hmx;refine⟨⟨⟨c1,LF.trans h2.rep.len,h2.rep.at_,h2.rep.FM,h2.rep.ex⟩,?_⟩,Iff.rfl,λa b=>?_⟩
 .show s2.2.2.2-1=(u7 Wn:Int);have ain:u7 Wn+1=u7 s2.2.2.1:=by
   unfold u7;rw[LF];refine vR (m:=(max r t).toNat) (by omega) ?_ ?_ λk hk mc=>?_
   .rw[decide_eq_true_iff,cC m1];exact m3
   .rw[decide_eq_false_iff_not,cC m1,c3 _ m1 m2,ak m3];exact λe=>m4 e.symm
   rw[decide_eq_decide,c3 k (by omega) (by omega)]
   by_cases z:iS s2.2.2.1 (k:Int)=max r t
   .rw[ak z,z];constructor
    .intro e;omega
    intro e;have:iS s2.2.2.1 (k:Int)=min r t:=by rw[<-e];exact m5
    omega
   rw[ah z]
  have:=h2.cnt;omega
 have key:∀z i,iA s2.1 z=some i->0<=i/\i<(s2.2.2.1.length:Int):=λz i hz=>by
  obtain⟨q1,q2,_⟩:=h2.rep.at_ z i hz;exact⟨q1,by omega⟩
 constructor
 .rintro⟨i,j,k1,k2,k3⟩;have k3:iS Wn i=iS Wn j:=k3;obtain⟨e0,e1⟩:=key a i k1;obtain⟨f0,f1⟩:=key b j k2;rw[c3 i e0 e1,c3 j f0 f1] at k3;have Dw:(max r t=r/\min r t=t)\/(max r t=t/\min r t=r):=by
   rcases ak8 r t with z|z
   .exact .inr ⟨alB z,alD z⟩
   exact .inl ⟨alC z,alE z⟩
  have CG:∀z i,iA s2.1 z=some i->iS s2.2.2.1 i=r->Rl s2 z x:=λz i hz e=>⟨i,pi,hz,px,by rw[e,hr]⟩;have RP:∀z i,iA s2.1 z=some i->iS s2.2.2.1 i=t->Rl s2 z y:=λz i hz e=>⟨i,pj,hz,py,by rw[e,ht]⟩;split at k3<;>split at k3
  .rename_i z1 z2;exact .inl ⟨i,j,k1,k2,z1.trans z2.symm⟩
  .rename_i z1 z2;rcases Dw with⟨n1,n2⟩|⟨n1,n2⟩
   .exact .inr (.inl ⟨CG a i k1 (z1.trans n1),(RP b j k2 (k3.symm.trans n2)).symm⟩)
   exact .inr (.inr ⟨RP a i k1 (z1.trans n1),(CG b j k2 (k3.symm.trans n2)).symm⟩)
  .rename_i z1 z2;rcases Dw with⟨n1,n2⟩|⟨n1,n2⟩
   .exact .inr (.inr ⟨RP a i k1 (k3.trans n2),(CG b j k2 (z2.trans n1)).symm⟩)
   exact .inr (.inl ⟨CG a i k1 (k3.trans n2),(RP b j k2 (z2.trans n1)).symm⟩)
  exact .inl ⟨i,j,k1,k2,k3⟩
 have ajq:∀z i,iA s2.1 z=some i->iA (s2.1,s2.2.1,Wn,s2.2.2.2-1).1 z=some i:=λz i hz=>hz;have eqx:∀z,Rl s2 z x->∃i,iA s2.1 z=some i/\iS s2.2.2.1 i=r:=λz ⟨i,j,k1,k2,k3⟩=>by
  rw[px] at k2;cases k2;exact⟨i,k1,by rw[k3,hr]⟩
 have eqy:∀z,Rl s2 z y->∃i,iA s2.1 z=some i/\iS s2.2.2.1 i=t:=λz ⟨i,j,k1,k2,k3⟩=>by
  rw[py] at k2;cases k2;exact⟨i,k1,by rw[k3,ht]⟩
 have both:∀e,(e=r\/e=t)->(if e=max r t then min r t else e)=min r t:=λe he=>by
  rcases ak8 r t with z|z
  .rw[alB z,alD z];rcases he with rfl|rfl
   .split<;>rfl
   rw[ak rfl]
  rw[alC z,alE z];rcases he with rfl|rfl
  .rw[ak rfl]
  split<;>rfl
 rintro(⟨i,j,k1,k2,k3⟩|⟨z1,z2⟩|⟨z1,z2⟩)
 .obtain⟨e0,e1⟩:=key a i k1;obtain⟨f0,f1⟩:=key b j k2;exact⟨i,j,k1,k2,by show iS Wn i=iS Wn j;rw[c3 i e0 e1,c3 j f0 f1,k3]⟩
 .obtain⟨i,k1,k2⟩:=eqx a z1;obtain⟨j,l1,l2⟩:=eqy b z2.symm;obtain⟨e0,e1⟩:=key a i k1;obtain⟨f0,f1⟩:=key b j l1;exact⟨i,j,k1,l1,by show iS Wn i=iS Wn j;rw[c3 i e0 e1,c3 j f0 f1,both _ (.inl k2),both _ (.inr l2)]⟩
 obtain⟨i,k1,k2⟩:=eqy a z1;obtain⟨j,l1,l2⟩:=eqx b z2.symm;obtain⟨e0,e1⟩:=key a i k1;obtain⟨f0,f1⟩:=key b j l1;exact⟨i,j,k1,l1,by show iS Wn i=iS Wn j;rw[c3 i e0 e1,c3 j f0 f1,both _ (.inr k2),both _ (.inl l2)]⟩
theorem Ey.one (h:Ey s):s.2.2.2<=1↔∀a b,(iA s.1 a).isSome=true->(iA s.1 b).isSome=true->Rl s a b:=by
 have⟨hr,hc⟩:=h;have hlen:=hr.len;constructor
 .intro h1 a b ha hb;obtain⟨i,hi⟩:=bG.1 ha;obtain⟨j,hj⟩:=bG.1 hb;obtain⟨i0,i1,_⟩:=hr.at_ a i hi;obtain⟨j0,j1,_⟩:=hr.at_ b j hj;refine⟨i,j,hi,hj,bL λq=>?_⟩;obtain⟨u1,u2,_⟩:=pK hr.ok i0 (by omega);obtain⟨v1,v2,_⟩:=pK hr.ok j0 (by omega);have ui:=vL hr.ok i0 (by omega);have vi:=vL hr.ok j0 (by omega);have Ig:2<=u7 s.2.2.1:=by
   unfold u7;have e1:=vR (n:=s.2.2.1.length) (p:=λi:Nat=>decide (iS s.2.2.1 (i:Int)=(i:Int))) (q:=λk:Nat=>decide (iS s.2.2.1 (k:Int)=(k:Int)) && !decide (k=(iS s.2.2.1 i).toNat)) (m:=(iS s.2.2.1 i).toNat) (by omega) (by rw[decide_eq_true_iff,cC u1];exact ui) (by simp) λk hk mc=>by simp[mc]
   have e2:=vR (n:=s.2.2.1.length) (p:=λk:Nat=>decide (iS s.2.2.1 (k:Int)=(k:Int)) && !decide (k=(iS s.2.2.1 i).toNat)) (q:=λk:Nat=>(decide (iS s.2.2.1 (k:Int)=(k:Int)) && !decide (k=(iS s.2.2.1 i).toNat)) && !decide (k=(iS s.2.2.1 j).toNat)) (m:=(iS s.2.2.1 j).toNat) (by omega) (by
    rw[cC v1,bB vi];simp only[Bool.true_and,ak0,decide_eq_false_iff_not];omega) (by simp) λk hk mc=>by simp[mc]
   omega
  omega
 intro h1;refine bL λq=>?_;have Ig:2<=u7 s.2.2.1:=by omega
 have hex:∃i,i<s.2.2.1.length/\iS s.2.2.1 (i:Int)=(i:Int):=by
  refine bL λz=>?_;have:u7 s.2.2.1=0:=by
   unfold u7;rw[anI];intro k hk e;exact z ⟨k,b5.1 hk,aA e⟩
  omega
 have⟨i,hi,ei⟩:=hex;have aio:∃j,j<s.2.2.1.length/\iS s.2.2.1 (j:Int)=(j:Int)/\j≠i:=by
  refine bL λz=>?_;have e1:=vR (n:=s.2.2.1.length) (p:=λi:Nat=>decide (iS s.2.2.1 (i:Int)=(i:Int))) (q:=λ_=>false) (m:=i) hi (bB ei) rfl λk hk mc=>bQ λe=>z ⟨k,hk,e,mc⟩;have e2:(bH s.2.2.1.length).countP (λ_=>false)=0:=by rw[anI];intro k _ e;cases e
  unfold u7 at Ig;omega
 have⟨j,hj,ej,mc⟩:=aio;have ai:=hr.ex i (by omega);have aj:=hr.ex j (by omega);obtain⟨i',j',k1,k2,k3⟩:=h1 _ _ (by rw[ai];rfl) (by rw[aj];rfl);rw[ai] at k1;rw[aj] at k2;cases k1;cases k2;rw[ei,ej] at k3;omega
end
open Go.RowKit
section
variable {E:List (Int×Int)}{M:List (Int×List Int)}{a shut v d:Int}{k f:Nat}{m:List (Int×Int)}{q:List Int}{n:Int}
theorem Sg (h:N8 E a v k m q)(hd:jJ E d∈univ E a):N8 E a v k (mz E v shut (m,q) d).1 (mz E v shut (m,q) d).2:=by
 by_cases hn:(iA m (jJ E d)).isSome=true\/jJ E d=shut
 .have e:mz E v shut (m,q) d=(m,q):=by unfold mz;rw[ak hn]
  rw[e];exact h
 have e:mz E v shut (m,q) d=(lD m (jJ E d) ((iA m v).getD 0+1),q++[jJ E d]):=by unfold mz;rw[ah hn]
 rw[e];exact h.agz hd hn
theorem He:∀ {l:List Int} {m:List (Int×Int)} {q:List Int},N8 E a v k m q->(∀d∈l,jJ E d∈univ E a)->N8 E a v k (l.foldl (mz E v shut) (m,q)).1 (l.foldl (mz E v shut) (m,q)).2
 |[],m,q,h,_=>h
 |d::l,m,q,h,hd=>by
  rw[dm];exact He (Sg h (hd d aE)) λx hx=>hd x (aI _ hx)
theorem N9 {s:List (Int×Int)×List Int}{x:Int}(h:(iA s.1 x).isSome=true):(iA (mz E v shut s d).1 x).isSome=true:=by
 unfold mz;split
 .exact h
 show(iA (lD s.1 _ _) x).isSome=true;rw[jT];split
 .rfl
 exact h
theorem xy:∀ {l:List Int} {s:List (Int×Int)×List Int} {x:Int},(iA s.1 x).isSome=true->(iA (l.foldl (mz E v shut) s).1 x).isSome=true
 |[],_,_,h=>h
 |d::l,s,x,h=>by rw[dm];exact xy (N9 h)
theorem Cb:∀ {l:List Int} {s:List (Int×Int)×List Int},∀d∈l,jJ E d≠shut->(iA (l.foldl (mz E v shut) s).1 (jJ E d)).isSome=true
 |e::l,s,d,hd,hs=>by
  rw[dm];rcases aD.1 hd with rfl|hd
  .refine xy ?_;unfold mz;split
   .rename_i h;exact h.resolve_right hs
   show(iA (lD s.1 _ _) _).isSome=true;rw[jT,ak rfl];rfl
  exact Cb d hd hs
theorem Am:∀ {l:List Int} {s:List (Int×Int)×List Int} {x:Int},(iA (l.foldl (mz E v shut) s).1 x).isSome=true->(iA s.1 x).isSome=true\/x∈(l.foldl (mz E v shut) s).2
 |[],_,_,h=>.inl h
 |d::l,s,x,h=>by
  rw[dm] at h ⊢;rcases Am h with h1|h1
  .unfold mz at h1;split at h1
   .exact .inl h1
   rename_i hn;have h1:(iA (lD s.1 (jJ E d) _) x).isSome=true:=h1;rw[jT] at h1;split at h1
   .rename_i e;refine .inr ?_;have mono:∀ {l:List Int} {s:List (Int×Int)×List Int} {y:Int},y∈s.2->y∈(l.foldl (mz E v shut) s).2:=by
     intro l
     induction l with
     |nil=>intro s y h;exact h
     |cons e l ih=>
      intro s y h;rw[dm];refine ih ?_;unfold mz;split
      .exact h
      exact aQ _ h
    refine mono ?_;unfold mz;rw[ah hn];exact bq _ (by rw[e];exact av.2 rfl)
   exact .inl h1
  exact .inr h1
theorem Cc:∀ {l:List Int} {s:List (Int×Int)×List Int} {y:Int},y∈s.2->y∈(l.foldl (mz E v shut) s).2
 |[],_,_,h=>h
 |d::l,s,y,h=>by
  rw[dm];refine Cc ?_;unfold mz;split
  .exact h
  exact aQ _ h
theorem V5 (hD:∀v,∀d∈(iA M v).getD [],jJ E d∈univ E a):∀(f:Nat) (k:Nat) (v:Int) (m:List (Int×Int)) (q:List Int),N8 E a v k m q->(∀p∈m,p.2<=(k:Int))->f+k=2*E.length+2->
  (∀x,(iA m x).isSome=true->x=v\/x∈q\/∀d∈(iA M x).getD [],jJ E d≠shut->(iA m (jJ E d)).isSome=true)->
  Sb (univ E a) (Bi E M shut f v (m,q),[])/\(∀x,(iA m x).isSome=true->(iA (Bi E M shut f v (m,q)) x).isSome=true)/\
   ∀x,(iA (Bi E M shut f v (m,q)) x).isSome=true->∀d∈(iA M x).getD [],jJ E d≠shut->(iA (Bi E M shut f v (m,q)) (jJ E d)).isSome=true
 |0,k,v,m,q,h,_,hf,_=>by have:=h.bd;omega
 |f+1,k,v,m,q,h,yU,hf,hc=>by
  have h1:N8 E a v k (ni E M v shut (m,q)).1 (ni E M v shut (m,q)).2:=He h (hD v);have V6:∀x,(iA m x).isSome=true->(iA (ni E M v shut (m,q)).1 x).isSome=true:=λx hx=>xy (s:=(m,q)) hx;have agB:∀x,(iA (ni E M v shut (m,q)).1 x).isSome=true->x∈(ni E M v shut (m,q)).2\/∀d∈(iA M x).getD [],jJ E d≠shut->(iA (ni E M v shut (m,q)).1 (jJ E d)).isSome=true:=λx hx=>by
   rcases Am (s:=(m,q)) hx with h2|h2
   .rcases hc x h2 with rfl|h3|h3
    .exact .inr λd hd hs=>Cb d hd hs
    .exact .inl (Cc (s:=(m,q)) h3)
    exact .inr λd hd hs=>V6 _ (h3 d hd hs)
   exact .inl h2
  have kg:Bi E M shut (f+1) v (m,q)=(match(ni E M v shut (m,q)).2 with
   |[]=>(ni E M v shut (m,q)).1
   |x::t=>Bi E M shut f x ((ni E M v shut (m,q)).1,t)):=rfl
  rw[kg];generalize hs:ni E M v shut (m,q)=s at*
  obtain⟨m',q'⟩:=s;cases q' with
  |nil=>
   refine⟨⟨h1.s.nd,h1.s.sub⟩,V6,λx hx d hd hs=>?_⟩;rcases agB x hx with h2|h2
   .cases h2
   exact h2 d hd hs
  |cons x t=>
   have hM:N8 E a x (k+1) m' t:=by
    refine⟨⟨h1.s.nd,h1.s.sub⟩,h1.qU x aE,λy hy=>h1.qU y (aI _ hy),?_,λp hp=>?_,h1.qM x aE,λy hy=>h1.qM y (aI _ hy),?_⟩
    .have:=h1.n;simp only[bf] at this;omega
    .have:=h1.b p hp;exact⟨this.1,by omega⟩
    exact vN (P:=λy=>0<=y/\y<=((k+1:Nat):Int)) ⟨by omega,by omega⟩ (λp hp=>by have:=h1.b p hp;exact⟨this.1,by omega⟩) x
   obtain⟨r1,r2,r3⟩:=V5 hD f (k+1) x m' t hM (λp hp=>by have:=h1.b p hp;omega) (by omega) (λy hy=>by
    rcases agB y hy with h2|h2
    .rcases aD.1 h2 with rfl|h2
     .exact .inl rfl
     exact .inr (.inl h2)
    exact .inr (.inr h2))
   exact⟨r1,λy hy=>r2 y (V6 y hy),r3⟩
theorem LG (hD:∀v,∀d∈(iA M v).getD [],jJ E d∈univ E a):(l5 E M a shut).length<=2*E.length+1/\(∀p∈l5 E M a shut,p.1∈univ E a)/\(iA (l5 E M a shut) a).isSome=true/\
  ∀x,(iA (l5 E M a shut) x).isSome=true->∀d∈(iA M x).getD [],jJ E d≠shut->(iA (l5 E M a shut) (jJ E d)).isSome=true:=by
 obtain⟨h1,h2,_⟩:=(Jf.init E M a shut).go rfl;obtain⟨r1,r2,r3⟩:=V5 (shut:=shut) hD (2*E.length+2) 0 a [(a,0)] [] h1 (λp hp=>by have:=h2 p hp;simpa using this) (by omega) (λx hx=>by
  left;cases hl:iA [(a,(0:Int))] x with
  |none=>rw[hl] at hx;cases hx
  |some z=>have:=av.1 (xO hl);cases this;rfl)
 have hlen:=r1.len;rw[Lt] at hlen;exact⟨hlen,r1.sub,r2 a (by rw[PU];rfl),r3⟩
theorem Ez {V L:List Int}(hp:iM n E V L=0):DOk E (jX E L):=λv d hd=>by
 rw[ya] at hd;obtain⟨h1,h2⟩:=nh.1 hd;have:=(jf.1 (jt hp).2.2.1).2 _ h1;constructor
 .omega
 exact this.2
theorem LH (hr:jm n E=0)(hD:DOk E M)(a:Int):∀v,∀d∈(iA M v).getD [],jJ E d∈univ E a:=λv d hd=>by
 obtain⟨h1,h2⟩:=hD v d hd;exact aI _ (Ls hr h1 h2).2.2
theorem Sh {V L:List Int}(hp:iM n E V L=0){x:Int}(h:(Lp E L).p8 (· ≠-1) a x):(iA (l5 E (jX E L) a (-1)) x).isSome=true:=by
 have hr:=(jt hp).1;obtain⟨_,_,h1,h2⟩:=LG (shut:= -1) (LH hr (Ez hp) a);have hdk:=Lq (E:=E) (jt hp).2.2.1;refine h.closed (Q:=λx=>(iA (l5 E (jX E L) a (-1)) x).isSome=true) (λx y hx ha hy=>?_) h1;have⟨f,hf,hj⟩:=ha;obtain⟨d,hd,hdf⟩:=hdk.all f x hf hj.left;obtain⟨_,KY⟩:=hdk.mem x d hd;rw[hdf] at KY;have TK:d∈(iA (jX E L) x).getD []:=by rw[ya];exact hd
 by_cases e:jJ E d=y
 .subst e;exact h2 x hx d TK hy
 have h3:=KY.of (z:=y) hj.right;rcases h3 with rfl|h3
 .exact hx
 exact(e h3.symm).elim
end
def vS (pm m:List (Int×Int))(c:Int):List (Int×Int):=m.foldl (λp q=>lD p q.1 c) pm
open Classical in
theorem An {c:Int}:∀ {m pm:List (Int×Int)} {x:Int},iA (vS pm m c) x=if(iA m x).isSome=true then some c else iA pm x:=by
 have key:∀(m pm:List (Int×Int)) (x:Int),iA (vS pm m c) x=if ∃v,(x,v)∈m then some c else iA pm x:=by
  intro m
  induction m with
  |nil=>intro pm x;show iA pm x=_;rw[ah (by rintro⟨v,h⟩;cases h)]
  |cons p m ih=>
   intro pm x;show iA (vS (lD pm p.1 c) m c) x=_;rw[ih,jT]
   by_cases h1:∃v,(x,v)∈m
   .obtain⟨v,hv⟩:=h1;rw[ak ⟨v,hv⟩,ak ⟨v,aI _ hv⟩]
   rw[ah h1]
   by_cases h2:p.1=x
   .rw[ak h2,ak ⟨p.2,by rw[<-h2];exact aE⟩]
   rw[ah h2,ah];rintro⟨v,hv⟩;rcases aD.1 hv with e|hv
   .rw[<-e] at h2;exact h2 rfl
   exact h1 ⟨v,hv⟩
 intro m pm x;rw[key]
 by_cases h:∃v,(x,v)∈m
 .rw[ak h,ak];cases hl:iA m x with
  |none=>have⟨v,hv⟩:=h;exact(wS.1 hl v hv).elim
  |some z=>rfl
 rw[ah h,ah];intro q;obtain⟨z,hz⟩:=bG.1 q;exact h ⟨z,xO hz⟩
abbrev tI:=List (List Int×List Int)
def LI (out:tI)(i v:Int):tI:=out.set i.toNat ((out.getD i.toNat ([],[])).1++[v],(out.getD i.toNat ([],[])).2)
def V7 (out:tI)(i e:Int):tI:=out.set i.toNat ((out.getD i.toNat ([],[])).1,(out.getD i.toNat ([],[])).2++[e])
def nH (E:List (Int×Int))(M:List (Int×List Int))(s:List (Int×Int)×tI)(v:Int):List (Int×Int)×tI:=
 if(iA s.1 v).isSome=true then(s.1,LI s.2 ((iA s.1 v).getD 0) v)
 else(vS s.1 (l5 E M v (-1)) (s.2.length:Int),LI (s.2++[([],[])]) (s.2.length:Int) v)
def EA (E:List (Int×Int))(pm:List (Int×Int))(out:tI)(e:Int):tI:=V7 out ((iA pm (E.getD e.toNat (0,0)).1).getD 0) e
def vT (E:List (Int×Int))(V L:List Int):tI:=L.foldl (EA E (V.foldl (nH E (jX E L)) ([],[])).1) (V.foldl (nH E (jX E L)) ([],[])).2
structure ItI (R pm:List (Int×Int))(c:Int)(lf:Int->Bool)(cnt:Nat)(vq:List (Int×Int)):Prop where
 a:∀z,lf z=true->(iA R z).isSome=true
 b:∀z,iA vq z=if(iA R z).isSome=true/\lf z=false then some c else iA pm z
 n:vq.length+cnt<=pm.length+R.length
theorem ItI.start (R pm:List (Int×Int))(c:Int):ItI R pm c (λz=>(iA R z).isSome) R.length pm:=
 ⟨λz h=>h,λz=>by rw[ah (by rintro⟨h1,h2⟩;rw[h1] at h2;cases h2)],az _⟩
theorem ItI.step {R pm vq:List (Int×Int)}{c:Int}{lf:Int->Bool}{cnt rD:Nat}(h:ItI R pm c lf cnt vq){k v:Int}(hl:lf k=true)(hk:iA R k=some v)(hc:rD<cnt):
  ItI R pm c (λz=>lf z && !decide (z=k)) rD (lD vq k c):=by
 refine⟨λz hz=>?_,λz=>?_,?_⟩
 .rw[aR] at hz;exact h.a z hz.1
 .rw[jT,h.b]
  by_cases e:k=z
  .subst e;rw[ak rfl,ak ⟨by rw[hk];rfl,by simp⟩]
  rw[ah e];have mc:¬z=k:=λq=>e q.symm;have:(lf z && !decide (z=k))=lf z:=by simp[mc]
  rw[this]
 have:=h.n;have:=ny vq k c;omega
theorem ItI.fin {R pm vq:List (Int×Int)}{c:Int}{lf:Int->Bool}{cnt:Nat}(h:ItI R pm c lf cnt vq)(hl:∀z,lf z=false):(∀z,iA vq z=if(iA R z).isSome=true then some c else iA pm z)/\vq.length<=pm.length+R.length:=by
 refine⟨λz=>?_,by have:=h.n;omega⟩;rw[h.b]
 by_cases e:(iA R z).isSome=true
 .rw[ak ⟨e,hl z⟩,ak e]
 rw[ah (λq=>e q.1),ah e]
structure wJ (E:List (Int×Int))(V L:List Int)(i:Int)(pm:List (Int×Int))(out:tI):Prop where
 f:∃p',(V.take i.toNat).foldl (nH E (jX E L)) ([],[])=(p',out)/\∀x,iA pm x=iA p' x
 b:∀x c,iA pm x=some c->0<=c/\c<(out.length:Int)
 n:pm.length<=i.toNat*3000
 o:out.length<=i.toNat
 r:∀x∈out,x.1.length<=i.toNat/\x.2=[]
 d:∀j:Nat,(j:Int)<i->(iA pm (V.getD j 0)).isSome=true
theorem wJ.zero (E:List (Int×Int))(V L:List Int):wJ E V L 0 [] []:=⟨⟨[],rfl,λ_=>rfl⟩,(λx c h=>by cases h),bF _,bF _,(λx h=>by cases h),λj h=>by omega⟩
theorem Ao (out:tI)(i v:Int):(LI out i v).length=out.length:=bR
theorem V8 (out:tI)(i v:Int):(V7 out i v).length=out.length:=bR
theorem LJ {out:tI}{i v:Int}{k:Nat}(h:∀x∈out,x.1.length<=k/\x.2=[]):∀x∈LI out i v,x.1.length<=k+1/\x.2=[]:=λx hx=>by
 rcases amo hx with q|rfl
 .exact⟨alJ (h x q).1,(h x q).2⟩
 have:∀j,(out.getD j ([],[])).1.length<=k/\(out.getD j ([],[])).2=[]:=λj=>by
  rw[aJ];cases hj:out[j]? with
  |none=>exact⟨by simp,rfl⟩
  |some y=>exact h y (bJ hj)
 obtain⟨q1,q2⟩:=this i.toNat;exact⟨by show(_++[v]).length<=_;rw[aN];simp;exact q1,q2⟩
section
variable {E:List (Int×Int)}{V L:List Int}{i:Int}{pm vq:List (Int×Int)}{out:tI}
theorem wJ.met (h:wJ E V L i pm out)(h0:0<=i)(h1:i<(V.length:Int))(hm:(iA pm (V.getD i.toNat 0)).isSome=true):wJ E V L (i+1) pm (LI out ((iA pm (V.getD i.toNat 0)).getD 0) (V.getD i.toNat 0)):=by
 have⟨p',f1,f2⟩:=h.f;have hi:(i+1).toNat=i.toNat+1:=by omega
 refine⟨⟨p',?_,f2⟩,λx c hx=>by rw[Ao];exact h.b x c hx,bg h.n (Nat.mul_le_mul_right _ (by omega)),by rw[Ao];have:=h.o;omega,by rw[hi];exact LJ h.r,λj hj=>?_⟩
 .rw[td _ _ h0 h1,f1];unfold nH;simp only;rw[<-f2,ak hm]
 by_cases e:(j:Int)<i
 .exact h.d j e
 rw[show j=i.toNat by omega];exact hm
theorem wJ.new (h:wJ E V L i pm out)(h0:0<=i)(h1:i<(V.length:Int))(hm:(iA pm (V.getD i.toNat 0)).isSome=false)(hR:(iA (l5 E (jX E L) (V.getD i.toNat 0) (-1)) (V.getD i.toNat 0)).isSome=true)(hlen:(l5 E (jX E L) (V.getD i.toNat 0) (-1)).length<=3000)
  (hp:(∀z,iA vq z=if(iA (l5 E (jX E L) (V.getD i.toNat 0) (-1)) z).isSome=true then some (out.length:Int) else iA pm z)/\vq.length<=pm.length+(l5 E (jX E L) (V.getD i.toNat 0) (-1)).length):
  wJ E V L (i+1) vq (LI (out++[([],[])]) ((iA vq (V.getD i.toNat 0)).getD 0) (V.getD i.toNat 0))/\iA vq (V.getD i.toNat 0)=some (out.length:Int):=by
 have⟨p',f1,f2⟩:=h.f;have⟨p1,p2⟩:=hp;have hi:(i+1).toNat=i.toNat+1:=by omega
 have hv:iA vq (V.getD i.toNat 0)=some (out.length:Int):=by rw[p1,ak hR]
 refine⟨⟨⟨vS p' (l5 E (jX E L) (V.getD i.toNat 0) (-1)) (out.length:Int),?_,λx=>?_⟩,λx c hx=>?_,?_,?_,?_,λj hj=>?_⟩,hv⟩
 .rw[td _ _ h0 h1,f1,hv];unfold nH;simp only;rw[<-f2,ah (by rw[hm];decide)];rfl
 .rw[p1,An,f2]
 .rw[Ao,aN];rw[p1] at hx;split at hx
  .cases hx;simp only[cz];omega
  have:=h.b x c hx;simp only[cz];omega
 .have:=h.n;rw[hi,bT];omega
 .rw[Ao,aN];have:=h.o;simp only[cz];omega
 .rw[hi];refine LJ λx hx=>?_;rcases aK.1 hx with hx|hx
  .exact h.r x hx
  rw[av.1 hx];exact⟨by simp,rfl⟩
 rw[p1];split
 .rfl
 by_cases e:(j:Int)<i
 .exact h.d j e
 rename_i q;rw[show j=i.toNat by omega] at q;exact(q hR).elim
theorem wJ.at_ (h:wJ E V L i pm out)(h0:0<=i)(h1:i<=(V.length:Int)){x:Int}(hm:(iA pm x).isSome=true):(0<=(iA pm x).getD 0/\(iA pm x).getD 0<(out.length:Int))/\(out.getD ((iA pm x).getD 0).toNat ([],[])).1.length<=V.length:=by
 obtain⟨c,hc⟩:=bG.1 hm;rw[hc];refine⟨h.b x c hc,?_⟩;rw[aJ];cases hj:out[c.toNat]? with
 |none=>simp[hj]
 |some y=>
  have:=(h.r y (bJ hj)).1;simp[hj];omega
structure Oa (E:List (Int×Int))(V L:List Int)(j:Int)(m:Nat)(o2:tI):Prop where
 f:(L.take j.toNat).foldl (EA E (V.foldl (nH E (jX E L)) ([],[])).1) (V.foldl (nH E (jX E L)) ([],[])).2=o2
 n:o2.length=m
 r:∀x∈o2,x.2.length<=j.toNat
theorem wJ.fin (h:wJ E V L i pm out)(h1:¬i<(V.length:Int)):(∀x,iA pm x=iA (V.foldl (nH E (jX E L)) ([],[])).1 x)/\(V.foldl (nH E (jX E L)) ([],[])).2=out/\Oa E V L 0 out.length out:=by
 have⟨p',f1,f2⟩:=h.f;rw[cM (by omega)] at f1;refine⟨λx=>by rw[f1];exact f2 x,by rw[f1],by rw[f1];rfl,rfl,λx hx=>by rw[(h.r x hx).2];simp⟩
theorem Oa.step {j:Int}{m:Nat}{o2:tI}(h:Oa E V L j m o2)(hp:∀x,iA pm x=iA (V.foldl (nH E (jX E L)) ([],[])).1 x)(h0:0<=j)(h1:j<(L.length:Int)):
  Oa E V L (j+1) m (V7 o2 ((iA pm (E.getD (L.getD j.toNat 0).toNat (0,0)).1).getD 0) (L.getD j.toNat 0)):=by
 have hi:(j+1).toNat=j.toNat+1:=by omega
 refine⟨?_,by rw[V8];exact h.n,λx hx=>?_⟩
 .rw[td _ _ h0 h1,h.f,hp];rfl
 rw[hi];rcases amo hx with q|rfl
 .exact alJ (h.r x q)
 show(_++[_]).length<=_;rw[aN];have:∀k,(o2.getD k ([],[])).2.length<=j.toNat:=λk=>by
  rw[aJ];cases hk:o2[k]? with
  |none=>simp
  |some y=>exact h.r y (bJ hk)
 simp only[cz];exact amb (this _)
theorem Oa.at_ {j:Int}{m:Nat}{o2:tI}(h:Oa E V L j m o2)(k:Nat):(o2.getD k ([],[])).2.length<=j.toNat:=by
 rw[aJ];cases hk:o2[k]? with
 |none=>simp
 |some y=>exact h.r y (bJ hk)
theorem wJ.at2 {x:Int}(h:iA vq x=some (out.length:Int)):(0<=(iA vq x).getD 0/\(iA vq x).getD 0<((out++[([],[])]).length:Int))/\((out++[([],[])]).getD ((iA vq x).getD 0).toNat ([],[])).1.length<=0:=by
 rw[h];refine⟨by simp only[cK,aN,cz];omega,?_⟩;simp
theorem wJ.all (h:wJ E V L i pm out)(h1:¬i<(V.length:Int)){x:Int}(hx:x∈V):(iA pm x).isSome=true:=by
 obtain⟨j,hj,rfl⟩:=nG.1 hx;exact h.d j (by omega)
theorem Ob {n:Int}{o2:tI}(hp:iM n E V L=0)(e:L.foldl (EA E (V.foldl (nH E (jX E L)) ([],[])).1) (V.foldl (nH E (jX E L)) ([],[])).2=o2):((o2,(0:Int),()):tI×Int×Unit)=(if iM n E V L≠0 then[] else vT E V L,iM n E V L,()):=by
 rw[ah (λq=>q hp),hp,<-e];rfl
theorem Bj {n j:Int}(hp:iM n E V L=0)(h0:0<=j)(h1:j<(L.length:Int)):(E.getD (L.getD j.toNat 0).toNat (0,0)).1∈V/\(E.getD (L.getD j.toNat 0).toNat (0,0)).2∈V:=by
 obtain⟨hr,hV,hL,o6⟩:=jt hp;obtain⟨a,b⟩:=o6 j.toNat (by omega);rw[u6 hV] at a b;exact⟨aA a,aA b⟩
end
def Si (V l:List Int):List Int:=V.filter λv=>decide (v∈l)
def Sj (E:List (Int×Int))(L l:List Int):List Int:=L.filter λe=>decide ((E.getD e.toNat (0,0)).1∈l) && decide ((E.getD e.toNat (0,0)).2∈l)
theorem LK {p:Int->Bool}{l:List Int}{i:Int}(h0:0<=i)(h:i<(l.length:Int))(hp:p (l.getD i.toNat 0)=true):(l.take (i+1).toNat).filter p=(l.take i.toNat).filter p++[l.getD i.toNat 0]:=by
 rw[show(i+1).toNat=i.toNat+1 by omega,alG (by omega),alK];rw[aJ,aY (show i.toNat<l.length by omega)] at hp ⊢;simp only[cK] at hp ⊢;rw[anJ,ak hp];rfl
theorem PW {p:Int->Bool}{l:List Int}{i:Int}(h0:0<=i)(h:i<(l.length:Int))(hp:p (l.getD i.toNat 0)=false):(l.take (i+1).toNat).filter p=(l.take i.toNat).filter p:=by
 rw[show(i+1).toNat=i.toNat+1 by omega,alG (by omega),alK];rw[aJ,aY (show i.toNat<l.length by omega)] at hp;simp only[cK] at hp;rw[anJ,ah (by rw[hp];decide)];simp
theorem LL {p:Int->Bool}{l:List Int}{i:Nat}:((l.take i).filter p).length<=i:=bg (akW _ _) (by rw[aW];exact Nat.min_le_left _ _)
theorem Hf {l:List Int}{i:Int}(h0:0<=i)(h1:i<=(l.length:Int)):(uc l i).length=l.length:=by
 unfold uc;rw[aN,bu,aW];omega
theorem EB {l:List Int}{i:Int}(h0:0<=i)(h1:i<=(l.length:Int)){j:Nat}(hj:j<l.length):(uc l i).getD j 0=l.getD ((j+i.toNat)%l.length) 0:=by
 unfold uc;have hi:i.toNat<=l.length:=by omega
 rw[aJ,aJ,ami];rw[bu];split
 .rename_i q;rw[List.getElem?_drop,ak3 (by omega),Nat.add_comm]
 rename_i q;rw[bK,ak (by omega)];have e:(j+i.toNat)%l.length=j-(l.length-i.toNat):=by
  rw[show j+i.toNat=(j-(l.length-i.toNat))+l.length by omega,anK,ak3 (by omega)]
 rw[e]
def Cd (l:List Int)(x y:Int):Prop:=∃j,j<l.length/\l.getD j 0=x/\y=l.getD ((j+l.length-1)%l.length) 0
theorem Sk {l:List Int}{i:Int}(h0:0<=i)(h1:i<=(l.length:Int)){x y:Int}(h:Cd (uc l i) x y):Cd l x y:=by
 have⟨j,hj,e1,e2⟩:=h;rw[Hf h0 h1] at hj e2;have hl:0<l.length:=by omega
 have hm:(j+l.length-1)%l.length<l.length:=ajN _ hl;rw[EB h0 h1 hj] at e1;rw[EB h0 h1 hm] at e2;refine⟨(j+i.toNat)%l.length,ajN _ hl,e1,?_⟩;rw[e2]
 congr 1
 rw[anL,show(j+i.toNat)%l.length+l.length-1=(j+i.toNat)%l.length+(l.length-1) by omega,anL]
 congr 1
 omega
theorem V9 {l:List Int}(hn:l.Nodup){x y z:Int}(h:Cd l x y)(k:Cd l x z):y=z:=by
 obtain⟨i,hi,e1,rfl⟩:=h;obtain⟨j,hj,e2,rfl⟩:=k;rw[mJ hn hi hj (e1.trans e2.symm)]
theorem pred_inj {l:List Int}(hn:l.Nodup){x y z:Int}(h:Cd l x z)(k:Cd l y z):x=y:=by
 obtain⟨i,hi,rfl,e1⟩:=h;obtain⟨j,hj,rfl,e2⟩:=k;have hl:0<l.length:=by omega
 have:=mJ hn (ajN _ hl) (ajN _ hl) (e1.symm.trans e2);have e:i=j:=by
  have key:∀a,a<l.length->(a+l.length-1)%l.length=if a=0 then l.length-1 else a-1:=λa ha=>by
   split
   .rename_i q;subst q;rw[cG,ak3 (by omega)]
   rw[show a+l.length-1=(a-1)+l.length by omega,anK,ak3 (by omega)]
  rw[key i hi,key j hj] at this;split at this<;>split at this<;>omega
 rw[e]
theorem Wa {l:List Int}{x y:Int}(h:Cd l x y):y∈l:=by
 obtain⟨i,hi,_,rfl⟩:=h;exact iT.2 ⟨_,ajN _ (by omega),rfl⟩
theorem Hg {t:List Int}(hn:t.Nodup){P:List (Int×Int)}:∀ {k:Nat},k<=t.length->(∀j,j<k->iA (Aj P t k) (t.getD j 0)=some (j:Int))/\∀x,(∀j,j<k->t.getD j 0≠x)->iA (Aj P t k) x=iA P x
 |0,_=>⟨λj hj=>by omega,λx _=>rfl⟩
 |k+1,hk=>by
  obtain⟨h1,h2⟩:=Hg hn (P:=P) (k:=k) (by omega);refine⟨λj hj=>?_,λx hx=>?_⟩
  .show iA (lD (Aj P t k) (t.getD k 0) (k:Int)) _=_;rw[jT]
   by_cases q:j=k
   .rw[q,ak rfl]
   rw[ah λe=>q (mJ hn (by omega) (by omega) e.symm),h1 j (by omega)]
  show iA (lD (Aj P t k) (t.getD k 0) (k:Int)) _=_;rw[jT,ah (hx k (by omega)),h2 x λj hj=>hx j (by omega)]
theorem Oc (l:List Int):∃i:Int,0<=i/\i<=(l.length:Int)/\iK l=uc l i:=by
 have:=rL l l.length;exact⟨pS l l.length,this.1,by omega,rfl⟩
theorem Bk {l:List Int}{x:Int}:x∈iK l↔x∈l:=by
 constructor
 .exact vO
 intro h;unfold iK uc;rw[aK];rw[<-dB (pS l l.length).toNat l,aK] at h;exact h.symm
theorem LM {l:List Int}(h:l.Nodup):(iK l).Nodup:=by
 unfold iK uc;rw[<-dB (pS l l.length).toNat l] at h;exact(anD.nodup_iff).1 h
theorem Hh {T:List (List Int)}(hn:∀v,v<T.length->(T.getD v []).Nodup)(hd:∀u v,u<T.length->v<T.length->∀d,d∈T.getD u []->d∈T.getD v []->u=v):∀ {k:Nat},k<=T.length->∀v,v<k->∀j,j<(T.getD v []).length->iA (tf T k) ((iK (T.getD v [])).getD j 0)=some (j:Int)
 |0,_,v,hv,_,_=>by omega
 |k+1,hk,v,hv,j,hj=>by
  have hnk:=LM (hn k (by omega));obtain⟨h1,h2⟩:=Hg hnk (P:=tf T k) (az _);show iA (Aj (tf T k) (iK (T.getD k [])) (iK (T.getD k [])).length) _=_
  by_cases q:v=k
  .subst q;exact h1 j (by rw[kJ];exact hj)
  rw[h2 _ λi hi e=>?_]
  .exact Hh hn hd (k:=k) (by omega) v (by omega) j hj
  have m1:(iK (T.getD v [])).getD j 0∈T.getD v []:=Bk.1 (iT.2 ⟨j,by rw[kJ];exact hj,rfl⟩);have m2:(iK (T.getD k [])).getD i 0∈T.getD k []:=Bk.1 (iT.2 ⟨i,hi,rfl⟩);rw[e] at m2;exact q (hd v k (by omega) (by omega) _ m1 m2)
theorem PX (d:Int):jx (jx d)=d:=by unfold jx;split<;>split<;>omega
theorem Sl (d:Int):jx d/2=d/2:=by unfold jx;split<;>omega
theorem oI {L:List Int}{d:Int}:jS L (jx d)↔jS L d:=by unfold jS;rw[Sl]
theorem Od {n:Int}{E:List (Int×Int)}{L:List Int}{T:List (List Int)}(h:mN n E L T):∀u v,u<T.length->v<T.length->∀d,d∈T.getD u []->d∈T.getD v []->u=v:=λu v hu hv d h1 h2=>by
 have e1:=((h.mem u hu d).1 h1).2;have e2:=((h.mem v hv d).1 h2).2;omega
theorem vV {n:Int}{E:List (Int×Int)}{V L:List Int}{T:List (List Int)}(hp:iM n E V L=0)(h:mN n E L T){d:Int}(hd:jS L d):0<=iC E d/\(iC E d).toNat<T.length/\d∈T.getD (iC E d).toNat []:=by
 obtain⟨hr,_,hL,_⟩:=jt hp;obtain⟨r1,r2,r3,r4⟩:=jD hr;obtain⟨e,he,q⟩:=zl.1 hd;have hb:=(jf.1 hL).2 e he;have o6:=r4 e.toNat (by omega);unfold NY at o6;have hlen:=h.len;have key:0<=iC E d/\(iC E d).toNat<T.length:=by
  rcases q with rfl|rfl
  .have e0:iC E (2*e)=(E.getD e.toNat (0,0)).1:=by unfold iC;rw[ak (by omega),show 2*e/2=e by omega]
   rw[e0];omega
  have e0:iC E (2*e+1)=(E.getD e.toNat (0,0)).2:=by unfold iC;rw[ah (by omega),show(2*e+1)/2=e by omega]
  rw[e0];omega
 exact⟨key.1,key.2,(h.mem _ key.2 d).2 ⟨hd,by omega⟩⟩
def Wb (E:List (Int×Int))(L:List Int)(T:List (List Int)):Option xw:=some (T.map iK,zF E L L.length,tf T T.length,mE L L.length)
def EC (E:List (Int×Int))(L:List Int)(T:List (List Int))(d:Int):Int:=(lz (Wb E L T) (jx d) (-1)).1
theorem Ap {α β:Type}{f:α->β}{l:List α}{k:Nat}(h:k<l.length)(z:α)(y:β):(l.map f).getD k y=f (l.getD k z):=by
 rw[aJ,b9,aJ,aY h];rfl
theorem Hi {n:Int}{E:List (Int×Int)}{V L:List Int}{T:List (List Int)}(hp:iM n E V L=0)(h:mN n E L T){t:Int}(ht:jS L t):
  ∃j:Nat,j<(T.getD (iC E t).toNat []).length/\iA (zF E L L.length) t=some (iC E t)/\iA (tf T T.length) t=some (j:Int)/\(iK (T.getD (iC E t).toNat [])).getD j 0=t:=by
 obtain⟨h0,h1,h2⟩:=vV hp h ht;obtain⟨j,hj,e⟩:=iT (z:=0).1 (Bk.2 h2);rw[kJ] at hj;refine⟨j,hj,?_,?_,e⟩
 .rw[tg (az _),ak ((mC t).2 ht)]
 have:=Hh h.nd (Od h) (az _) _ h1 j hj;rwa[e] at this
theorem yd {n:Int}{E:List (Int×Int)}{V L:List Int}{T:List (List Int)}(hp:iM n E V L=0)(h:mN n E L T){d:Int}(hd:jS L d):Cd (T.getD (iC E (jx d)).toNat []) (jx d) (EC E L T d):=by
 have ht:=oI.2 hd;obtain⟨h0,h1,h2⟩:=vV hp h ht;obtain⟨j,hj,e1,e2,e3⟩:=Hi hp h ht;obtain⟨i,i0,i1,ei⟩:=Oc (T.getD (iC E (jx d)).toNat []);refine Sk i0 i1 ?_;rw[<-ei];refine⟨j,by rw[kJ];exact hj,e3,?_⟩;have eT:(T.map iK).getD (iC E (jx d)).toNat []=iK (T.getD (iC E (jx d)).toNat []):=Ap h1 _ _;unfold EC lz Wb;simp only[e1,e2,eT,kJ,cK]
 congr 1
 have:((j:Int)+ -1+((T.getD (iC E (jx d)).toNat []).length:Int))=((j+(T.getD (iC E (jx d)).toNat []).length-1:Nat):Int):=by omega
 rw[this,<-Int.natCast_emod];rfl
theorem Aq {n:Int}{E:List (Int×Int)}{V L:List Int}{T:List (List Int)}(hp:iM n E V L=0)(h:mN n E L T)(hs:jc T){d:Int}(hd:jS L d):Et (Wb E L T) (jx d)/\0<=d/\d<=1000000:=by
 have ht:=oI.2 hd;obtain⟨h0,h1,h2⟩:=vV hp h ht;obtain⟨j,hj,e1,e2,e3⟩:=Hi hp h ht;obtain⟨hr,_,hL,_⟩:=jt hp;obtain⟨r1,r2,r3,r4⟩:=jD hr;obtain⟨e,he,q⟩:=zl.1 hd;have hb:=(jf.1 hL).2 e he;refine⟨λv hv=>?_,by omega,by omega⟩;have hv:iA (zF E L L.length) (jx d)=some v:=hv;rw[e1] at hv;injection hv with hv
 subst hv;have eT:(T.map iK).getD (iC E (jx d)).toNat []=iK (T.getD (iC E (jx d)).toNat []):=Ap h1 _ _;have hz:=hs.2 _ (iT (z:=[]).2 ⟨_,h1,rfl⟩);refine⟨h0,by rw[bp];omega,?_,?_,?_⟩
 .rw[eT,kJ];exact hz
 .show 0<=(iA (tf T T.length) (jx d)).getD 0;rw[e2];exact Int.natCast_nonneg _
 show(iA (tf T T.length) (jx d)).getD 0<_;rw[e2,eT,kJ];show(j:Int)<_;omega
theorem vb {n:Int}{E:List (Int×Int)}{V L:List Int}{T:List (List Int)}(hp:iM n E V L=0)(h:mN n E L T){d:Int}(hd:jS L d):jS L (EC E L T d)/\iC E (EC E L T d)=iC E (jx d):=by
 obtain⟨h0,h1,h2⟩:=vV hp h (oI.2 hd);have:=(h.mem _ h1 _).1 (Wa (yd hp h hd));exact⟨this.1,by omega⟩
theorem LN {n:Int}{E:List (Int×Int)}{V L:List Int}{T:List (List Int)}(hp:iM n E V L=0)(h:mN n E L T){d e:Int}(hd:jS L d)(he:jS L e)(q:EC E L T d=EC E L T e):d=e:=by
 have p1:=yd hp h hd;have p2:=yd hp h he;have t1:=(vb hp h hd).2;have t2:=(vb hp h he).2;rw[q] at t1 p1;rw[<-t1,t2] at p1;have:=pred_inj (h.nd _ (vV hp h (oI.2 he)).2.1) p1 p2;rw[<-PX d,this,PX]
def FR (V:List Int)(T:List (List Int)):Nat->List (Int×List Int)
 |0=>[]
 |k+1=>if(T.getD (V.getD (V.length-1-k) 0).toNat []).length=0 then FR V T k++[(-1-V.getD (V.length-1-k) 0,[])] else FR V T k
theorem vW (V:List Int)(T:List (List Int)):∀k,(FR V T k).length<=k
 |0=>az _
 |k+1=>by
  have:=vW V T k;unfold FR;split
  .rw[aN];simp;omega
  omega
def uy (r:Option xw):Nat->List (Int×Int)->Int->List Int->List (Int×Int)×List Int
 |0,m,_,acc=>(m,acc)
 |k+1,m,x,acc=>if(iA (DA m x) (lz r (jx x) (-1)).1).isSome=true then uy r k (DA m x) (lz r (jx x) (-1)).1 (acc++[x]) else(DA m x,acc++[x])
def uf (r:Option xw)(s:List (Int×Int)×List (Int×List Int))(d:Int):List (Int×Int)×List (Int×List Int):=
 if(iA s.1 d).isSome=true then((uy r s.1.length s.1 d []).1,s.2++[(d,(uy r s.1.length s.1 d []).2)]) else s
def Wc (ds:List Int):Nat->List (Int×Int)
 |0=>[]
 |k+1=>lD (Wc ds k) (ds.getD k 0) (ds.getD k 0)
def mX (r:Option xw)(ds:List Int)(out:List (Int×List Int)):Nat->List (Int×Int)×List (Int×List Int)
 |0=>(Wc ds ds.length,out)
 |k+1=>uf r (mX r ds out k) (ds.getD k 0)
def iy (n:Int)(E:List (Int×Int))(V L:List Int)(T:List (List Int)):List (Int×List Int)×Int:=
 if(kC n E V L T).2≠0 then([],(kC n E V L T).2) else((mX (kC n E V L T).1 (mE L L.length) (FR V T V.length) (mE L L.length).length).2,0)
theorem acE (ds:List Int):∀k,KN (Wc ds k)
 |0=>Jj
 |k+1=>LD (acE ds k) _ _
theorem Jl {ds:List Int}:∀ {k:Nat},k<=ds.length->∀x,(iA (Wc ds k) x).isSome=true↔x∈ds.take k
 |0,_,x=>by simp[Wc];rfl
 |k+1,h,x=>by
  show(iA (lD (Wc ds k) (ds.getD k 0) (ds.getD k 0)) x).isSome=true↔_;rw[jT,mK (by omega) 0,aK,av];split
  .rename_i e;exact⟨λ_=>.inr e.symm,λ_=>rfl⟩
  rename_i e;rw[Jl (k:=k) (by omega)];exact⟨.inl,λq=>q.elim id λq=>(e q.symm).elim⟩
theorem Oe (ds:List Int):∀k,(Wc ds k).length<=k
 |0=>az _
 |k+1=>by
  have:=Oe ds k;have:=ny (Wc ds k) (ds.getD k 0) (ds.getD k 0);show(lD _ _ _).length<=_;omega
theorem Ar {V:List Int}{T:List (List Int)}{i:Int}(h0:0<=i)(h1:i<(V.length:Int)):FR V T (V.length-(i-1+1).toNat)=if(T.getD (V.getD i.toNat 0).toNat []).length=0 then FR V T (V.length-(i+1).toNat)++[(-1-V.getD i.toNat 0,[])] else FR V T (V.length-(i+1).toNat):=by
 rw[show V.length-(i-1+1).toNat=(V.length-(i+1).toNat)+1 by omega];show(if(T.getD (V.getD (V.length-1-(V.length-(i+1).toNat)) 0).toNat []).length=0 then _ else _)=_;rw[show V.length-1-(V.length-(i+1).toNat)=i.toNat by omega]
theorem aab {r:Option xw}{m:List (Int×Int)}{x:Int}{acc:List Int}{R:List (Int×Int)×List Int}(hk:KN m)(hs:(iA m x).isSome=true)(ho:uy r m.length m x acc=R):
  ((iA (DA m x) (lz r (jx x) (-1)).1).isSome=true/\(iA (DA m x) (lz r (jx x) (-1)).1).isSome=true/\uy r (DA m x).length (DA m x) (lz r (jx x) (-1)).1 (acc++[x])=R)\/((iA (DA m x) (lz r (jx x) (-1)).1).isSome=false/\(DA m x,acc++[x])=R):=by
 have e:=G9 hk hs;rw[<-e] at ho;unfold uy at ho;split at ho
 .rename_i q;exact .inl ⟨q,q,ho⟩
 rename_i q;exact .inr ⟨by simpa using q,ho⟩
theorem aac {L:List Int}{m:List (Int×Int)}(h:∀y,(iA m y).isSome=true->jS L y)(x:Int):∀y,(iA (DA m x) y).isSome=true->jS L y:=λy hy=>by
 rw[DB] at hy;split at hy
 .cases hy
 exact h y hy
def ED (L:List Int)(r:Option xw)(ds:List Int)(out:List (Int×List Int))(k:Nat)(m2:List (Int×Int))(o2:List (Int×List Int)):Prop:=
 m2=(mX r ds out k).1/\o2=(mX r ds out k).2/\KN m2/\(∀y,(iA m2 y).isSome=true->jS L y)/\o2.length<=out.length+k
theorem aad {L:List Int}{r:Option xw}{ds:List Int}{out:List (Int×List Int)}{k:Nat}{m2:List (Int×Int)}{o2:List (Int×List Int)}(h:(iA (mX r ds out k).1 (ds.getD k 0)).isSome=false)(hI:ED L r ds out k m2 o2):ED L r ds out (k+1) m2 o2:=by
 have⟨h1,h2,h3,h4,h5⟩:=hI;have e:mX r ds out (k+1)=mX r ds out k:=by
  show uf r (mX r ds out k) (ds.getD k 0)=_;unfold uf;rw[ah (by rw[h];simp)]
 exact⟨by rw[e];exact h1,by rw[e];exact h2,h3,h4,by omega⟩
theorem Wd {L:List Int}{r:Option xw}{ds:List Int}{out:List (Int×List Int)}{k:Nat}{m2 mm:List (Int×Int)}{o2:List (Int×List Int)}{acc:List Int}(hk:k<ds.length)(h:(iA (mX r ds out k).1 (ds.getD k 0)).isSome=true)
  (hR:(mm,acc)=uy r (mX r ds out k).1.length (mX r ds out k).1 (ds.getD k 0) []) (kk:KN mm) (kd:∀y,(iA mm y).isSome=true->jS L y) (hI:ED L r ds out k m2 o2):ED L r ds out (k+1) mm (o2++[(ds.getD k 0,acc)]):=by
 have⟨h1,h2,h3,h4,h5⟩:=hI;have e:mX r ds out (k+1)=(mm,(mX r ds out k).2++[(ds.getD k 0,acc)]):=by
  show uf r (mX r ds out k) (ds.getD k 0)=_;unfold uf;rw[ak h,<-hR]
 exact⟨by rw[e],by rw[e,h2],kk,kd,by rw[aN];simp;omega⟩
theorem We {L:List Int}{m:List (Int×Int)}(h:KN m)(hd:∀y,(iA m y).isSome=true->jS L y):m.length<=(mE L L.length).length:=by
 have:=h.length_le_of_subset (l₂:=mE L L.length) λx hx=>(mC x).2 (hd x (mem_keys.1 hx));rwa[bp] at this
theorem ye {n:Int}{E:List (Int×Int)}{V L:List Int}{T:List (List Int)}(h:(kC n E V L T).2=0):iy n E V L T=((mX (kC n E V L T).1 (mE L L.length) (FR V T V.length) (mE L L.length).length).2,0):=by
 unfold iy;rw[ah (by rw[h];exact λq=>q rfl)]
attribute [local instance 10] Classical.propDecidable
section
variable {E:List (Int×Int)}{M:List (Int×List Int)}{V L:List Int}{a shut:Int}{n:Int}
theorem EE {Q:Int->Prop}{v:Int}:∀ {l:List Int} {s:List (Int×Int)×List Int},(∀d∈l,jJ E d≠shut->Q (jJ E d))->(∀x,(iA s.1 x).isSome=true->Q x)->(∀x∈s.2,Q x)->
  (∀x,(iA (l.foldl (mz E v shut) s).1 x).isSome=true->Q x)/\∀x∈(l.foldl (mz E v shut) s).2,Q x
 |[],s,_,h1,h2=>⟨h1,h2⟩
 |d::l,s,hd,h1,h2=>by
  rw[dm];refine EE (λe he=>hd e (aI _ he)) (λx hx=>?_) λx hx=>?_
  .unfold mz at hx;split at hx
   .exact h1 x hx
   rename_i hn;have hx:(iA (lD s.1 (jJ E d) _) x).isSome=true:=hx;rw[jT] at hx;split at hx
   .rename_i e;rw[<-e];exact hd d aE λe=>hn (.inr e)
   exact h1 x hx
  unfold mz at hx;split at hx
  .exact h2 x hx
  rename_i hn;rcases aK.1 hx with hx|hx
  .exact h2 x hx
  rw[av.1 hx];exact hd d aE λe=>hn (.inr e)
theorem PY {Q:Int->Prop}(hQ:∀v,Q v->∀d∈(iA M v).getD [],jJ E d≠shut->Q (jJ E d)):∀(f:Nat) (v:Int) (m:List (Int×Int)) (q:List Int),Q v->(∀x,(iA m x).isSome=true->Q x)->(∀x∈q,Q x)->∀x,(iA (Bi E M shut f v (m,q)) x).isSome=true->Q x
 |0,v,m,q,_,h1,_,x,hx=>h1 x hx
 |f+1,v,m,q,hv,h1,h2,x,hx=>by
  obtain⟨k1,k2⟩:=EE (Q:=Q) (v:=v) (s:=(m,q)) (hQ v hv) h1 h2;have kg:Bi E M shut (f+1) v (m,q)=(match(ni E M v shut (m,q)).2 with
   |[]=>(ni E M v shut (m,q)).1
   |x::t=>Bi E M shut f x ((ni E M v shut (m,q)).1,t)):=rfl
  rw[kg] at hx;have k1:∀x,(iA (ni E M v shut (m,q)).1 x).isSome=true->Q x:=k1;have k2:∀x∈(ni E M v shut (m,q)).2,Q x:=k2;generalize ni E M v shut (m,q)=s at*
  obtain⟨m',q'⟩:=s;cases q' with
  |nil=>exact k1 x hx
  |cons y t=>exact PY hQ f y m' t (k2 y aE) k1 (λz hz=>k2 z (aI _ hz)) x hx
def Cn (E:List (Int×Int))(L:List Int)(x y:Int):Prop:=(Lp E L).p8 (· ≠-1) x y
theorem Bl (hp:iM n E V L=0)(ha:a≠-1){x:Int}:(iA (l5 E (jX E L) a (-1)) x).isSome=true↔Cn E L a x:=by
 refine⟨λh=>?_,Sh hp⟩;have hdk:=Lq (E:=E) (jt hp).2.2.1;refine PY (Q:=λx=>Cn E L a x) (λv hv d hd hs=>?_) _ a [(a,0)] [] (.refl ha) (λx hx=>?_) (λx hx=>by cases hx) x h
 .rw[ya] at hd;obtain⟨h1,h2⟩:=hdk.mem v d hd;exact .step hv ⟨_,h1,h2⟩ hs
 cases hl:iA [(a,(0:Int))] x with
 |none=>rw[hl] at hx;cases hx
 |some z=>
  have:=av.1 (xO hl);cases this;exact .refl ha
noncomputable def kA (E:List (Int×Int)) (L:List Int):List Int->List Int:=λV=>V.foldl (λr v=>if ∃a∈r,Cn E L a v then r else r++[v]) []
theorem Bn (V:List Int)(v:Int):kA E L (V++[v])=if ∃a∈kA E L V,Cn E L a v then kA E L V else kA E L V++[v]:=by
 unfold kA;rw[dH];rfl
theorem Jm {P:List Int->Prop}(h0:P [])(h1:∀l x,P l->P (l++[x])):∀l,P l:=λl=>by
 have key:∀l:List Int,P l.reverse:=by
  intro l
  induction l with
  |nil=>exact h0
  |cons x l ih=>rw[List.reverse_cons];exact h1 _ _ ih
 have:=key l.reverse;rwa[List.reverse_reverse] at this
theorem CV:∀V:List Int,(∀v∈V,v≠-1)->(∀a∈kA E L V,a∈V)/\(∀v∈V,∃a∈kA E L V,Cn E L a v)/\(kA E L V).Nodup/\∀a∈kA E L V,∀b∈kA E L V,Cn E L a b->a=b:=by
 refine Jm (λ_=>⟨λa h=>(by cases h),λa h=>(by cases h),ajW,λa h=>(by cases h)⟩) λV v ih hV=>?_;obtain⟨h1,h2,h3,h4⟩:=ih λx hx=>hV x (aQ _ hx);have hv:=hV v (bq _ (av.2 rfl));rw[Bn];split
 .rename_i q;refine⟨λa ha=>aQ _ (h1 a ha),λx hx=>?_,h3,h4⟩;rcases aK.1 hx with hx|hx
  .exact h2 x hx
  rw[av.1 hx];exact q
 rename_i q;refine⟨λa ha=>?_,λx hx=>?_,?_,λa ha b hb Cw=>?_⟩
 .rcases aK.1 ha with ha|ha
  .exact aQ _ (h1 a ha)
  exact bq _ ha
 .rcases aK.1 hx with hx|hx
  .obtain⟨a,ha,hc⟩:=h2 x hx;exact⟨a,aQ _ ha,hc⟩
  rw[av.1 hx];exact⟨v,bq _ (av.2 rfl),.refl hv⟩
 .rw[cY];exact⟨h3,by simp,λx hx y hy e=>by subst e;rw[av.1 hy] at hx;exact q ⟨v,hx,.refl hv⟩⟩
 rcases aK.1 ha with ha|ha<;>rcases aK.1 hb with hb|hb
 .exact h4 a ha b hb Cw
 .rw[av.1 hb] at Cw;exact(q ⟨a,ha,Cw⟩).elim
 .rw[av.1 ha] at Cw;exact(q ⟨b,hb,Gr.p8.symm Cw⟩).elim
 rw[av.1 ha,av.1 hb]
noncomputable def oz (E:List (Int×Int)) (L V:List Int) (a:Int):List Int:=V.filter λv=>decide (Cn E L a v)
noncomputable def adI (E:List (Int×Int)) (L:List Int) (a:Int):List Int:=L.filter λe=>decide (Cn E L a (eA E e))
theorem As {v:Int}:v∈oz E L V a↔v∈V/\Cn E L a v:=by unfold oz;rw[cU];simp
theorem EF {α:Type}{r:List α}{f g:α->List Int×List Int}{i:Nat}(hi:i<r.length)(z:α)(h:∀j,j<r.length->j≠i->f (r.getD j z)=g (r.getD j z)):(r.map f).set i (g (r.getD i z))=r.map g:=by
 apply List.ext_getElem?;intro j;rw[ak7]
 by_cases e:i=j
 .subst e;rw[ak rfl,bp,ak hi,b9,aJ,aY hi];rfl
 rw[ah e,b9,b9]
 by_cases hj:j<r.length
 .have:=h j hj λq=>e q.symm;rw[aJ,aY hj] at this;rw[aY hj];exact aL some this
 rw[dF (by omega)];rfl
theorem EG {α:Type}{r:List α}{f:α->List Int×List Int}{i:Nat}(hi:i<r.length)(z:α):(r.map f).getD i ([],[])=f (r.getD i z):=Ap hi z _
theorem agC (hp:iM n E V L=0):∀W:List Int,(∀v∈W,v≠-1)->
  (W.foldl (nH E (jX E L)) ([],[])).2=(kA E L W).map (λa=>(oz E L W a,[]))/\
  (∀x,(∀i,i<(kA E L W).length->Cn E L ((kA E L W).getD i 0) x->iA (W.foldl (nH E (jX E L)) ([],[])).1 x=some (i:Int))/\((¬ ∃a∈kA E L W,Cn E L a x)->iA (W.foldl (nH E (jX E L)) ([],[])).1 x=none)):=by
 refine Jm (λ_=>⟨rfl,λx=>⟨λi hi=>by simp[kA] at hi,λ_=>rfl⟩⟩) λW v ih hW=>?_;have hW':∀x∈W,x≠-1:=λx hx=>hW x (aQ _ hx);obtain⟨h1,h2⟩:=ih hW';have hv:=hW v (bq _ (av.2 rfl));obtain⟨r1,r2,r3,r4⟩:=CV (E:=E) (L:=L) W hW';rw[dH];show(nH E (jX E L) (W.foldl (nH E (jX E L)) ([],[])) v).2=_/\∀x,(∀i,i<_->_->iA (nH E (jX E L) (W.foldl (nH E (jX E L)) ([],[])) v).1 x=_)/\(_->iA (nH E (jX E L) (W.foldl (nH E (jX E L)) ([],[])) v).1 x=none);generalize W.foldl (nH E (jX E L)) ([],[])=s at*
 obtain⟨pm,out⟩:=s;dsimp only at h1 h2;subst h1;rw[Bn];have aae:∀a,oz E L (W++[v]) a=if Cn E L a v then oz E L W a++[v] else oz E L W a:=λa=>by
  unfold oz;rw[alK];split
  .rename_i q;rw[anM (by simpa using q)];rfl
  rename_i q;rw[anN (by simpa using q)];simp
 by_cases hc:∃a∈kA E L W,Cn E L a v
 .rw[ak hc];have⟨a,ha,hav⟩:=hc;obtain⟨i,hi,rfl⟩:=iT (z:=0).1 ha;have Gk:=(h2 v).1 i hi hav;have e:nH E (jX E L) (pm,(kA E L W).map λa=>(oz E L W a,[])) v=(pm,LI ((kA E L W).map λa=>(oz E L W a,[])) (i:Int) v):=by
   unfold nH;dsimp only;rw[ak (by rw[Gk];rfl),Gk];rfl
  rw[e];refine⟨?_,h2⟩;show((kA E L W).map λa=>(oz E L W a,[])).set (i:Int).toNat _=_;rw[cH,EG hi 0];have:(oz E L W ((kA E L W).getD i 0)++[v],([]:List Int))=(λa=>(oz E L (W++[v]) a,([]:List Int))) ((kA E L W).getD i 0):=by
   show _=(oz E L (W++[v]) _,[]);rw[aae,ak hav]
  show((kA E L W).map λa=>(oz E L W a,[])).set i (oz E L W ((kA E L W).getD i 0)++[v],[])=_;rw[this];refine EF (f:=λa=>(oz E L W a,[])) (g:=λa=>(oz E L (W++[v]) a,[])) hi 0 λj hj mc=>?_;rw[aae,ah];intro q;have:=r4 _ (iT.2 ⟨j,hj,rfl⟩) _ ha ((Gr.p8.trans q (Gr.p8.symm hav)));exact mc (mJ r3 hj hi this)
 rw[ah hc];have Gk:=(h2 v).2 hc;have e:nH E (jX E L) (pm,(kA E L W).map λa=>(oz E L W a,[])) v=(vS pm (l5 E (jX E L) v (-1)) ((kA E L W).length:Int),LI (((kA E L W).map λa=>(oz E L W a,[]))++[([],[])]) ((kA E L W).length:Int) v):=by
  unfold nH;dsimp only;rw[ah (by rw[Gk];decide),bp]
 rw[e];have sN:∀x,iA (vS pm (l5 E (jX E L) v (-1)) ((kA E L W).length:Int)) x=if(iA (l5 E (jX E L) v (-1)) x).isSome=true then some ((kA E L W).length:Int) else iA pm x:=λx=>An;refine⟨?_,λx=>⟨λi hi hx=>?_,λhx=>?_⟩⟩
 .have B4:∀a∈kA E L W,oz E L (W++[v]) a=oz E L W a:=λa ha=>by rw[aae,ah λq=>hc ⟨a,ha,q⟩]
  have wQ:oz E L W v=[]:=by
   unfold oz;rw[List.filter_eq_nil_iff];intro x hx q;have q:Cn E L v x:=by simpa using q
   obtain⟨a,ha,hax⟩:=r2 x hx;exact hc ⟨a,ha,Gr.p8.trans hax (Gr.p8.symm q)⟩
  show(((kA E L W).map λa=>(oz E L W a,[]))++[([],[])]).set ((kA E L W).length:Int).toNat _=_;rw[cH];have hlen:((kA E L W).map λa=>(oz E L W a,([]:List Int))).length=(kA E L W).length:=bp ..;have eg:(((kA E L W).map λa=>(oz E L W a,([]:List Int)))++[([],[])]).getD (kA E L W).length ([],[])=([],[]):=by
   rw[aJ,cP (by omega),hlen,di];rfl
  rw[eg,List.set_append_right _ _ (by omega),hlen,di,cg]
  congr 1
  .exact ajQ λa ha=>by rw[B4 a ha]
  show[(([]:List Int)++[v],([]:List Int))]=[(oz E L (W++[v]) v,[])];rw[aae,ak (.refl hv),wQ]
 .rw[sN];rw[aN] at hi
  by_cases q:i<(kA E L W).length
  .have eg:(kA E L W++[v]).getD i 0=(kA E L W).getD i 0:=xu q;rw[eg] at hx;rw[ah,(h2 x).1 i q hx];intro z;exact hc ⟨_,iT.2 ⟨i,q,rfl⟩,Gr.p8.trans hx (Gr.p8.symm ((Bl hp hv).1 z))⟩
  have o7:i=(kA E L W).length:=by simp at hi;omega
  subst o7;have eg:(kA E L W++[v]).getD (kA E L W).length 0=v:=by
   rw[aJ,cP (az _),di];rfl
  rw[eg] at hx;rw[ak ((Bl hp hv).2 hx)]
 rw[sN,ah,(h2 x).2]
 .rintro⟨a,ha,q⟩;exact hx ⟨a,aQ _ ha,q⟩
 intro z;exact hx ⟨v,bq _ (av.2 rfl),(Bl hp hv).1 z⟩
noncomputable def vX (E:List (Int×Int)) (V L:List Int):tI:=(kA E L V).map λa=>(oz E L V a,adI E L a)
theorem xz {V:List Int}(h:jQ V n):∀v∈V,v≠-1:=λv hv=>by have:=(jf.1 h).2 v hv;omega
theorem Hj (hp:iM n E V L=0):vT E V L=vX E V L:=by
 obtain⟨hr,hV,hL,o6⟩:=jt hp;have Of:=xz hV;obtain⟨h1,h2⟩:=agC hp V Of;obtain⟨r1,r2,r3,r4⟩:=CV (E:=E) (L:=L) V Of;unfold vT;generalize V.foldl (nH E (jX E L)) ([],[])=s at*
 obtain⟨pm,out⟩:=s;dsimp only at h1 h2 ⊢;subst h1;have key:∀W:List Int,(∀e∈W,e∈L)->W.foldl (EA E pm) ((kA E L V).map λa=>(oz E L V a,[]))=(kA E L V).map λa=>(oz E L V a,W.filter λe=>decide (Cn E L a (eA E e))):=by
  refine Jm (λ_=>rfl) λW e ih hW=>?_;rw[dH,ih λx hx=>hW x (aQ _ hx)];show EA E pm _ e=_;have he:=hW e (bq _ (av.2 rfl));obtain⟨j,hj,rfl⟩:=nG.1 he;obtain⟨ka,kb⟩:=Bj (j:=(j:Int)) hp (by omega) (by omega);rw[cH] at ka;have ka:eA E (L.getD j 0)∈V:=ka;generalize L.getD j 0=e at*
  obtain⟨a,ha,hax⟩:=r2 _ ka;obtain⟨i,hi,rfl⟩:=iT (z:=0).1 ha;have Gk:=(h2 (eA E e)).1 i hi hax;have ee:EA E pm ((kA E L V).map λa=>(oz E L V a,W.filter λe=>decide (Cn E L a (eA E e)))) e=V7 ((kA E L V).map λa=>(oz E L V a,W.filter λe=>decide (Cn E L a (eA E e)))) (i:Int) e:=by
   unfold EA;rw[show(E.getD e.toNat (0,0)).1=eA E e from rfl,Gk];rfl
  rw[ee];unfold V7;rw[cH,EG hi 0];have hf:∀a,(W++[e]).filter (λe=>decide (Cn E L a (eA E e)))=if Cn E L a (eA E e) then W.filter (λe=>decide (Cn E L a (eA E e)))++[e] else W.filter (λe=>decide (Cn E L a (eA E e))):=λa=>by
   rw[alK];split
   .rename_i q;rw[anM (by simpa using q)];rfl
   rename_i q;rw[anN (by simpa using q)];simp
  have:=EF (f:=λa=>(oz E L V a,W.filter λe=>decide (Cn E L a (eA E e)))) (g:=λa=>(oz E L V a,(W++[e]).filter λe=>decide (Cn E L a (eA E e)))) hi 0 λj hj mc=>by
   rw[hf,ah];intro q;have:=r4 _ (iT.2 ⟨j,hj,rfl⟩) _ ha ((Gr.p8.trans q (Gr.p8.symm hax)));exact mc (mJ r3 hj hi this)
  rw[<-this];dsimp only;rw[hf,ak hax]
 exact key L λ_ h=>h
end
def J7 (m:List (Int×Int))(vs:List Int)(c:Int):Nat->List (Int×Int)
 |0=>m
 |k+1=>lD (J7 m vs c k) (vs.getD k 0) c
def Bo (P:tI):Nat->List (Int×Int)
 |0=>[]
 |k+1=>J7 (Bo P k) (P.getD k ([],[])).1 (k:Int) (P.getD k ([],[])).1.length
theorem LO {m:List (Int×Int)}{vs:List Int}{c i:Int}(h:0<=i):J7 m vs c (i+1).toNat=lD (J7 m vs c i.toNat) (vs.getD i.toNat 0) c:=by
 rw[show(i+1).toNat=i.toNat+1 by omega];rfl
theorem LP {P:tI}{i:Int}(h:0<=i):Bo P (i+1).toNat=J7 (Bo P i.toNat) (P.getD i.toNat ([],[])).1 i (P.getD i.toNat ([],[])).1.length:=by
 rw[show(i+1).toNat=i.toNat+1 by omega];show J7 _ _ ((i.toNat:Nat):Int) _=_;rw[cC h]
theorem CW {m:List (Int×Int)}{vs:List Int}{c:Int}:∀k,(J7 m vs c k).length<=m.length+k
 |0=>az _
 |k+1=>by
  have h:=CW (m:=m) (vs:=vs) (c:=c) k;have:=ny (J7 m vs c k) (vs.getD k 0) c;show(lD _ _ _).length<=_;omega
theorem CX {P:tI}{N:Nat}(hP:∀k,(P.getD k ([],[])).1.length<=N):∀k,(Bo P k).length<=k*N
 |0=>by simp[Bo]
 |k+1=>by
  have h:=CX hP k;have h1:=CW (m:=Bo P k) (vs:=(P.getD k ([],[])).1) (c:=(k:Int)) (P.getD k ([],[])).1.length;have h2:=hP k;show(J7 _ _ _ _).length<=_;rw[bT];omega
theorem LQ {m:List (Int×Int)}{vs:List Int}{c:Int}:∀ {k:Nat},k<=vs.length->∀x,iA (J7 m vs c k) x=if x∈vs.take k then some c else iA m x
 |0,_,x=>by simp[J7]
 |k+1,h,x=>by
  show iA (lD (J7 m vs c k) (vs.getD k 0) c) x=_;rw[jT,LQ (k:=k) (by omega),mK (by omega) 0]
  by_cases q:vs.getD k 0=x
  .rw[ak q,ak (bq _ (by simp only[av];exact q.symm))]
  rw[ah q]
  by_cases z:x∈vs.take k
  .rw[ak z,ak (aQ _ z)]
  rw[ah z,ah];intro y;rcases aK.1 y with y|y
  .exact z y
  exact q (av.1 y).symm
structure Ce (E:List (Int×Int))(V L:List Int)(P:tI):Prop where
 len:P.length<=V.length
 bd:∀k,(P.getD k ([],[])).1.length<=V.length/\(P.getD k ([],[])).2.length<=L.length
 sub:∀k,∀v∈(P.getD k ([],[])).1,v∈V
 ZZ:∀v∈V,∃i,i<P.length/\v∈(P.getD i ([],[])).1
 uq:∀i j,i<P.length->j<P.length->∀v,v∈(P.getD i ([],[])).1->v∈(P.getD j ([],[])).1->i=j
theorem LR {E:List (Int×Int)}{V L:List Int}{P:tI}(h:Ce E V L P):∀ {k:Nat},k<=P.length->∀i,i<k->∀x∈(P.getD i ([],[])).1,iA (Bo P k) x=some (i:Int)
 |k+1,hk,i,hi,x,hx=>by
  show iA (J7 (Bo P k) (P.getD k ([],[])).1 (k:Int) (P.getD k ([],[])).1.length) x=_;rw[LQ (az _),bU]
  by_cases q:i=k
  .subst q;rw[ak hx]
  rw[ah λz=>q (h.uq i k (by omega) (by omega) x hx z)];exact LR h (k:=k) (by omega) i (by omega) x hx
theorem Jn {E:List (Int×Int)}{V L:List Int}{P:tI}(h:Ce E V L P){v:Int}(hv:v∈V):∃i:Nat,i<P.length/\v∈(P.getD i ([],[])).1/\iA (Bo P P.length) v=some (i:Int):=by
 obtain⟨i,hi,hx⟩:=h.ZZ v hv;exact⟨i,hi,hx,LR h (az _) i hi v hx⟩
theorem LS {α:Type}{l:List α}{k:Nat}{z:α}(h:l.length<=k):l.getD k z=z:=by
 rw[aJ,dF h];rfl
theorem Sm {n:Int}{E:List (Int×Int)}{V L:List Int}(hp:iM n E V L=0):Ce E V L (vT E V L):=by
 obtain⟨hr,hV,hL,o6⟩:=jt hp;obtain⟨r1,r2,r3,r4⟩:=CV (E:=E) (L:=L) V (xz hV);rw[Hj hp];have hlen:(vX E V L).length=(kA E L V).length:=bp ..;have uJ:∀k,k<(vX E V L).length->(vX E V L).getD k ([],[])=(oz E L V ((kA E L V).getD k 0),adI E L ((kA E L V).getD k 0)):=λk hk=>EG (by omega) 0;refine⟨?_,λk=>?_,λk v hv=>?_,λv hv=>?_,λi j hi hj v h1 h2=>?_⟩
 .rw[hlen];exact r3.length_le_of_subset r1
 .by_cases hk:k<(vX E V L).length
  .rw[uJ k hk];exact⟨akW _ _,akW _ _⟩
  rw[LS (by omega)];exact⟨bF _,bF _⟩
 .by_cases hk:k<(vX E V L).length
  .rw[uJ k hk] at hv;exact(As.1 hv).1
  rw[LS (by omega)] at hv;cases hv
 .obtain⟨a,ha,hc⟩:=r2 v hv;obtain⟨i,hi,rfl⟩:=iT (z:=0).1 ha;exact⟨i,by omega,by rw[uJ i (by omega)];exact As.2 ⟨hv,hc⟩⟩
 rw[uJ i hi] at h1;rw[uJ j hj] at h2;have h1:=(As.1 h1).2;have h2:=(As.1 h2).2;exact mJ r3 (by omega) (by omega) (r4 _ (iT.2 ⟨i,by omega,rfl⟩) _ (iT.2 ⟨j,by omega,rfl⟩) ((Gr.p8.trans h1 (Gr.p8.symm h2))))
def iF (n:Int)(E:List (Int×Int))(V L:List Int):tI:=if iM n E V L≠0 then[] else vT E V L
theorem PZ {n:Int}{E:List (Int×Int)}{V L:List Int}(hp:iM n E V L=0):iF n E V L=vT E V L:=ah (by rw[hp];exact λq=>q rfl)
theorem ug {n:Int}{E:List (Int×Int)}{V L:List Int}(hp:iM n E V L=0):Ce E V L (iF n E V L):=by rw[PZ hp];exact Sm hp
def oa (E:List (Int×Int))(w:Int×List Int):Int:=if w.2.length=0 then -1-w.1 else iC E w.1
theorem Jo {V:List Int}{T:List (List Int)}:∀ {k:Nat},k<=V.length->∀w∈FR V T k,w.2.length=0/\-1-w.1∈V
 |0,_,w,h=>by cases h
 |k+1,hk,w,h=>by
  unfold FR at h;split at h
  .rcases aK.1 h with h|h
   .exact Jo (by omega) w h
   rw[av.1 h];exact⟨rfl,by rw[show -1-(-1-V.getD (V.length-1-k) 0)=V.getD (V.length-1-k) 0 by omega];exact iT.2 ⟨_,by omega,rfl⟩⟩
  exact Jo (by omega) w h
theorem P0 {r:Option xw}:∀ {k:Nat} {m:List (Int×Int)} {x:Int} {acc:List Int},acc.length<=(uy r k m x acc).2.length/\(0<k->acc.length<(uy r k m x acc).2.length)/\(uy r k m x acc).2.length<=acc.length+k
 |0,m,x,acc=>⟨az _,λh=>(by omega),az _⟩
 |k+1,m,x,acc=>by
  unfold uy;split
  .obtain⟨h1,_,h2⟩:=P0 (r:=r) (k:=k) (m:=DA m x) (x:=(lz r (jx x) (-1)).1) (acc:=acc++[x]);rw[aN,cz] at h1 h2;exact⟨by omega,λ_=>by omega,by omega⟩
  simp only[aN,cz];omega
theorem P3 {r:Option xw}{L:List Int}{ds:List Int}{out:List (Int×List Int)}(hd:∀d∈ds,jS L d):∀ {k:Nat},k<=ds.length->∀w∈(mX r ds out k).2,w∈out\/(w.2.length≠0/\jS L w.1)
 |0,_,w,h=>.inl h
 |k+1,hk,w,h=>by
  have ih:=P3 (r:=r) (out:=out) hd (k:=k) (by omega);have h:w∈(uf r (mX r ds out k) (ds.getD k 0)).2:=h;unfold uf at h;split at h
  .rename_i hs;rcases aK.1 h with h|h
   .exact ih w h
   rw[av.1 h];refine .inr ⟨?_,hd _ (iT.2 ⟨k,by omega,rfl⟩)⟩;have TF:0<(mX r ds out k).1.length:=by
    cases hm:(mX r ds out k).1 with
    |nil=>rw[hm] at hs;cases hs
    |cons _ _=>simp
   have:=P0 (r:=r) (k:=(mX r ds out k).1.length) (m:=(mX r ds out k).1) (x:=ds.getD k 0) (acc:=[]);have:=this.2.1 TF;simp only[bP] at this;show(uy r _ _ _ []).2.length≠0;omega
  exact ih w h
theorem P4 {r:Option xw}{ds:List Int}{out:List (Int×List Int)}:∀k,(mX r ds out k).2.length<=out.length+k
 |0=>az _
 |k+1=>by
  have ih:=P4 (r:=r) (ds:=ds) (out:=out) k;show(uf r (mX r ds out k) (ds.getD k 0)).2.length<=_;unfold uf;split
  .rw[aN,cz];omega
  omega
theorem uh {n:Int}{E:List (Int×Int)}{V L:List Int}{T:List (List Int)}:(iy n E V L T).2=(kC n E V L T).2:=by
 unfold iy;split
 .rfl
 rename_i q;have:(kC n E V L T).2=0:=bL λz=>q z;rw[this]
structure Au (E:List (Int×Int))(V L:List Int)(W:List (Int×List Int)):Prop where
 len:W.length<=V.length+2*L.length
 key:∀w∈W,(w.2.length=0/\-1-w.1∈V)\/(w.2.length≠0/\jS L w.1)
theorem oJ {n:Int}{E:List (Int×Int)}{V L:List Int}{T:List (List Int)}(h:(iy n E V L T).2=0):iM n E V L=0/\mN n E L T/\Au E V L (iy n E V L T).1:=by
 rw[uh] at h;obtain⟨h1,h2,h3⟩:=vP h;refine⟨h1,h2,?_⟩;rw[ye h];have hl:=vW V T V.length;have hr:=P4 (r:=(kC n E V L T).1) (ds:=mE L L.length) (out:=FR V T V.length) (mE L L.length).length;have hd:=ue L L.length;refine⟨by show(mX _ _ _ _).2.length<=_;omega,λw hw=>?_⟩;rcases P3 (λd hd=>(mC d).1 hd) (az _) w hw with q|q
 .exact .inl (Jo (az _) w q)
 exact .inr q
theorem oU {n:Int}{E:List (Int×Int)}{V L:List Int}(hp:iM n E V L=0){d:Int}(hd:jS L d):iC E d∈V/\0<=d/\d/2<(E.length:Int)/\d<=1000000:=by
 obtain⟨hr,hV,hL,o6⟩:=jt hp;obtain⟨r1,r2,r3,r4⟩:=jD hr;have hb:=(jf.1 hL).2 _ hd;obtain⟨j,hj,e⟩:=nG.1 hd;obtain⟨ka,kb⟩:=Bj (j:=(j:Int)) hp (by omega) (by omega);rw[cH,e] at ka kb;refine⟨?_,by omega,by omega,by omega⟩;unfold iC;split
 .exact ka
 exact kb
theorem yf {n:Int}{E:List (Int×Int)}{V L:List Int}(hp:iM n E V L=0){W:List (Int×List Int)}(h:Au E V L W){w:Int×List Int}(hw:w∈W):oa E w∈V:=by
 unfold oa;rcases h.key w hw with⟨q,z⟩|⟨q,z⟩
 .rw[ak q];exact z
 rw[ah q];exact(oU hp z).1
theorem P5 {n:Int}{E:List (Int×Int)}{V L:List Int}(hp:iM n E V L=0){W:List (Int×List Int)}(h:Au E V L W){w:Int×List Int}(hw:w∈W): -1024<=w.1/\w.1<=1000000:=by
 obtain⟨hr,hV,hL,o6⟩:=jt hp;obtain⟨r1,r2,r3,r4⟩:=jD hr;rcases h.key w hw with⟨q,z⟩|⟨q,z⟩
 .have:=(jf.1 hV).2 _ z;omega
 have:=oU hp z;omega
def wK (E:List (Int×Int))(P:tI)(W:List (Int×List Int)):Nat->List Int
 |0=>cy P.length 0
 |k+1=>(wK E P W k).set ((iA (Bo P P.length) (oa E (W.getD k (0,[])))).getD 0).toNat ((wK E P W k).getD ((iA (Bo P P.length) (oa E (W.getD k (0,[])))).getD 0).toNat 0+1)
theorem CY {E:List (Int×Int)}{P:tI}{W:List (Int×List Int)}:∀k,(wK E P W k).length=P.length
 |0=>List.length_replicate
 |k+1=>by unfold wK;rw[bR];exact CY k
theorem Wf {E:List (Int×Int)}{P:tI}{W:List (Int×List Int)}:∀k j,0<=(wK E P W k).getD j 0/\(wK E P W k).getD j 0<=(k:Int)
 |0,j=>by
  unfold wK;rw[aJ,List.getElem?_replicate];split<;>simp
 |k+1,j=>by
  have h1:=Wf (E:=E) (P:=P) (W:=W) k;unfold wK;rw[aJ,ak7];split
  .split
   .have:=h1 ((iA (Bo P P.length) (oa E (W.getD k (0,[])))).getD 0).toNat;simp only[cK];omega
   simp only[Option.getD_none];omega
  have:=h1 j;rw[aJ] at this;omega
theorem Hl {E:List (Int×Int)}{P:tI}{W:List (Int×List Int)}{i:Int}(h:0<=i):wK E P W (i+1).toNat=(wK E P W i.toNat).set ((iA (Bo P P.length) (oa E (W.getD i.toNat (0,[])))).getD 0).toNat ((wK E P W i.toNat).getD ((iA (Bo P P.length) (oa E (W.getD i.toNat (0,[])))).getD 0).toNat 0+1):=by
 rw[show(i+1).toNat=i.toNat+1 by omega];rfl
def FT (P:tI)(fs:List Int):Nat->List Int
 |0=>[]
 |k+1=>FT P fs k++[Int.tdiv (2-((P.getD k ([],[])).1.length:Int)+((P.getD k ([],[])).2.length:Int)-fs.getD k 0) 2]
theorem Jp {P:tI}{fs:List Int}:∀k,(FT P fs k).length=k
 |0=>rfl
 |k+1=>by unfold FT;rw[aN,Jp k];rfl
theorem Sn {P:tI}{fs:List Int}{i:Int}(h:0<=i):FT P fs (i+1).toNat=FT P fs i.toNat++[Int.tdiv (2-((P.getD i.toNat ([],[])).1.length:Int)+((P.getD i.toNat ([],[])).2.length:Int)-fs.getD i.toNat 0) 2]:=by
 rw[show(i+1).toNat=i.toNat+1 by omega];rfl
def lC (n:Int)(E:List (Int×Int))(V L:List Int)(T:List (List Int)):List Int×Int:=
 if(iy n E V L T).2≠0 then([],(iy n E V L T).2) else(FT (iF n E V L) (wK E (iF n E V L) (iy n E V L T).1 (iy n E V L T).1.length) (iF n E V L).length,0)
def ox (n:Int)(E:List (Int×Int))(V L:List Int)(T:List (List Int)):Int:=
 if(lC n E V L T).2≠0 then(lC n E V L T).2 else if(lC n E V L T).1.all (λg=>decide (g=0)) then 0 else 6
theorem CZ {n:Int}{E:List (Int×Int)}{V L:List Int}{T:List (List Int)}:(lC n E V L T).2=(kC n E V L T).2:=by
 unfold lC;split
 .exact uh
 rename_i q;rw[<-uh];exact(ajV.1 q).symm
theorem Sq {n:Int}{E:List (Int×Int)}{V L:List Int}{T:List (List Int)}(h:(lC n E V L T).2=0):(lC n E V L T).1.length<=V.length:=by
 rw[CZ,<-uh] at h;obtain⟨hp,_,_⟩:=oJ h;unfold lC;rw[ah (by rw[h];exact λq=>q rfl)];show(FT _ _ _).length<=_;rw[Jp];exact(ug hp).len
theorem Og {n:Int}{E:List (Int×Int)}{V L:List Int}{T:List (List Int)}(h:(lC n E V L T).2=0):V.length<=1024:=by
 rw[CZ,<-uh] at h;obtain⟨hp,_,_⟩:=oJ h;obtain⟨hr,hV,hL,o6⟩:=jt hp;obtain⟨r1,r2,r3,r4⟩:=jD hr;have:=jv hV r1;omega
theorem Wg {n:Int}{E:List (Int×Int)}{V L:List Int}{T:List (List Int)}{i:Int}(h:(lC n E V L T).2=0)(h0:0<=i)(h1:i<((lC n E V L T).1.length:Int))(h2:¬(lC n E V L T).1.getD i.toNat 0=0):ox n E V L T=6:=by
 unfold ox;rw[ah (by rw[h];exact λq=>q rfl),ah];intro q;exact h2 (aA (aU.1 q _ (iT.2 ⟨i.toNat,by omega,rfl⟩)))
theorem aaf {n:Int}{E:List (Int×Int)}{V L:List Int}{T:List (List Int)}(h:(lC n E V L T).2=0)(h1:∀j,j<(lC n E V L T).1.length->(lC n E V L T).1.getD j 0=0):ox n E V L T=0:=by
 unfold ox;rw[ah (by rw[h];exact λq=>q rfl),ak];rw[aU];intro x hx;obtain⟨j,hj,rfl⟩:=iT (z:=0).1 hx;exact bB (h1 j hj)
def jL (E:List (Int×Int))(P:tI)(W:List (Int×List Int)):Nat->List (Int×Int)
 |0=>[]
 |k+1=>lD (jL E P W k) (W.getD k (0,[])).1 ((iA (Bo P P.length) (oa E (W.getD k (0,[])))).getD 0)
theorem Sr {E:List (Int×Int)}{P:tI}{W:List (Int×List Int)}{i:Int}(h:0<=i):jL E P W (i+1).toNat=lD (jL E P W i.toNat) (W.getD i.toNat (0,[])).1 ((iA (Bo P P.length) (oa E (W.getD i.toNat (0,[])))).getD 0):=by
 rw[show(i+1).toNat=i.toNat+1 by omega];rfl
theorem Jq {E:List (Int×Int)}{P:tI}{W:List (Int×List Int)}:∀k,(jL E P W k).length<=k
 |0=>az _
 |k+1=>by
  have:=Jq (E:=E) (P:=P) (W:=W) k;have:=ny (jL E P W k) (W.getD k (0,[])).1 ((iA (Bo P P.length) (oa E (W.getD k (0,[])))).getD 0);show(lD _ _ _).length<=_;omega
def vc:Nat->S4
 |0=>([],[],[],0)
 |k+1=>mA (vc k) (k:Int)
theorem Ss {i:Int}(h:0<=i):vc (i+1).toNat=mA (vc i.toNat) i:=by
 rw[show(i+1).toNat=i.toNat+1 by omega];show mA _ ((i.toNat:Nat):Int)=_;rw[cC h]
theorem C0:∀k,Ey (vc k)/\(vc k).2.1.length=k/\(∀x,(iA (vc k).1 x).isSome=true↔0<=x/\x<(k:Int))/\∀a b,Rl (vc k) a b↔0<=a/\a<(k:Int)/\a=b
 |0=>⟨Ey.nil,rfl,λx=>⟨(λh=>by cases h),λh=>by omega⟩,λa b=>⟨(λ⟨i,_,h,_⟩=>by cases h),λh=>by omega⟩⟩
 |k+1=>by
  obtain⟨h1,h2,h3,h4⟩:=C0 k;obtain⟨k1,k2⟩:=h1.add (k:Int);have hn:iA (vc k).1 (k:Int)=none:=by
   cases hq:iA (vc k).1 (k:Int) with
   |none=>rfl
   |some _=>have:=(h3 (k:Int)).1 (by rw[hq];rfl);omega
  refine⟨k1,?_,λx=>?_,λa b=>?_⟩
  .show(kN (vc k).1 (vc k).2.1 (k:Int)).length=_;unfold kN;rw[hn];simp[h2]
  .show(iA (kz (vc k).1 (vc k).2.1 (k:Int)) x).isSome=true↔_;unfold kz;rw[hn];simp only[Option.isSome_none,Bool.false_eq_true,if_false];rw[jT];split
   .exact⟨λ_=>by omega,λ_=>rfl⟩
   rw[h3];omega
  show Rl (mA (vc k) (k:Int)) a b↔_;rw[k2,h4];omega
def uz (ow:p9)(l:List Int)(i:Int)(s:S4×p9)(k:Nat):Option (S4×p9):=
 if(iA ow (l.getD k 0)).isSome=false\/(iA s.2 (l.getD k 0)).isSome=true\/(0<k/\l.getD k 0<=l.getD (k-1) 0) then none
 else if k=0 then some (s.1,lD s.2 (l.getD k 0) i)
 else if jnT s.1 ((iA ow (l.getD 0 0)).getD 0) ((iA ow (l.getD k 0)).getD 0)=true then some (M4 s.1 ((iA ow (l.getD 0 0)).getD 0) ((iA ow (l.getD k 0)).getD 0),lD s.2 (l.getD k 0) i) else none
def runK (ow:p9)(l:List Int)(i:Int)(s:S4×p9):Nat->Option (S4×p9)
 |0=>some s
 |k+1=>(runK ow l i s k).bind λz=>uz ow l i z k
def uA (ow:p9)(S:List (List Int))(s:S4×p9)(i:Nat):Option (S4×p9):=
 if(S.getD i []).length<2\/(0<i/\(S.getD i []).getD 0 0<=(S.getD (i-1) []).getD 0 0) then none else runK ow (S.getD i []) (i:Int) s (S.getD i []).length
def qu (ow:p9)(S:List (List Int))(N:Nat):Nat->Option (S4×p9)
 |0=>some (vc N,[])
 |i+1=>(qu ow S N i).bind λs=>uA ow S s i
def th (n:Int)(E:List (Int×Int))(V L:List Int)(T S:List (List Int)):Int:=
 if ox n E V L T≠0 then ox n E V L T
 else match qu (jL E (iF n E V L) (iy n E V L T).1 (iy n E V L T).1.length) S (iF n E V L).length S.length with
  |none=>7
  |some s=>if 1<s.1.2.2.2 then 7 else 0
structure Wh (ow:p9)(N:Nat):Prop where
 v:∀x c,iA ow x=some c->0<=c/\c<(N:Int)
 len:ow.length<=100000
structure Fy (ow:p9)(N:Nat)(s:S4×p9):Prop where
 ok:Ey s.1
 len:s.1.2.1.length=N
 all:∀x,0<=x->x<(N:Int)->(iA s.1.1 x).isSome=true
 kn:KN s.2
 sub:∀x,(iA s.2 x).isSome=true->(iA ow x).isSome=true
section
variable {ow:p9}{N:Nat}{s:S4×p9}{l:List Int}{S:List (List Int)}
theorem Fy.start:Fy ow N (vc N,[]):=by
 obtain⟨h1,h2,h3,_⟩:=C0 N;exact⟨h1,h2,λx h h'=>(h3 x).2 ⟨h,h'⟩,Jj,λx h=>by cases h⟩
theorem Fy.FM (h:Fy ow N s)(ho:Wh ow N):s.2.length<=100000:=by
 have:=h.kn.length_le_of_subset (l₂:=ow.map (·.1)) λx hx=>mem_keys.2 (h.sub x (mem_keys.1 hx));rw[bp,bp] at this;exact bg this ho.len
theorem P6 {M:p9}{L:List Int}{x:Int}(h:(iA M x).isSome=true):kN M L x=L:=ak h
theorem Jr {M:p9}{L:List Int}{x:Int}(h:(iA M x).isSome=true):kz M L x=M:=ak h
theorem Fy.jn (h:Fy ow N s){x y:Int}(x0:0<=x)(x1:x<(N:Int))(y0:0<=y)(y1:y<(N:Int)):Ey (M4 s.1 x y)/\(M4 s.1 x y).2.1.length=N/\(M4 s.1 x y).1=s.1.1:=by
 have hx:=h.all x x0 x1;have hy:=h.all y y0 y1;have e1:(M4 s.1 x y).1=s.1.1:=by
  show kz (kz s.1.1 s.1.2.1 x) (kN s.1.1 s.1.2.1 x) y=_;rw[Jr hx,Jr hy]
 have e2:(M4 s.1 x y).2.1=s.1.2.1:=by
  show kN (kz s.1.1 s.1.2.1 x) (kN s.1.1 s.1.2.1 x) y=_;rw[Jr hx,P6 hx,P6 hy]
 exact⟨(h.ok.jn x y).1,by rw[e2];exact h.len,e1⟩
theorem Fy.met (h:Fy ow N s){x i:Int}(hx:(iA ow x).isSome=true):Fy ow N (s.1,lD s.2 x i):=
 ⟨h.ok,h.len,h.all,LD h.kn _ _,λz hz=>by
  have hz:(iA (lD s.2 x i) z).isSome=true:=hz;rw[jT] at hz;split at hz
  .rename_i e;rw[<-e];exact hx
  exact h.sub z hz⟩
theorem C2 (ho:Wh ow N){i:Int}{k:Nat}(hl:0<k->(iA ow (l.getD 0 0)).isSome=true){z:S4×p9}(h:Fy ow N s)(e:uz ow l i s k=some z):Fy ow N z:=by
 unfold uz at e;split at e
 .cases e
 rename_i q;have hx:(iA ow (l.getD k 0)).isSome=true:=by
  cases hq:(iA ow (l.getD k 0)).isSome with
  |true=>rfl
  |false=>exact(q (.inl hq)).elim
 split at e
 .cases e;exact h.met hx
 rename_i hk0;split at e
 .cases e;obtain⟨c0,hc0⟩:=bG.1 (hl (by omega));obtain⟨c1,DP⟩:=bG.1 hx;have b0:=ho.v _ _ hc0;have b1:=ho.v _ _ DP;have hj:=h.jn b0.1 b0.2 b1.1 b1.2;rw[hc0,DP];have h':Fy ow N (M4 s.1 c0 c1,s.2):=⟨hj.1,hj.2.1,λx h0 h1=>by show(iA (M4 s.1 c0 c1).1 x).isSome=true;rw[hj.2.2];exact h.all x h0 h1,h.kn,h.sub⟩;exact h'.met hx
 cases e
theorem ve {i:Int}{k:Nat}(h:runK ow l i s k=none):∀ {m:Nat},k<=m->runK ow l i s m=none
 |0,hm=>by rw[show k=0 by omega] at h;exact h
 |m+1,hm=>by
  by_cases q:k=m+1
  .rw[<-q];exact h
  show(runK ow l i s m).bind _=none;rw[ve h (m:=m) (by omega)];rfl
theorem Ho {k:Nat}(h:qu ow S N k=none):∀ {m:Nat},k<=m->qu ow S N m=none
 |0,hm=>by rw[show k=0 by omega] at h;exact h
 |m+1,hm=>by
  by_cases q:k=m+1
  .rw[<-q];exact h
  show(qu ow S N m).bind _=none;rw[Ho h (m:=m) (by omega)];rfl
theorem vY {i:Int}:∀ {k:Nat} {z:S4×p9},0<k->runK ow l i s k=some z->(iA ow (l.getD 0 0)).isSome=true
 |1,z,_,h=>by
  have h:(some s).bind (λz=>uz ow l i z 0)=some z:=h;have h:uz ow l i s 0=some z:=h;unfold uz at h;split at h
  .cases h
  rename_i q;cases hq:(iA ow (l.getD 0 0)).isSome with
  |true=>rfl
  |false=>exact(q (.inl hq)).elim
 |k+2,z,_,h=>by
  have h:(runK ow l i s (k+1)).bind (λz=>uz ow l i z (k+1))=some z:=h;cases hq:runK ow l i s (k+1) with
  |none=>rw[hq] at h;cases h
  |some y=>exact vY (k:=k+1) (by omega) hq
theorem yg {i:Int}{k:Int}{z:S4×p9}(h0:0<=k)(h:runK ow l i s k.toNat=some z):runK ow l i s (k+1).toNat=uz ow l i z k.toNat:=by
 rw[show(k+1).toNat=k.toNat+1 by omega];show(runK ow l i s k.toNat).bind _=_;rw[h];rfl
theorem Bp {i:Int}{z:S4×p9}(h0:0<=i)(h:qu ow S N i.toNat=some z):qu ow S N (i+1).toNat=uA ow S z i.toNat:=by
 rw[show(i+1).toNat=i.toNat+1 by omega];show(qu ow S N i.toNat).bind _=_;rw[h];rfl
theorem vf {i:Int}{z:S4×p9}(h0:0<=i)(hi:i<(S.length:Int))(h:qu ow S N i.toNat=some z)(hb:uA ow S z i.toNat=none):qu ow S N S.length=none:=
 Ho (k:=(i+1).toNat) (by rw[Bp h0 h];exact hb) (by omega)
theorem Hp {i:Int}{z:S4×p9}(h0:0<=i)(h:((S.getD i.toNat []).length:Int)<2\/(0<i/\(S.getD i.toNat []).getD 0 0<=(S.getD (i-1).toNat []).getD 0 0)):uA ow S z i.toNat=none:=by
 unfold uA;rw[ak];rcases h with h|⟨h1,h2⟩
 .exact .inl (by omega)
 exact .inr ⟨by omega,by rw[show i.toNat-1=(i-1).toNat by omega];exact h2⟩
theorem yh {i:Int}{z:S4×p9}(h0:0<=i)(h:¬(((S.getD i.toNat []).length:Int)<2)/\(¬(0<i)\/¬((S.getD i.toNat []).getD 0 0<=(S.getD (i-1).toNat []).getD 0 0))):uA ow S z i.toNat=runK ow (S.getD i.toNat []) i z (S.getD i.toNat []).length:=by
 unfold uA;rw[ah,cC h0];rintro(q|⟨q1,q2⟩)
 .exact h.1 (by omega)
 rw[show i.toNat-1=(i-1).toNat by omega] at q2;exact h.2.elim (λz=>z (by omega)) λz=>z q2
theorem LU {i k:Int}{z:S4×p9}(h0:0<=k)(h:((iA ow (l.getD k.toNat 0)).isSome=false\/(iA z.2 (l.getD k.toNat 0)).isSome=true)\/(0<k/\l.getD k.toNat 0<=l.getD (k-1).toNat 0)):uz ow l i z k.toNat=none:=by
 unfold uz;rw[ak];rcases h with(h|h)|⟨h1,h2⟩
 .exact .inl h
 .exact .inr (.inl h)
 exact .inr (.inr ⟨by omega,by rw[show k.toNat-1=(k-1).toNat by omega];exact h2⟩)
theorem Hq {i k:Int}{z:S4×p9}(h0:0<=k)(h:((iA ow (l.getD k.toNat 0)).isSome=true/\(iA z.2 (l.getD k.toNat 0)).isSome=false)/\(¬(0<k)\/¬(l.getD k.toNat 0<=l.getD (k-1).toNat 0))):
  uz ow l i z k.toNat=if k=0 then some (z.1,lD z.2 (l.getD k.toNat 0) i) else if jnT z.1 ((iA ow (l.getD 0 0)).getD 0) ((iA ow (l.getD k.toNat 0)).getD 0)=true then some (M4 z.1 ((iA ow (l.getD 0 0)).getD 0) ((iA ow (l.getD k.toNat 0)).getD 0),lD z.2 (l.getD k.toNat 0) i) else none:=by
 unfold uz;rw[ah]
 .by_cases q:k=0
  .rw[ak (by omega),ak q]
  rw[ah (by omega),ah q]
 rintro(q|q|⟨q1,q2⟩)
 .rw[h.1.1] at q;cases q
 .rw[h.1.2] at q;cases q
 rw[show k.toNat-1=(k-1).toNat by omega] at q2;exact h.2.elim (λz=>z (by omega)) λz=>z q2
end
theorem Wi {n:Int}{E:List (Int×Int)}{V L:List Int}{P:tI}{W:List (Int×List Int)}(hp:iM n E V L=0)(hP:Ce E V L P)(hW:Au E V L W):∀ {k:Nat},k<=W.length->∀x c,iA (jL E P W k) x=some c->0<=c/\c<(P.length:Int)
 |0,_,x,c,h=>by cases h
 |k+1,hk,x,c,h=>by
  have h:iA (lD (jL E P W k) (W.getD k (0,[])).1 ((iA (Bo P P.length) (oa E (W.getD k (0,[])))).getD 0)) x=some c:=h;rw[jT] at h;split at h
  .have hm:W.getD k (0,[])∈W:=iT.2 ⟨k,by omega,rfl⟩;obtain⟨i,hi,_,e⟩:=Jn hP (yf hp hW hm);rw[e] at h;have h:(i:Int)=c:=by injection h
   omega
  exact Wi hp hP hW (k:=k) (by omega) x c h
theorem Wh.at_ {ow:p9}{N:Nat}(h:Wh ow N){x:Int}(hx:(iA ow x).isSome=true):0<=(iA ow x).getD 0/\(iA ow x).getD 0<(N:Int):=by
 obtain⟨c,hc⟩:=bG.1 hx;rw[hc];exact h.v _ _ hc
theorem EH {ow:p9}{S:List (List Int)}{N:Nat}:∀ {i:Nat} {z:S4×p9},qu ow S N i=some z->∀j,j<i->2<=(S.getD j []).length
 |0,z,_,j,hj=>by omega
 |i+1,z,h,j,hj=>by
  have h:(qu ow S N i).bind (λs=>uA ow S s i)=some z:=h;cases hq:qu ow S N i with
  |none=>rw[hq] at h;cases h
  |some y=>
   by_cases e:j=i
   .subst e;rw[hq] at h;have h:uA ow S y j=some z:=h;unfold uA at h;split at h
    .cases h
    rename_i q;exact dL λz=>q (.inl z)
   exact EH hq j (by omega)
theorem Wj {n:Int}{E:List (Int×Int)}{V L:List Int}(hp:iM n E V L=0){W:List (Int×List Int)}(h:Au E V L W){w:Int×List Int}(hw:w∈W):(w.2.length=0/\-1<=-1-w.1/\-1-w.1<=1000000)\/(w.2.length≠0/\0<=w.1/\w.1/2<(E.length:Int)/\w.1<=1000000):=by
 obtain⟨hr,hV,hL,o6⟩:=jt hp;obtain⟨r1,r2,r3,r4⟩:=jD hr;rcases h.key w hw with⟨q,z⟩|⟨q,z⟩
 .have:=(jf.1 hV).2 _ z;exact .inl ⟨q,by omega,by omega⟩
 have:=oU hp z;exact .inr ⟨q,by omega,by omega,by omega⟩
theorem vZ {n:Int}{E:List (Int×Int)}{V L:List Int}{T:List (List Int)}(h:ox n E V L T=0):(iy n E V L T).2=0:=by
 rw[uh,<-CZ (V:=V)];unfold ox at h;split at h
 .exact h
 rename_i q;exact ajV.1 q
section
variable {n:Int}{E:List (Int×Int)}{V L:List Int}{T S:List (List Int)}
theorem tj (h:ox n E V L T≠0):th n E V L T S=ox n E V L T:=ak h
theorem oK (h:ox n E V L T=0)(hb:qu (jL E (iF n E V L) (iy n E V L T).1 (iy n E V L T).1.length) S (iF n E V L).length S.length=none):th n E V L T S=7:=by
 unfold th;rw[ah (λq=>q h),hb]
theorem v7 {s:S4×p9}(h:ox n E V L T=0)(hb:qu (jL E (iF n E V L) (iy n E V L T).1 (iy n E V L T).1.length) S (iF n E V L).length S.length=some s):th n E V L T S=if 1<s.1.2.2.2 then 7 else 0:=by
 unfold th;rw[ah (λq=>q h),hb]
end
def wB (n:Int)(E:List (Int×Int))(V L:List Int)(T S:List (List Int)):Int:=if iM n E V L≠0 then iM n E V L else th n E V L T S
abbrev mD:m8:=dS
def FV (E:List m8):List (Int×Int):=E.map λl=>(l.2.1,l.2.2.1)
abbrev acF:Type:=(Int×List (Int×Int))×((List Int×List Int)×(List (List Int)×List (List Int)))
abbrev P7:acF:=((0,[]),(([],[]),([],[])))
def P8 (E:List m8):Prop:=∀j:Nat,(j:Int)<(E.length:Int)->(E.getD j mD).2.2.2=0
noncomputable def jz (K:Int) (W:List ByteArray) (E:List m8) (V L:List Int) (T S:List (List Int)):acF×Int:=
 open Classical in if K=0 then if P8 E then((((W.length:Int),FV E),((V,L),(T,S))),0) else(P7,1) else(P7,16)
theorem qv {α:Type}{E:List α}{d:α}{i:Int}(h0:0<=i)(h1:i<(E.length:Int)):E.take (i+1).toNat=E.take i.toNat++[E.getD i.toNat d]:=by
 rw[show(i+1).toNat=i.toNat+1 by omega,alI,aJ,aY (show i.toNat<E.length by omega)];rfl
theorem LV {E:List m8}{i:Int}(h0:0<=i)(h1:i<(E.length:Int)):FV (E.take (i+1).toNat)=FV (E.take i.toNat)++[((E.getD i.toNat mD).2.1,(E.getD i.toNat mD).2.2.1)]:=by
 rw[qv (d:=mD) h0 h1];unfold FV;rw[cg];rfl
abbrev Av:Type:=List (Int×Int)×(List (Int×Int)×List Int)
def mU (z:Av)(l:m8):Av:=
 if l.2.2.2=0 then(z.1++[(l.2.1,l.2.2.1)],(z.2.1++[(l.2.1,l.2.2.1)],z.2.2++[(z.2.1.length:Int)]))
 else if l.2.2.2=1 then(z.1++[(l.2.1,l.2.2.1)],(z.2.1,z.2.2++[-1])) else(z.1,(z.2.1++[(l.2.1,l.2.2.1)],z.2.2))
def Aw (E:List m8):Av:=E.foldl mU ([],([],[]))
theorem lY {E:List m8}{i:Int}(h0:0<=i)(h1:i<(E.length:Int)):Aw (E.take (i+1).toNat)=mU (Aw (E.take i.toNat)) (E.getD i.toNat mD):=by
 rw[qv (d:=mD) h0 h1];unfold Aw;rw[dH];rfl
theorem P9 (E:List m8):(Aw E).1.length<=E.length/\(Aw E).2.1.length<=E.length/\(Aw E).2.2.length<=E.length:=by
 have key:∀(E:List m8) (z:Av),(E.foldl mU z).1.length<=z.1.length+E.length/\(E.foldl mU z).2.1.length<=z.2.1.length+E.length/\(E.foldl mU z).2.2.length<=z.2.2.length+E.length:=by
  intro E
  induction E with
  |nil=>intro z;simp
  |cons l E ih=>
   intro z;obtain⟨a,b,c⟩:=ih (mU z l);have:(mU z l).1.length<=z.1.length+1/\(mU z l).2.1.length<=z.2.1.length+1/\(mU z l).2.2.length<=z.2.2.length+1:=by
    unfold mU;split
    .simp
    split<;>simp
   simp only[dm,bf];omega
 have:=key E ([],([],[]));simpa[Aw] using this
def Wk (x:Int):Prop:=0<=x/\x<=2
def Wl (E:List m8):Prop:=∀j:Nat,(j:Int)<(E.length:Int)->Wk (E.getD j mD).2.2.2
abbrev acG:Type:=(Int×List (Int×Int))×((Int×List (Int×Int))×List Int)
abbrev Hr:acG:=((0,[]),((0,[]),[]))
noncomputable def jE (K:Int) (W:List ByteArray) (E:List m8) (V L:List Int) (T S:List (List Int)):acG×Int:=
 open Classical in if K=1 then if(V.length:Int)+L.length+T.length+S.length>0 then(Hr,1) else
  if Wl E then((((W.length:Int),(Aw E).1),(((W.length:Int),(Aw E).2.1),(Aw E).2.2)),0) else(Hr,1) else(Hr,16)
theorem EI {K:Int}{W:List ByteArray}{E:List m8}{V L:List Int}{T S:List (List Int)}(h:¬K=0):jz K W E V L T S=(P7,16):=by unfold jz;rw[ah h]
theorem LW {K:Int}{W:List ByteArray}{E:List m8}{V L:List Int}{T S:List (List Int)}{i:Int}(h:K=0)(h0:0<=i)(h1:i<(E.length:Int))(h2:¬(E.getD i.toNat mD).2.2.2=0):jz K W E V L T S=(P7,1):=by
 unfold jz;rw[ak h,ah (λz=>h2 (z i.toNat (by omega)))]
theorem LX {K:Int}{W:List ByteArray}{E:List m8}{V L:List Int}{T S:List (List Int)}{i:Int}(h:K=0)(h1:¬i<(E.length:Int))(h2:∀j:Nat,(j:Int)<i->(E.getD j mD).2.2.2=0):jz K W E V L T S=((((W.length:Int),FV E),((V,L),(T,S))),0):=by
 unfold jz;rw[ak h,ak (show P8 E from λj hj=>h2 j (by omega))]
theorem tq {α:Type}{E:List α}{i:Int}(h:¬i<(E.length:Int)):E.take i.toNat=E:=cM (by omega)
def FW (l:List (List Int))(k:Nat):List (List Int):=l.take k++cy (l.length-k) []
theorem adJ (l:List (List Int)):cy ((l.length:Int)).toNat []=FW l ((0:Int)).toNat:=by simp[FW]
theorem Wm {l:List (List Int)}{i:Int}(h0:0<=i)(h:i<=(l.length:Int)):(FW l i.toNat).length=l.length:=by simp[FW];omega
theorem Wo {l:List (List Int)}{i:Int}(h0:0<=i)(h:i<(l.length:Int)):(FW l i.toNat).set i.toNat (l.getD i.toNat [])=FW l (i+1).toNat:=by
 have hi:i.toNat<l.length:=by omega
 unfold FW;rw[qv (d:=[]) h0 h,anO,ah (by rw[aW];omega),aW,Nat.min_eq_left (by omega),di,show l.length-i.toNat=(l.length-(i+1).toNat)+1 by omega,List.replicate_succ,List.set_cons_zero];simp
theorem Wp {l:List (List Int)}{i:Int}(h:¬i<(l.length:Int)):FW l i.toNat=l:=by
 unfold FW;rw[cM (by omega),show l.length-i.toNat=0 by omega];simp
theorem yj {z:Av}{l:m8}(h:l.2.2.2=0):mU z l=(z.1++[(l.2.1,l.2.2.1)],(z.2.1++[(l.2.1,l.2.2.1)],z.2.2++[(z.2.1.length:Int)])):=ak h
theorem yl {z:Av}{l:m8}(h:l.2.2.2=1):mU z l=(z.1++[(l.2.1,l.2.2.1)],(z.2.1,z.2.2++[-1])):=by unfold mU;rw[ah (by omega),ak h]
theorem yo {z:Av}{l:m8}(h0:¬l.2.2.2=0)(h1:¬l.2.2.2=1):mU z l=(z.1,(z.2.1++[(l.2.1,l.2.2.1)],z.2.2)):=by unfold mU;rw[ah h0,ah h1]
theorem LY (E:List m8)(i:Int):(Aw (E.take i.toNat)).1.length<=E.length/\(Aw (E.take i.toNat)).2.1.length<=E.length/\(Aw (E.take i.toNat)).2.2.length<=E.length:=by
 have h:=P9 (E.take i.toNat);have:(E.take i.toNat).length<=E.length:=by rw[aW];omega
 omega
theorem Wq (l:List Int)(x b:Int):(l++[x]).set (((l++[x]).length:Int)-1).toNat b=l++[b]:=by
 rw[show(((l++[x]).length:Int)-1).toNat=l.length by simp,anO,ah (by omega),di];rfl
section
variable {K:Int}{W:List ByteArray}{E:List m8}{V L:List Int}{T S:List (List Int)}{i:Int}
theorem EJ (h:¬K=1):jE K W E V L T S=(Hr,16):=by unfold jE;rw[ah h]
theorem EK (h:K=1)(h1:0<(V.length:Int)+(L.length:Int)+(T.length:Int)+(S.length:Int)):jE K W E V L T S=(Hr,1):=by unfold jE;rw[ak h,ak h1]
theorem LZ (h:K=1)(h0:0<=i)(h1:i<(E.length:Int))(h2:¬Wk (E.getD i.toNat mD).2.2.2):jE K W E V L T S=(Hr,1):=by
 unfold jE;rw[ak h];split
 .rfl
 rw[ah (λz=>h2 (z i.toNat (by omega)))]
theorem L0 (h:K=1)(h1:¬0<(V.length:Int)+(L.length:Int)+(T.length:Int)+(S.length:Int))(h2:¬i<(E.length:Int))(h3:∀j:Nat,(j:Int)<i->Wk (E.getD j mD).2.2.2):jE K W E V L T S=((((W.length:Int),(Aw E).1),(((W.length:Int),(Aw E).2.1),(Aw E).2.2)),0):=by
 unfold jE;rw[ak h,ah h1,ak (show Wl E from λj hj=>h3 j (by omega))]
end
theorem wks {s:ByteArray}(h:s.size<=1000000:=by omega):mR .str s:=bg (show ByteArray.size s<=1000000 from h) (by decide)
def YX (n:Int)(E:List (Int×Int))(V L:List Int):Int:=if(E.length:Int)>60\/(V.length:Int)>60\/(L.length:Int)>60\/(n>60/\n<=1024) then 0 else 1
def Cf (T:List (List Int))(N:Nat):Bool:=decide (∃j,j<T.length/\N<(T.getD j []).length)
def Su (n:Int)(E:List (Int×Int))(V L:List Int)(T:List (List Int)):Int:=if YX n E V L=0\/(T.length:Int)>100\/Cf T 200=true then 0 else 1
def L3 (n:Int)(E:List (Int×Int))(V L:List Int)(T S:List (List Int)):Int:=if Su n E V L T=0\/(S.length:Int)>60\/Cf S 60=true then 0 else 1
theorem L4 {T:List (List Int)}{N:Nat}{i:Int}(h0:0<=i)(h1:i<(T.length:Int))(h:(N:Int)<((T.getD i.toNat []).length:Int)):Cf T N=true:=bB ⟨i.toNat,by omega,by omega⟩
theorem Qa {T:List (List Int)}{N:Nat}{i:Int}(h1:(T.length:Int)<=i)(h:∀j:Nat,(j:Int)<i->¬(N:Int)<((T.getD j []).length:Int)):Cf T N=false:=bQ λ⟨j,hj,q⟩=>h j (by omega) (by omega)
theorem L5 {T:List (List Int)}{N:Nat}(h:Cf T N=false):∀l∈T,l.length<=N:=λl hl=>by
 obtain⟨j,hj,e⟩:=iT (z:=([]:List Int)).1 hl;refine dL λq=>?_;have:Cf T N=true:=bB ⟨j,hj,by rw[e];exact q⟩;rw[h] at this;cases this
theorem adK {n:Int}{E:List (Int×Int)}{V L:List Int}{T S:List (List Int)}(h:L3 n E V L T S=1):jc T/\jc S:=by
 unfold L3 at h;split at h
 .cases h
 rename_i q;have h6:¬Su n E V L T=0:=λz=>q (.inl z);unfold Su at h6;split at h6
 .exact absurd rfl h6
 rename_i w;have l1:=L5 (T:=T) (N:=200) (by cases hq:Cf T 200;rfl;exact absurd (.inr (.inr hq)) w);have l2:=L5 (T:=S) (N:=60) (by cases hq:Cf S 60;rfl;exact absurd (.inr (.inr hq)) q);have w1:¬(T.length:Int)>100:=λz=>w (.inr (.inl z));have w2:¬(S.length:Int)>60:=λz=>q (.inr (.inl z));exact⟨⟨by omega,λl hl=>bg (l1 l hl) (by decide)⟩,by omega,λl hl=>bg (l2 l hl) (by decide)⟩
def L6 (W:List ByteArray)(N:Nat):Bool:=decide (∃j,j<W.length/\N<(W.getD j ⟨#[]⟩).size)
def L7 (E:List m8)(N:Nat):Bool:=decide (∃j,j<E.length/\N<(E.getD j mD).1.size)
def Bq (W:List ByteArray)(E:List m8)(V L:List Int)(T S:List (List Int)):Int:=
 if((40:Int)<(W.length:Int)\/(40:Int)<(E.length:Int))\/L3 0 [] V L T S=0 then 0 else if L6 W 200=true then 0 else if L7 E 200=true then 0 else 1
section
variable {W:List ByteArray}{E:List m8}{V L:List Int}{T S:List (List Int)}{N:Nat}{i:Int}
theorem Sv (h0:0<=i)(h1:i<(W.length:Int))(h:(N:Int)<((W.getD i.toNat ⟨#[]⟩).size:Int)):L6 W N=true:=bB ⟨i.toNat,by omega,by omega⟩
theorem Wr (h1:¬i<(W.length:Int))(h:∀j:Nat,(j:Int)<i->¬(N:Int)<((W.getD j ⟨#[]⟩).size:Int)):L6 W N=false:=bQ λ⟨j,hj,q⟩=>h j (by omega) (by omega)
theorem Sw (h0:0<=i)(h1:i<(E.length:Int))(h:(N:Int)<((E.getD i.toNat mD).1.size:Int)):L7 E N=true:=bB ⟨i.toNat,by omega,by omega⟩
theorem Ws (h1:¬i<(E.length:Int))(h:∀j:Nat,(j:Int)<i->¬(N:Int)<((E.getD j mD).1.size:Int)):L7 E N=false:=bQ λ⟨j,hj,q⟩=>h j (by omega) (by omega)
theorem aag (h:¬Bq W E V L T S=0):W.length<=40/\E.length<=40/\V.length<=60/\L.length<=60/\jc T/\jc S/\L6 W 200=false/\L7 E 200=false:=by
 unfold Bq at h;split at h
 .exact absurd rfl h
 rename_i q;split at h
 .exact absurd rfl h
 rename_i q2;split at h
 .exact absurd rfl h
 rename_i q3;have h8:L3 0 [] V L T S=1:=by
  have:¬L3 0 [] V L T S=0:=λz=>q (.inr z);unfold L3 at this ⊢;split at this
  .exact absurd rfl this
  rename_i z;rw[ah z]
 obtain⟨z1,z2⟩:=adK h8;have h4:¬YX 0 [] V L=0:=λz=>by
  unfold L3 at h8;rw[ak (.inl (by unfold Su;rw[ak (.inl z)]))] at h8;cases h8
 unfold YX at h4;split at h4
 .exact absurd rfl h4
 rename_i z;refine⟨?_,?_,?_,?_,z1,z2,by simpa using q2,by simpa using q3⟩
 .by_cases y:W.length<=40
  .exact y
  exact absurd (.inl (.inl (by omega))) q
 .by_cases y:E.length<=40
  .exact y
  exact absurd (.inl (.inr (by omega))) q
 .by_cases y:V.length<=60
  .exact y
  exact absurd (.inr (.inl (by omega))) z
 by_cases y:L.length<=60
 .exact y
 exact absurd (.inr (.inr (.inl (by omega)))) z
end
def tw (l:List Int)(x:Int):Int:=if l.findIdx (λy=>decide (y=x))<l.length then((l.findIdx λy=>decide (y=x):Nat):Int) else -1
section
variable {l:List Int}{x:Int}
theorem getD_eq {α:Type}{l:List α}{j:Nat}(h:j<l.length)(d:α):l.getD j d=l[j]:=by rw[aJ,aY h];rfl
theorem aah {i:Int}(h0:0<=i)(h1:i<(l.length:Int))(h2:l.getD i.toNat 0=x)(h3:∀j:Nat,(j:Int)<i->¬l.getD j 0=x):tw l x=i:=by
 have hi:i.toNat<l.length:=by omega
 have h:l.findIdx (λy=>decide (y=x))=i.toNat:=(anP hi).2 ⟨by rw[<-getD_eq hi 0];simpa using h2,λj hj=>by
  have:=h3 j (by omega);rw[getD_eq (show j<l.length by omega)] at this;simpa using this⟩
 unfold tw;rw[h,ak hi];omega
theorem adL (h:∀j:Nat,(j:Int)<(l.length:Int)->¬l.getD j 0=x):tw l x= -1:=by
 unfold tw;rw[ah];intro q;have:=akJ (w:=q);have hj:=h _ (show((l.findIdx λy=>decide (y=x):Nat):Int)<_ by omega);rw[getD_eq q] at hj;exact hj (by simpa using this)
theorem agD: -1<=tw l x/\tw l x<(l.length:Int):=by
 unfold tw;split<;>omega
theorem Js {j:Nat}(hj:j<l.length)(e:l.getD j 0=x):∃i:Nat,tw l x=(i:Int)/\i<=j/\l.getD i 0=x:=by
 have hx:x∈l:=e▸(by rw[getD_eq hj];exact cI hj);have oB:l.findIdx (λy=>decide (y=x))<l.length:=amB ⟨x,hx,by simp⟩;refine⟨l.findIdx λy=>decide (y=x),ak oB,?_,?_⟩
 .refine dL λq=>?_;have:=anQ q;rw[getD_eq hj] at e;simp[e] at this
 rw[getD_eq oB];have:=akJ (w:=oB);simpa using this
theorem aai:0<=tw l x↔x∈l:=by
 constructor
 .intro h;unfold tw at h;split at h
  .rename_i q;have:=akJ (w:=q);have e:l[l.findIdx λy=>decide (y=x)]=x:=by simpa using this
   rw[<-e];exact List.getElem_mem q
  omega
 intro h;obtain⟨j,hj,e⟩:=iT (z:=(0:Int)).1 h;obtain⟨i,h1,_⟩:=Js hj e;omega
theorem adM {i:Int}(h0:0<=i)(hi:i<(l.length:Int))(h:tw l (l.getD i.toNat 0)<i):false=decide l.Nodup:=by
 refine(bQ λhn=>?_).symm;obtain⟨k,h1,h2,h3⟩:=Js (show i.toNat<l.length by omega) rfl;have:=mJ (z:=(0:Int)) hn (by omega) (show i.toNat<l.length by omega) h3;omega
theorem aaj {i:Int}(hi:(l.length:Int)<=i)(h:∀j:Nat,(j:Int)<i->¬tw l (l.getD j 0)<(j:Int)):true=decide l.Nodup:=by
 refine(bB ?_).symm;rw[List.nodup_iff_pairwise_ne,List.pairwise_iff_getElem];intro a b ha hb Cw e;obtain⟨k,h1,h2,_⟩:=Js (x:=l.getD b 0) ha (by rw[getD_eq ha,getD_eq hb];exact e);exact h b (by omega) (by omega)
def Cy (l:List Int)(a:Int):Nat->List Int
 |0=>[]
 |k+1=>Cy l a k++[l.getD ((a+(k:Int))%(l.length:Int)).toNat 0]
theorem Sz {a i:Int}(h:0<=i):Cy l a (i+1).toNat=Cy l a i.toNat++[l.getD ((a+i)%(l.length:Int)).toNat 0]:=by
 rw[show(i+1).toNat=i.toNat+1 by omega];show _++[l.getD ((a+((i.toNat:Nat):Int))%_).toNat 0]=_;rw[Int.toNat_of_nonneg h]
theorem tA (a:Int):∀k,(Cy l a k).length=k
 |0=>rfl
 |k+1=>by
  show(Cy l a k++_).length=_;rw[List.length_append,tA a k];rfl
theorem L8 (a:Int):∀ {k j:Nat},j<k->(Cy l a k).getD j 0=l.getD ((a+(j:Int))%(l.length:Int)).toNat 0
 |k+1,j,h=>by
  show(Cy l a k++_).getD j 0=_;rw[List.getD_eq_getElem?_getD]
  by_cases q:j<k
  .rw[List.getElem?_append_left (by rw[tA];exact q),<-List.getD_eq_getElem?_getD];exact L8 a q
  have:j=k:=by omega
  subst this;rw[List.getElem?_append_right (by rw[tA];exact Nat.le_refl _),tA,Nat.sub_self];rfl
end
def acH (a b:List Int):Prop:=a.length=b.length/\(a.length=0\/∃i,i<b.length/\a=Cy b (i:Int) b.length)
instance (a b:List Int):Decidable (acH a b):=by unfold acH;infer_instance
def sF (r:Int):Prop:=(97<=r/\r<=122)\/(65<=r/\r<=90)\/(192<=r/\r<=591/\r≠215/\r≠247)\/(913<=r/\r<=969/\r≠930)\/(1040<=r/\r<=1103)
instance (r:Int):Decidable (sF r):=by unfold sF;infer_instance
def Jt (r:Int):Bool:=decide (sF r)
theorem tB {r:Int}:Jt r=true↔sF r:=by unfold Jt;exact decide_eq_true_iff
theorem Hs {r:Int}:Jt r=false↔¬sF r:=by unfold Jt;exact decide_eq_false_iff_not
def cls (r:Int):Int:=if sF r then 1 else if 48<=r/\r<=57 then 2 else if r=95\/(8242<=r/\r<=8244) then 3 else if r=32 then 4 else 0
def Ay (r:Int):Bool:=decide (r=10\/(43<=r/\r<=47)\/r=58\/r=124)
theorem qJ {x y:Bool}{w w':aa}(h:x=y)(hb:Below w.heap.size w w'):MU (.bool y) w (.returned (.bool x)) w':=⟨by rw[h],hb⟩
theorem xA {k:IntKind}{x y:Int}{w w':aa}(h:x=y)(hb:Below w.heap.size w w'):MU (.int k y) w (.returned (.int k x)) w':=⟨by rw[h],hb⟩
def tC (s:ByteArray):Nat->Nat->List (Nat×Int)
 |0,_=>[]
 |f+1,pos=>if pos<s.size then(pos,((Utf8.decode s pos).1:Int))::tC s f (pos+(Utf8.decode s pos).2) else[]
def pL (s:ByteArray)(pos:Nat):List (Nat×Int):=tC s (s.size-pos) pos
theorem tD (s:ByteArray)(f pos:Nat)(h:¬pos<s.size):tC s f pos=[]:=by cases f<;>simp[tC,h]
theorem Cg (s:ByteArray):∀(f g pos:Nat),s.size<=pos+f->s.size<=pos+g->tC s f pos=tC s g pos
 |0,g,pos,h1,h2=>by rw[tD s g pos (by omega)];rfl
 |f+1,0,pos,h1,h2=>by rw[tD s (f+1) pos (by omega)];rfl
 |f+1,g+1,pos,h1,h2=>by
  by_cases hp:pos<s.size
  .simp only[tC,ak hp];have hw:=mG s pos hp;rw[Cg s f g _ (by omega) (by omega)]
  rw[tD s _ pos hp,tD s _ pos hp]
theorem jr (s:ByteArray)(pos:Nat)(h:pos<s.size):pL s pos=(pos,((aH s pos).1:Int))::pL s (pos+(aH s pos).2):=by
 unfold pL;obtain⟨f,hf⟩:∃f,s.size-pos=f+1:=⟨s.size-pos-1,by omega⟩;rw[hf];simp only[tC,ak h];have hw:=mG s pos h;rw[Cg s f (s.size-(pos+(aH s pos).2)) _ (by omega) (by omega)]
theorem lQ (s:ByteArray)(pos:Nat)(h:¬pos<s.size):pL s pos=[]:=tD s _ pos h
def lK:List (Nat×Int)->Int->Int->Bool
 |[],n,_=>decide (0<n)
 |(_,r)::l,n,k=>
  if cls r=1 then(if 0<k then false else if 16<n+1 then false else if 3<k then false else lK l (n+1) k)
  else if cls r=2 then(if n+1=1 then false else if 0<k then false else if 16<n+1 then false else if 3<k then false else lK l (n+1) k)
  else if cls r=3 then(if n+1=1 then false else if 16<n+1 then false else if 3<k+1 then false else lK l (n+1) (k+1))
  else false
def ob (s:ByteArray):Bool:=lK (pL s 0) 0 0
def EL:List (Nat×Int)->Int×Bool
 |[]=>(0,false)
 |(p,r)::l=>if cls r=0/\Ay r=false then((p:Int),true) else EL l
def L9 (s:ByteArray):Int×Bool:=EL (pL s 0)
def EM (s:ByteArray):List (Nat×Int)->Int->List (Int×ByteArray)->List (Int×ByteArray)
 |[],b,l=>if 0<=b then l++[(b,s.extract b.toNat s.size)] else l
 |(p,r)::t,b,l=>
  if cls r=4 then(if 0<=b then EM s t (-1) (l++[(b,s.extract b.toNat ((p:Int)).toNat)]) else EM s t b l)
  else(if b<0 then EM s t (p:Int) l else EM s t b l)
def Oh (s:ByteArray):List (Int×ByteArray):=EM s (pL s 0) (-1) []
def xB (c:Int):Option (Int×Int×Int):=
 if 194<=c/\c<224 then some (1,c-192,128) else if 224<=c/\c<240 then some (2,c-224,2048) else if 240<=c/\c<245 then some (3,c-240,65536) else none
def wC (s:ByteArray)(at_:Int):Nat->Int->Int->Option Int
 |0,_,c=>some c
 |k+1,i,c=>if jk s (at_+i)<128\/191<jk s (at_+i) then none else wC s at_ k (i+1) (c*64+jk s (at_+i)-128)
def Ju (n least:Int):Option Int->Int×Int
 |none=>(-1,1)
 |some c=>if c<least\/1114111<c\/(55296<=c/\c<=57343) then(-1,1) else(c,n+1)
def jY (s:ByteArray)(at_:Int):Int×Int:=
 if jk s at_<128 then(jk s at_,1) else
 match xB (jk s at_) with
 |none=>(-1,1)
 |some (n,c,least)=>if(s.size:Int)-at_<=n then(-1,1) else Ju n least (wC s at_ n.toNat 1 c)
theorem tE (s:ByteArray)(i:Int):0<=jk s i/\jk s i<=255:=by
 unfold jk;have:=(s.data.getD i.toNat 0).toNat_lt;omega
theorem zn {c n d l:Int}(h:xB c=some (n,d,l))(hc:c<=255):1<=n/\n<=3/\0<=d/\d<32/\0<=l/\l<=65536/\194<=c:=by
 unfold xB at h
 (repeat' split at h)<;>first|(simp only[bM,cn] at h;omega)|(cases h)
theorem Br {k:IntKind}{x y x' y':Int}{w w':aa}(h:(x',y')=(x,y))(hb:Below w.heap.size w w'):MU (.tuple #[.int k x,.int k y]) w (.returned (.tuple #[.int k x',.int k y'])) w':=by
 simp only[cn] at h;exact⟨by rw[h.1,h.2],hb⟩
theorem Wt {k:IntKind}{x y:Int}{b c:Bool}{w w':aa}(h:x=y/\b=c)(hb:Below w.heap.size w w'):MU (.tuple #[.int k y,.bool c]) w (.returned (.tuple #[.int k x,.bool b])) w':=⟨by rw[h.1,h.2],hb⟩
def FX (l:List ByteArray)(x:ByteArray):Int:=if l.findIdx (λy=>decide (y=x))<l.length then((l.findIdx λy=>decide (y=x):Nat):Int) else -1
abbrev b0:ByteArray:=⟨#[]⟩
section
variable {l:List ByteArray}{x:ByteArray}
theorem Wu {i:Int}(h0:0<=i)(h1:i<(l.length:Int))(h2:l.getD i.toNat b0=x)(h3:∀j:Nat,(j:Int)<i->¬l.getD j b0=x):FX l x=i:=by
 have hi:i.toNat<l.length:=by omega
 have h:l.findIdx (λy=>decide (y=x))=i.toNat:=(anP hi).2 ⟨by rw[<-getD_eq hi b0];simpa using h2,λj hj=>by
  have:=h3 j (by omega);rw[getD_eq (show j<l.length by omega)] at this;simpa using this⟩
 unfold FX;rw[h,ak hi];omega
theorem aak (h:∀j:Nat,(j:Int)<(l.length:Int)->¬l.getD j b0=x):FX l x= -1:=by
 unfold FX;rw[ah];intro q;have:=akJ (w:=q);have hj:=h _ (show((l.findIdx λy=>decide (y=x):Nat):Int)<_ by omega);rw[getD_eq q] at hj;exact hj (by simpa using this)
theorem Qb {j:Nat}(hj:j<l.length)(e:l.getD j b0=x):∃i:Nat,FX l x=(i:Int)/\i<=j/\l.getD i b0=x:=by
 have hx:x∈l:=e▸(by rw[getD_eq hj];exact cI hj);have oB:l.findIdx (λy=>decide (y=x))<l.length:=amB ⟨x,hx,by simp⟩;refine⟨l.findIdx λy=>decide (y=x),ak oB,?_,?_⟩
 .refine dL λq=>?_;have:=anQ q;rw[getD_eq hj] at e;simp[e] at this
 rw[getD_eq oB];have:=akJ (w:=oB);simpa using this
theorem adN {i:Int}(h0:0<=i)(hi:i<(l.length:Int))(h:FX l (l.getD i.toNat b0)<i):¬l.Nodup:=λhn=>by
 obtain⟨k,h1,h2,h3⟩:=Qb (show i.toNat<l.length by omega) rfl;have:=mJ (z:=b0) hn (by omega) (show i.toNat<l.length by omega) h3;omega
theorem C3 {i:Int}(hi:(l.length:Int)<=i)(h:∀j:Nat,(j:Int)<i->¬FX l (l.getD j b0)<(j:Int)):l.Nodup:=by
 rw[alL,dJ];intro a b ha hb Cw e;obtain⟨k,h1,h2,_⟩:=Qb (x:=l.getD b b0) ha (by rw[getD_eq ha,getD_eq hb];exact e);exact h b (by omega) (by omega)
end
abbrev yQ:Type:=List (ByteArray×Int)
def Cz (m:yQ)(x:ByteArray):Option Int:=iI (k:=.str) m x
def Oi (m:yQ)(x:ByteArray)(v:Int):yQ:=nu (k:=.str) m x v
theorem Wv (m:yQ)(y x:ByteArray)(v:Int):Cz (Oi m y v) x=if y=x then some v else Cz m x:=AY (k:=.str) m y x v
theorem Ww (m:yQ)(x:ByteArray)(v:Int):(Oi m x v).length<=m.length+1:=uI (k:=.str) m x v
theorem SA {m:yQ}{x:ByteArray}{v:Int}(h:Cz m x=none):(Oi m x v).length=m.length+1:=(Gj (k:=.str) h).length_eq
structure Ma (vs:List ByteArray)(mt:yQ)(i:Int):Prop where
 mem:∀x,(Cz mt x).isSome=true↔x∈vs.take i.toNat
 le:(vs.take i.toNat).Nodup->(mt.length:Int)=i
 lt:¬(vs.take i.toNat).Nodup->(mt.length:Int)<i
 val:∀x,0<=(Cz mt x).getD 0/\(Cz mt x).getD 0<=i
theorem agE (vs:List ByteArray):Ma vs [] 0:=⟨λx=>⟨λh=>(by cases h),λh=>(by cases h)⟩,λ_=>rfl,λh=>absurd ajW h,λx=>⟨bN _,bN _⟩⟩
theorem EN {α:Type}{l:List α}{x:α}:(l++[x]).Nodup↔l.Nodup/\x∉l:=by
 rw[cY];constructor
 .rintro⟨h1,_,h2⟩;exact⟨h1,λhx=>h2 x hx x (av.2 rfl) rfl⟩
 rintro⟨h1,h2⟩;exact⟨h1,by simp,λa ha b hb e=>by rw[av.1 hb] at e;exact h2 (e▸ha)⟩
theorem SB {mt:yQ}{x:ByteArray}{v:Int}(h:(Cz mt x).isSome=true):(Oi mt x v).length<=mt.length:=by
 obtain⟨u,hu⟩:=bG.1 h;have hm:(x,u)∈mt:=pW (k:=.str) hu;have h1:(Oi mt x v).length=(sw (k:=.str) mt x).length+1:=by unfold Oi nu;exact Dx ..
 rw[h1];have h2:(sw (k:=.str) mt x).length<=mt.length:=T0 (k:=.str) mt x;refine Nat.succ_le_of_lt (Nat.lt_of_le_of_ne h2 λe=>?_);have h3:=List.length_filter_eq_length_iff.1 e _ hm;exact absurd (show x=x from rfl) (aG (Eq.mp (ak0 _) h3))
theorem aal {vs:List ByteArray}{mt:yQ}{i:Int}(h:Ma vs mt i)(h0:0<=i)(h1:i<(vs.length:Int)):Ma vs (Oi mt (vs.getD i.toNat b0) ((Cz mt (vs.getD i.toNat b0)).getD 0+1)) (i+1):=by
 have ht:=qv (d:=b0) h0 h1;generalize hx:vs.getD i.toNat b0=x at*
 have hv:=h.val x;refine⟨λy=>?_,λhn=>?_,λhn=>?_,λy=>?_⟩
 .rw[Wv,ht,aK,av,<-h.mem y]
  by_cases e:x=y
  .rw[ak e];simp[e]
  rw[ah e];exact⟨.inl,λq=>q.resolve_right λz=>e z.symm⟩
 .rw[ht,EN] at hn;have B4:Cz mt x=none:=by
   cases hq:Cz mt x with
   |none=>rfl
   |some u=>exact absurd ((h.mem x).1 (by rw[hq];rfl)) hn.2
  rw[SA B4];have:=h.le hn.1;omega
 .rw[ht,EN] at hn
  by_cases e:(vs.take i.toNat).Nodup
  .have hm:x∈vs.take i.toNat:=bL λz=>hn ⟨e,z⟩;have:=SB (v:=(Cz mt x).getD 0+1) ((h.mem x).2 hm);have:=h.le e;omega
  have:=h.lt e;have:=Ww mt x ((Cz mt x).getD 0+1);omega
 rw[Wv];have:=h.val y
 by_cases e:x=y
 .rw[ak e];simp only[cK];omega
 rw[ah e];omega
theorem aam {vs:List ByteArray}{mt:yQ}{i:Int}(h:Ma vs mt i)(hi:i=(vs.length:Int)):(mt.length:Int)<(vs.length:Int)↔¬vs.Nodup:=by
 have e:vs.take i.toNat=vs:=cM (by omega);constructor
 .intro q hn;have:=h.le (by rw[e];exact hn);omega
 intro hn;have:=h.lt (by rw[e];exact hn);omega
def Mb (a b:List (Int×Int))(s:List Int)(i:Nat):Prop:=s.getD i 0= -1\/(0<=s.getD i 0/\s.getD i 0<(b.length:Int)/\a.getD i (0,0)=b.getD (s.getD i 0).toNat (0,0)/\∀k:Nat,k<i->s.getD k 0≠s.getD i 0)
noncomputable def rN (m:Int) (a:List (Int×Int)) (n:Int) (b:List (Int×Int)) (s:List Int):Int:=
 open Classical in if ¬jm m a=0 then jm m a else if ¬jm n b=0 then jm n b else if ¬m=n\/¬(s.length:Int)=(a.length:Int) then 1 else if ∀i:Nat,(i:Int)<(s.length:Int)->Mb a b s i then 0 else 4
section
variable {m n i:Int}{a b:List (Int×Int)}{s:List Int}
theorem yp (h1:jm m a=0)(h2:jm n b=0)(h3:¬(¬m=n\/¬(s.length:Int)=(a.length:Int)))(h0:0<=i)(hi:i<(s.length:Int))(h:¬Mb a b s i.toNat):rN m a n b s=4:=by
 unfold rN;rw[ah (λq=>q h1),ah (λq=>q h2),ah h3,ah (λq=>h (q i.toNat (by omega)))]
theorem Mc (h1:jm m a=0)(h2:jm n b=0)(h3:¬(¬m=n\/¬(s.length:Int)=(a.length:Int)))(hi:¬i<(s.length:Int))(h:∀j:Nat,(j:Int)<i->Mb a b s j):rN m a n b s=0:=by
 unfold rN;rw[ah (λq=>q h1),ah (λq=>q h2),ah h3,ak (λj hj=>h j (by omega))]
abbrev Ht:Type:=List (Int×Unit)
def EO (s:List Int)(mt:Ht)(i:Int):Prop:=∀x,(iA mt x).isSome=true↔x≠-1/\∃k:Nat,(k:Int)<i/\s.getD k 0=x
theorem aip:EO s [] 0:=λx=>⟨λh=>(by cases h),λ⟨_,k,hk,_⟩=>by omega⟩
theorem aan {mt:Ht}(h0:0<=i)(hi:s.getD i.toNat 0= -1)(h:EO s mt i):EO s mt (i+1):=λx=>by
 rw[h x];constructor
 .rintro⟨q,k,h1,h2⟩;exact⟨q,k,by omega,h2⟩
 rintro⟨q,k,h1,h2⟩;refine⟨q,k,?_,h2⟩
 by_cases e:(k:Int)=i
 .exfalso;apply q;rw[<-h2,show k=i.toNat by omega];exact hi
 omega
theorem adO {mt:Ht}(h0:0<=i)(hi:¬s.getD i.toNat 0= -1)(h:EO s mt i):EO s (lD mt (s.getD i.toNat 0) ()) (i+1):=λx=>by
 rw[jT]
 by_cases e:s.getD i.toNat 0=x
 .rw[ak e];exact⟨λ_=>⟨e▸hi,i.toNat,by omega,e⟩,λ_=>rfl⟩
 rw[ah e,h x];constructor
 .rintro⟨q,k,h1,h2⟩;exact⟨q,k,by omega,h2⟩
 rintro⟨q,k,h1,h2⟩;refine⟨q,k,?_,h2⟩
 by_cases z:(k:Int)=i
 .exfalso;apply e;rw[show i.toNat=k by omega];exact h2
 omega
theorem adP {mt:Ht}(h0:0<=i)(hn:¬s.getD i.toNat 0= -1)(h:EO s mt i)(hs:(iA mt (s.getD i.toNat 0)).isSome=true):¬Mb a b s i.toNat:=λq=>by
 obtain⟨_,k,h1,h2⟩:=(h _).1 hs;rcases q with q|⟨_,_,_,q⟩
 .exact hn q
 exact q k (by omega) h2
theorem Wx (hn:¬s.getD i.toNat 0= -1)(h:(s.getD i.toNat 0<0\/(b.length:Int)<=s.getD i.toNat 0)\/(¬(a.getD i.toNat (0,0)).1=(b.getD (s.getD i.toNat 0).toNat (0,0)).1\/¬(a.getD i.toNat (0,0)).2=(b.getD (s.getD i.toNat 0).toNat (0,0)).2)):¬Mb a b s i.toNat:=λq=>by
 rcases q with q|⟨q1,q2,q3,_⟩
 .exact hn q
 rw[q3] at h;rcases h with h|h|h
 .omega
 .exact h rfl
 exact h rfl
theorem acI (h:(¬s.getD i.toNat 0<0/\¬(b.length:Int)<=s.getD i.toNat 0)/\((a.getD i.toNat (0,0)).1=(b.getD (s.getD i.toNat 0).toNat (0,0)).1/\(a.getD i.toNat (0,0)).2=(b.getD (s.getD i.toNat 0).toNat (0,0)).2))(hk:∀k:Nat,(k:Int)<i->¬s.getD k 0=s.getD i.toNat 0)(h0:0<=i):Mb a b s i.toNat:=
 .inr ⟨by omega,by omega,Prod.ext h.2.1 h.2.2,λk hk'=>hk k (by omega)⟩
end
abbrev tJ (W:List ByteArray)(E:List m8):List ByteArray:=W++E.map (·.1)
noncomputable def nj (K:Int) (W:List ByteArray) (E:List m8) (V L:List Int) (T S:List (List Int)):Int:=
 open Classical in if ¬K=0/\¬K=1 then 16 else if ∃j:Nat,j<(tJ W E).length/\ob ((tJ W E).getD j b0)=false then 11 else if ¬(tJ W E).Nodup then 12 else
  if K=1 then(if ¬(jE K W E V L T S).2=0 then(jE K W E V L T S).2 else rN (jE K W E V L T S).1.1.1 (jE K W E V L T S).1.1.2 (jE K W E V L T S).1.2.1.1 (jE K W E V L T S).1.2.1.2 (jE K W E V L T S).1.2.2)
  else if ¬(jz K W E V L T S).2=0 then(jz K W E V L T S).2 else wB (jz K W E V L T S).1.1.1 (jz K W E V L T S).1.1.2 (jz K W E V L T S).1.2.1.1 (jz K W E V L T S).1.2.1.2 (jz K W E V L T S).1.2.2.1 (jz K W E V L T S).1.2.2.2
section
variable {K:Int}{W:List ByteArray}{E:List m8}{V L:List Int}{T S:List (List Int)}{i:Int}{vs:List ByteArray}
theorem Hu (h:¬K=0/\¬K=1):nj K W E V L T S=16:=by unfold nj;rw[ak h]
theorem Hv (h:¬(¬K=0/\¬K=1))(h0:0<=i)(hi:i<((tJ W E).length:Int))(hn:ob ((tJ W E).getD i.toNat b0)=false):nj K W E V L T S=11:=by
 unfold nj;rw[ah h,ak ⟨i.toNat,by omega,hn⟩]
theorem EP (h:¬(¬K=0/\¬K=1))(hi:¬i<((tJ W E).length:Int))(hn:∀j:Nat,(j:Int)<i->ob ((tJ W E).getD j b0)=true)(ht:¬(tJ W E).Nodup):nj K W E V L T S=12:=by
 unfold nj;rw[ah h,ah (λ⟨j,h1,h2⟩=>by rw[hn j (by omega)] at h2;cases h2),ak ht]
theorem sG (h:¬(¬K=0/\¬K=1))(hi:¬i<((tJ W E).length:Int))(hn:∀j:Nat,(j:Int)<i->ob ((tJ W E).getD j b0)=true)(ht:(tJ W E).Nodup):nj K W E V L T S=
  if K=1 then(if ¬(jE K W E V L T S).2=0 then(jE K W E V L T S).2 else rN (jE K W E V L T S).1.1.1 (jE K W E V L T S).1.1.2 (jE K W E V L T S).1.2.1.1 (jE K W E V L T S).1.2.1.2 (jE K W E V L T S).1.2.2)
  else if ¬(jz K W E V L T S).2=0 then(jz K W E V L T S).2 else wB (jz K W E V L T S).1.1.1 (jz K W E V L T S).1.1.2 (jz K W E V L T S).1.2.1.1 (jz K W E V L T S).1.2.1.2 (jz K W E V L T S).1.2.2.1 (jz K W E V L T S).1.2.2.2:=by
 unfold nj;rw[ah h,ah (λ⟨j,h1,h2⟩=>by rw[hn j (by omega)] at h2;cases h2),ah (λq=>q ht)]
theorem Qc (h0:0<=i)(h1:i<(E.length:Int)):tJ W (E.take (i+1).toNat)=tJ W (E.take i.toNat)++[(E.getD i.toNat mD).1]:=by
 rw[qv (d:=mD) h0 h1];simp[tJ]
theorem Wy (h:¬i<(E.length:Int)):tJ W (E.take i.toNat)=tJ W E:=by rw[tq h]
theorem Qd (hW:∀j:Nat,j<W.length->(W.getD j b0).size<=200)(hE:∀j:Nat,j<E.length->(E.getD j mD).1.size<=200){j:Nat}(hj:j<(tJ W E).length):((tJ W E).getD j b0).size<=200:=by
 have hl:(tJ W E).length=W.length+E.length:=by simp[tJ]
 by_cases q:j<W.length
 .have:(tJ W E).getD j b0=W.getD j b0:=by simp[tJ,List.getD_eq_getElem?_getD,List.getElem?_append_left q]
  rw[this];exact hW j q
 have:(tJ W E).getD j b0=(E.getD (j-W.length) mD).1:=by
  have hk:j-W.length<E.length:=by omega
  simp[tJ,List.getD_eq_getElem?_getD,List.getElem?_append_right (show W.length<=j by omega),hk]
 rw[this];exact hE _ (by omega)
theorem Bt (h:(jz K W E V L T S).2=0):jz K W E V L T S=((((W.length:Int),FV E),((V,L),(T,S))),0):=by
 unfold jz at h ⊢;split at h
 .rename_i q;rw[ak q];split at h
  .rename_i z;rw[ak z]
  cases h
 cases h
theorem Qe:((jE K W E V L T S).1.1.1=0\/(jE K W E V L T S).1.1.1=(W.length:Int))/\((jE K W E V L T S).1.2.1.1=0\/(jE K W E V L T S).1.2.1.1=(W.length:Int)):=by
 unfold jE;split
 .split
  .exact⟨.inl rfl,.inl rfl⟩
  split
  .exact⟨.inr rfl,.inr rfl⟩
  exact⟨.inl rfl,.inl rfl⟩
 exact⟨.inl rfl,.inl rfl⟩
end
theorem agF (E:List m8):∀d∈(Aw E).2.2,-1<=d/\d<=(E.length:Int):=by
 have key:∀(E:List m8) (z:Av) (n:Int),(z.2.1.length:Int)<=n->(∀d∈z.2.2,-1<=d/\d<=n)->∀d∈(E.foldl mU z).2.2,-1<=d/\d<=n+E.length:=by
  intro E
  induction E with
  |nil=>intro z n _ h d hd;have:=h d hd;simp;omega
  |cons l E ih=>
   intro z n hn h d hd;have h1:((mU z l).2.1.length:Int)<=n+1/\∀d∈(mU z l).2.2,-1<=d/\d<=n+1:=by
    unfold mU;split
    .refine⟨by simp;omega,λd hd=>?_⟩;rcases List.mem_append.1 hd with q|q
     .have:=h d q;omega
     have:=List.mem_singleton.1 q;omega
    split
    .refine⟨by dsimp only;omega,λd hd=>?_⟩;rcases List.mem_append.1 hd with q|q
     .have:=h d q;omega
     have:=List.mem_singleton.1 q;omega
    exact⟨by simp;omega,λd hd=>by have:=h d hd;omega⟩
   have:=ih (mU z l) (n+1) h1.1 h1.2 d hd;rw[List.length_cons];omega
 have:=key E ([],([],[])) 0 (by simp) (λd hd=>by cases hd);simpa[Aw] using this
theorem Qf {K:Int}{W:List ByteArray}{E:List m8}{V L:List Int}{T S:List (List Int)}(h:E.length<=1000000):∀d∈(jE K W E V L T S).1.2.2,-9223372036854775808<=d/\d<=9223372036854775807:=by
 unfold jE;split
 .split
  .intro d hd;cases hd
  split
  .intro d hd;have:=agF E d hd;omega
  intro d hd;cases hd
 intro d hd;cases hd
theorem Md {K:Int}{W:List ByteArray}{E:List m8}{V L:List Int}{T S:List (List Int)}(h:E.length<=1000000):(jE K W E V L T S).1.2.2.length<=1000000:=by
 unfold jE;have:=P9 E;split
 .split
  .simp
  split
  .exact Nat.le_trans this.2.2 h
  simp
 simp
def rq (W:List ByteArray)(E:List m8)(d:Int):ByteArray:=
 if d<0 then(if -1-d<(W.length:Int) then W.getD (-1-d).toNat b0 else b0) else if(E.length:Int)<=d/2 then b0 else if d%2=0 then(E.getD (d/2).toNat mD).1++aoq else(E.getD (d/2).toNat mD).1++aor
end Go.Proofs.YtnfdimfepbbbpaaGreatDoor
namespace Go.Proofs
open Go.Shelf
def Tryz.xD:Go.Shelf.Ren:=⟨fun|156=>52|165=>81|166=>51|169=>31|240=>80|241=>114|276=>113|277=>149|n=>n,fun|31=>22|9=>9|3=>3|4=>4|0=>0|20=>20|72=>80|76=>121|70=>77|37=>78|75=>120|127=>127|164=>189|5=>5|80=>87|n=>n,fun|n=>n⟩
theorem Tryz.Jv:Go.Proofs.Lays.n156 aq Tryz.xD:={
 mixed:=by kernel_rfl
 f156:=func52.trans (aL some (by kernel_rfl))
 f165:=func81.trans (aL some (by kernel_rfl))
 f166:=func51.trans (aL some (by kernel_rfl))
 f169:=func31.trans (aL some (by kernel_rfl))
 f240:=func80.trans (aL some (by kernel_rfl))
 f241:=func114.trans (aL some (by kernel_rfl))
 f276:=func113.trans (aL some (by kernel_rfl))
 f277:=func149.trans (aL some (by kernel_rfl))
 t0:=Tryz.underlying0
 a0:=Tryz.isAgg0
 z0:=Tryz.sizeOf0
 v0:=Tryz.zeroValue0
 t3:=Tryz.underlying3
 a3:=Tryz.isAgg3
 z3:=Tryz.sizeOf3
 v3:=Tryz.zeroValue3
 t4:=Tryz.underlying4
 a4:=Tryz.isAgg4
 z4:=Tryz.sizeOf4
 v4:=Tryz.zeroValue4
 t9:=Tryz.underlying9
 a9:=Tryz.isAgg9
 z9:=Tryz.sizeOf9
 v9:=Tryz.zeroValue9
 t20:=Tryz.underlying20
 a20:=Tryz.isAgg20
 z20:=Tryz.sizeOf20
 v20:=Tryz.zeroValue20
 t31:=Tryz.underlying22
 a31:=Tryz.isAgg22
 z31:=Tryz.sizeOf22
 v31:=Tryz.zeroValue22
 t37:=Tryz.underlying78
 a37:=Tryz.isAgg78
 z37:=Tryz.sizeOf78
 v37:=Tryz.zeroValue78
 t70:=Tryz.underlying77
 a70:=Tryz.isAgg77
 z70:=Tryz.sizeOf77
 v70:=Tryz.zeroValue77
 t72:=Tryz.underlying80
 a72:=Tryz.isAgg80
 z72:=Tryz.sizeOf80
 v72:=Tryz.zeroValue80
 t75:=Tryz.underlying120
 a75:=Tryz.isAgg120
 z75:=Tryz.sizeOf120
 v75:=Tryz.zeroValue120
 t76:=Tryz.underlying121
 a76:=Tryz.isAgg121
 z76:=Tryz.sizeOf121
 v76:=Tryz.zeroValue121
 t127:=Tryz.underlying127
 a127:=Tryz.isAgg127
 z127:=Tryz.sizeOf127
 v127:=Tryz.zeroValue127
 t164:=Tryz.underlying189
 a164:=Tryz.isAgg189
 z164:=Tryz.sizeOf189
 v164:=Tryz.zeroValue189}
theorem Tryz.qw:Builder.Extra aq Tryz.xD:={
 sizeBuilder:=by kernel_rfl
 liesBuilder:=by kernel_rfl
 t5:=Tryz.underlying5
 a5:=Tryz.isAgg5
 z5:=Tryz.sizeOf5
 v5:=Tryz.zeroValue5
 infoByte:=by kernel_rfl
 cellsByte:=by kernel_rfl
 sizeByte:=by kernel_rfl
 neB5:=by decide}
open Go.RowKit in
theorem Tryz.strings_Join_none (a:Option Addr)(c:Nat)(sep:ByteArray)(w:aa):
 Calls aq 52 #[.slice a 0 c,.string sep] w λe w'=>e= .returned (.string ⟨#[]⟩)/\w'=w:=Any.strings_Join_none Tryz.Jv Tryz.qw a c sep w
open Go.RowKit in
theorem Tryz.strings_Join (bk o c:Nat)(xs:List ByteArray)(sep:ByteArray)(w:aa)(y6:∀(j:Nat) x,xs[j]?=some x->w.cell? ⟨bk,o+j,none⟩=some (.string x))(Me:bk<w.heap.size)(hN:xs.length<=140737488355328)(aiq:xs.length<=c)(hlen:(ajX (xs.map (·.data.toList)) sep.data.toList).length<=140737488355328):
 Calls aq 52 #[.slice (some ⟨bk,o,none⟩) xs.length c,.string sep] w λe w'=>e= .returned (.string ⟨(ajX (xs.map (·.data.toList)) sep.data.toList).toArray⟩)/\Below w.heap.size w w':=Any.strings_Join Tryz.Jv Tryz.qw bk o c xs sep w y6 Me hN aiq hlen
open Go.RowKit in
theorem Tryz.ER (b:Nat)(w:aa)(h0:w.cell? ⟨b,0,none⟩=some (.pointer (some ⟨b,0,none⟩))):Calls aq 80 #[.pointer (some ⟨b,0,none⟩)] w λe w'=>e= .returned (.tuple #[])/\w'=w:=Any.Builder_copyCheck_used (ρ:=Tryz.xD) {Tryz.Jv with} Tryz.qw.toX72 b w h0
def Tryz.FY:Go.Shelf.Ren:=⟨fun|15=>48|n=>n,fun|22=>24|3=>3|4=>4|n=>n,fun|n=>n⟩
theorem Tryz.Bu:Go.Proofs.Lays2.n15 aq Tryz.FY:={
 mixed:=by kernel_rfl
 f15:=func48.trans (aL some (by kernel_rfl))
 t3:=Tryz.underlying3
 a3:=Tryz.isAgg3
 z3:=Tryz.sizeOf3
 v3:=Tryz.zeroValue3
 t4:=Tryz.underlying4
 a4:=Tryz.isAgg4
 z4:=Tryz.sizeOf4
 v4:=Tryz.zeroValue4
 t22:=Tryz.underlying24
 a22:=Tryz.isAgg24
 z22:=Tryz.sizeOf24
 v22:=Tryz.zeroValue24
 i3:=by kernel_rfl}
open Go.RowKit Go.Lib in
theorem Tryz.slices_Clone_int (b off n c:Nat)(zs:List Int)(w:aa)(hz:n<=zs.length)(adQ:n*8<=140737488355328)(hc:∀j,j<zs.length->w.cell? ⟨b,off+j,none⟩=some (.int .i64 (zs.getD j 0))):
 Calls aq 48 #[.slice (some ⟨b,off,none⟩) n c] w λe w'=> ∃v',e= .returned v'/\w'.ownsRow w.heap.size 3 1 v' n ((zs.take n).map (bY .i64))/\v'≠.slice none 0 0/\Below w.heap.size w w':=Any.slices_Clone_int Tryz.Bu b off n c zs w hz adQ hc
open Go.RowKit Go.Lib in
theorem Tryz.slices_Clone_int_nil (n c:Nat)(w:aa):
 Calls aq 48 #[.slice none n c] w λe w'=>e= .returned (.slice none 0 0)/\w'=w:=Any.slices_Clone_int_nil Tryz.Bu n c w
def Tryz.FZ:Go.Shelf.Ren:=⟨fun|16=>39|n=>n,fun|24=>22|9=>9|4=>4|n=>n,fun|n=>n⟩
theorem Tryz.Bv:Go.Proofs.Lays2.n16 aq Tryz.FZ:={
 mixed:=by kernel_rfl
 f16:=func39.trans (aL some (by kernel_rfl))
 t4:=Tryz.underlying4
 a4:=Tryz.isAgg4
 z4:=Tryz.sizeOf4
 v4:=Tryz.zeroValue4
 t9:=Tryz.underlying9
 a9:=Tryz.isAgg9
 z9:=Tryz.sizeOf9
 v9:=Tryz.zeroValue9
 t24:=Tryz.underlying22
 a24:=Tryz.isAgg22
 z24:=Tryz.sizeOf22
 v24:=Tryz.zeroValue22
 i9:=by kernel_rfl}
open Go.RowKit Go.Lib in
theorem Tryz.slices_Clone_string (b off n c:Nat)(zs:List ByteArray)(w:aa)(hz:n<=zs.length)(adQ:n*16<=140737488355328)(hc:∀j,j<zs.length->w.cell? ⟨b,off+j,none⟩=some (.string (zs.getD j ByteArray.empty))):
 Calls aq 39 #[.slice (some ⟨b,off,none⟩) n c] w λe w'=> ∃v',e= .returned v'/\w'.ownsRow w.heap.size 9 1 v' n ((zs.take n).map (Value.string))/\v'≠.slice none 0 0/\Below w.heap.size w w':=Any.slices_Clone_string Tryz.Bv b off n c zs w hz adQ hc
open Go.RowKit Go.Lib in
theorem Tryz.slices_Clone_string_nil (n c:Nat)(w:aa):
 Calls aq 39 #[.slice none n c] w λe w'=>e= .returned (.slice none 0 0)/\w'=w:=Any.slices_Clone_string_nil Tryz.Bv n c w
open Go.RowKit Go.Lib in
theorem Tryz.slices_Clone_int_zero (a:Addr)(c:Nat)(w:aa):
 Calls aq 48 #[.slice (some a) 0 c] w λe w'=> ∃v',e= .returned v'/\w'.ownsRow w.heap.size 3 1 v' 0 []/\v'≠.slice none 0 0/\Below w.heap.size w w':=Any.slices_Clone_int_zero Tryz.Bu a c w
open Go.RowKit Go.Lib in
theorem Tryz.slices_Clone_string_zero (a:Addr)(c:Nat)(w:aa):
 Calls aq 39 #[.slice (some a) 0 c] w λe w'=> ∃v',e= .returned v'/\w'.ownsRow w.heap.size 9 1 v' 0 []/\v'≠.slice none 0 0/\Below w.heap.size w w':=Any.slices_Clone_string_zero Tryz.Bv a c w
def Tryz.Mf:Go.Shelf.Ren:=⟨fun|189=>69|125=>93|257=>92|128=>130|129=>131|294=>121|295=>122|296=>123|297=>124|298=>125|299=>126|216=>127|300=>128|301=>129|328=>155|329=>156|330=>157|331=>158|332=>159|215=>160|343=>175|n=>n,fun|28=>24|3=>3|46=>170|0=>0|51=>206|53=>208|4=>4|183=>200|182=>199|131=>91|5=>5|9=>9|218=>234|222=>238|228=>249|229=>158|n=>n,fun|n=>n⟩
theorem Tryz.Qg:Go.Proofs.Lays.n189 aq Tryz.Mf:={
 mixed:=by kernel_rfl
 f125:=func93.trans (aL some (by kernel_rfl))
 f128:=func130.trans (aL some (by kernel_rfl))
 f129:=func131.trans (aL some (by kernel_rfl))
 f189:=func69.trans (aL some (by kernel_rfl))
 f215:=func160.trans (aL some (by kernel_rfl))
 f216:=func127.trans (aL some (by kernel_rfl))
 f257:=func92.trans (aL some (by kernel_rfl))
 f294:=func121.trans (aL some (by kernel_rfl))
 f295:=func122.trans (aL some (by kernel_rfl))
 f296:=func123.trans (aL some (by kernel_rfl))
 f297:=func124.trans (aL some (by kernel_rfl))
 f298:=func125.trans (aL some (by kernel_rfl))
 f299:=func126.trans (aL some (by kernel_rfl))
 f300:=func128.trans (aL some (by kernel_rfl))
 f301:=func129.trans (aL some (by kernel_rfl))
 f328:=func155.trans (aL some (by kernel_rfl))
 f329:=func156.trans (aL some (by kernel_rfl))
 f330:=func157.trans (aL some (by kernel_rfl))
 f331:=func158.trans (aL some (by kernel_rfl))
 f332:=func159.trans (aL some (by kernel_rfl))
 f343:=func175.trans (aL some (by kernel_rfl))
 t0:=Tryz.underlying0
 a0:=Tryz.isAgg0
 z0:=Tryz.sizeOf0
 v0:=Tryz.zeroValue0
 t3:=Tryz.underlying3
 a3:=Tryz.isAgg3
 z3:=Tryz.sizeOf3
 v3:=Tryz.zeroValue3
 t4:=Tryz.underlying4
 a4:=Tryz.isAgg4
 z4:=Tryz.sizeOf4
 v4:=Tryz.zeroValue4
 t5:=Tryz.underlying5
 a5:=Tryz.isAgg5
 z5:=Tryz.sizeOf5
 v5:=Tryz.zeroValue5
 t9:=Tryz.underlying9
 a9:=Tryz.isAgg9
 z9:=Tryz.sizeOf9
 v9:=Tryz.zeroValue9
 t28:=Tryz.underlying24
 a28:=Tryz.isAgg24
 z28:=Tryz.sizeOf24
 v28:=Tryz.zeroValue24
 t46:=Tryz.underlying170
 a46:=Tryz.isAgg170
 z46:=Tryz.sizeOf170
 v46:=Tryz.zeroValue170
 t51:=Tryz.underlying206
 a51:=Tryz.isAgg206
 z51:=Tryz.sizeOf206
 v51:=Tryz.zeroValue206
 t53:=Tryz.underlying208
 a53:=Tryz.isAgg208
 z53:=Tryz.sizeOf208
 v53:=Tryz.zeroValue208
 t131:=Tryz.underlying91
 a131:=Tryz.isAgg91
 z131:=Tryz.sizeOf91
 v131:=Tryz.zeroValue91
 t182:=Tryz.underlying199
 a182:=Tryz.isAgg199
 z182:=Tryz.sizeOf199
 v182:=Tryz.zeroValue199
 t183:=Tryz.underlying200
 a183:=Tryz.isAgg200
 z183:=Tryz.sizeOf200
 v183:=Tryz.zeroValue200
 t218:=Tryz.underlying234
 a218:=Tryz.isAgg234
 z218:=Tryz.sizeOf234
 v218:=Tryz.zeroValue234
 t222:=Tryz.underlying238
 a222:=Tryz.isAgg238
 z222:=Tryz.sizeOf238
 v222:=Tryz.zeroValue238
 t228:=Tryz.underlying249
 a228:=Tryz.isAgg249
 z228:=Tryz.sizeOf249
 v228:=Tryz.zeroValue249
 t229:=Tryz.underlying158
 a229:=Tryz.isAgg158
 z229:=Tryz.sizeOf158
 v229:=Tryz.zeroValue158}
open Go.Sort Go.RowKit in
theorem Tryz.slices_Sort_int (lV off cap:Nat)(zs:List Int)(w:aa)(hH:Holds (bY .i64) w lV off zs.toArray)(Uz:lV<w.heap.size)(mu:zs.length<4611686018427387904):
 Calls aq 69 #[.slice (some ⟨lV,off,none⟩) zs.length cap] w λe w'=>
  e= .returned (.tuple #[])/\∃n os,w'=grow (putRow (bY .i64) (Sort.ahead w n) lV off (zs.mergeSort λx y=>decide (x<=y)).toArray) os:=Any.slices_Sort_int Tryz.Qg lV off cap zs w hH Uz mu
open Go.RowKit Go.Sort in
theorem Tryz.slices_Sort_int_none (p:Option Addr)(cap:Nat)(w:aa):
 Calls aq 69 #[.slice p 0 cap] w λe w'=>e= .returned (.tuple #[])/\w'=w:=Any.slices_Sort_int_none Tryz.Qg p cap w
def Tryz.Hw:Go.Shelf.Ren:=⟨fun|7=>67|10=>88|n=>n,fun|23=>95|26=>3|3=>124|28=>138|0=>0|27=>137|33=>162|4=>4|n=>n,fun|n=>n⟩
theorem Tryz.agG:Go.Proofs.SlLaysZI.n7 aq Tryz.Hw:={
 mixed:=by kernel_rfl
 f7:=⟨f67.name,by decide,func67.trans (aL some (by kernel_rfl))⟩
 f10:=⟨f88.name,by decide,func88.trans (aL some (by kernel_rfl))⟩
 t0:=Tryz.underlying0
 a0:=Tryz.isAgg0
 z0:=Tryz.sizeOf0
 v0:=Tryz.zeroValue0
 t4:=Tryz.underlying4
 a4:=Tryz.isAgg4
 z4:=Tryz.sizeOf4
 v4:=Tryz.zeroValue4
 t23:=Tryz.underlying95
 a23:=Tryz.isAgg95
 z23:=Tryz.sizeOf95
 v23:=Tryz.zeroValue95
 t26:=Tryz.underlying3
 a26:=Tryz.isAgg3
 z26:=Tryz.sizeOf3
 v26:=Tryz.zeroValue3
 t27:=Tryz.underlying137
 a27:=Tryz.isAgg137
 z27:=Tryz.sizeOf137
 v27:=Tryz.zeroValue137
 t28:=Tryz.underlying138
 a28:=Tryz.isAgg138
 z28:=Tryz.sizeOf138
 v28:=Tryz.zeroValue138
 t33:=Tryz.underlying162
 a33:=Tryz.isAgg162
 z33:=Tryz.sizeOf162
 v33:=Tryz.zeroValue162}
def Tryz.Ch:Go.Shelf.Ren:=⟨fun|6=>66|8=>87|9=>69|11=>117|13=>93|12=>92|23=>130|24=>131|14=>121|15=>122|16=>123|17=>124|18=>125|19=>126|20=>127|21=>128|22=>129|25=>155|26=>156|27=>157|28=>158|29=>159|30=>160|31=>175|n=>n,fun|26=>3|28=>138|24=>24|0=>0|3=>3|37=>170|48=>206|50=>208|4=>4|40=>200|39=>199|45=>91|5=>5|9=>9|51=>234|55=>238|57=>249|58=>158|33=>162|n=>n,fun|n=>n⟩
theorem Tryz.aao:Go.Proofs.SlLaysZI.n6 aq Tryz.Ch:={
 mixed:=by kernel_rfl
 f6:=⟨f66.name,by decide,func66.trans (aL some (by kernel_rfl))⟩
 f8:=⟨f87.name,by decide,func87.trans (aL some (by kernel_rfl))⟩
 f11:=⟨f117.name,by decide,func117.trans (aL some (by kernel_rfl))⟩
 t0:=Tryz.underlying0
 a0:=Tryz.isAgg0
 z0:=Tryz.sizeOf0
 v0:=Tryz.zeroValue0
 t24:=Tryz.underlying24
 a24:=Tryz.isAgg24
 z24:=Tryz.sizeOf24
 v24:=Tryz.zeroValue24
 t26:=Tryz.underlying3
 a26:=Tryz.isAgg3
 z26:=Tryz.sizeOf3
 v26:=Tryz.zeroValue3
 t28:=Tryz.underlying138
 a28:=Tryz.isAgg138
 z28:=Tryz.sizeOf138
 v28:=Tryz.zeroValue138
 i26:=by kernel_rfl}
end Go.Proofs
namespace Go.Proofs.YtnfdimfepbbbpaaGreatDoor
open Go.RowKit Go.Lib
abbrev bdT:ax:=80
def BdT (T:ax):Prop:=liesAt aq Tryz.prog.depth T (2/Tryz.prog.cellsOf T) 0 bdT 1=true
theorem adR:BdT 82:=by unfold BdT;kernel_rfl
theorem aap:(Tryz.prog.info? bdT).map (·.size)=some 2:=by kernel_rfl
theorem aaq:(Tryz.prog.info? 5).map (λi=>(i.zero,i.size,i.bytes))=some (some (.int .u8 0),1,1):=by kernel_rfl
section
variable {P:ay}
theorem aar (w:aa)(t u ty e:ax)(i:TypeInfo)(ht:P.underlying t=some (.slice e))(hu:P.underlying u=some .string)(hi:P.info? e=some i)(hz:i.zero=some (.int .u8 0))
  (ru:i.size=1) (CE:i.bytes=1) (v:af) (n:Nat) (xs:List af) (kY:w.ownsRow 0 e 1 v n xs) (s:ByteArray) (Tj:n+s.size<=1000000):
  ∃v' w',(ajP #[t,u] ty #[v,.string s]).run P w= .ok v' w'/\w'.ownsRow 0 e 1 v' (n+s.size) (xs++strCells s)/\w.grownBy w' v.ownBlock/\(∀k,v'.ownBlock=some k->v.ownBlock=some k\/w.heap.size<=k):=by
 have hm:n+s.size<=maxLen:=bg Tj (by decide);obtain⟨v',w',hr,h2,h3,h4⟩:=run_append_own_string (P:=P) w 0 t u ty e i ht hu hi hz ru CE v n xs kY s hm (by omega) (bF _);refine⟨v',w',hr,h2,h3,?_⟩;rcases kY.2 with⟨rfl,rfl⟩|⟨g,cap,cur,rfl,hbg,hg,M7,wM,kF,qg⟩
 .obtain⟨v2,w2,C4,k2,_,_⟩:=run_append_own_string (P:=P) w w.heap.size t u ty e i ht hu hi hz ru CE (.slice none 0 0) 0 xs ⟨kY.1,.inl ⟨rfl,rfl⟩⟩ s hm (by omega) (az _);rw[hr] at C4;cases C4;exact λk hk=>.inr (k2.lt k hk).1
 by_cases zG:n+s.size<=cap
 .have DU:cur.size=cap:=by simpa using kF
  have C4:=run_append_room_string (P:=P) w t u ty e i ht hu hi ru g n cap cur hg s zG (by omega);rw[hr] at C4;cases C4;exact λk hk=>.inl hk
 have holds:∀j u,xs[j]?=some u->w.cell? ((⟨g,0,none⟩:Addr).add j)=some u:=kY.cells (g:=g) rfl;have C4:=run_append_grow_string (P:=P) w t u ty e i (.int .u8 0) ht hu hi hz ⟨g,0,none⟩ n cap xs (by rw[ru];simpa using kY.1) holds s (by omega) (by omega) (by rw[CE];exact growslice_fits (by omega) (by omega));rw[hr] at C4;cases C4;exact λk hk=>by cases hk;exact .inr (az _)
theorem ES {ops:Array Oper}{rest:List Oper}{o:Oper}{a:Act}{w:aa}{Q:Exit->Act->aa->Prop}(hgd:o.guard=none)(sl x:Operand)(t u:ax)
  (ho:o.op= .call {callee:=.builtin .append,args:= #[sl,x],argTypes:= #[t,u]}) (e:ax) (i:TypeInfo) (ht:P.underlying t=some (.slice e)) (hu:P.underlying u=some .string) (hi:P.info? e=some i) (hz:i.zero=some (.int .u8 0))
  (ru:i.size=1) (CE:i.bytes=1) (v:af) (n:Nat) (xs:List af) (hs:a.eval sl=v) (kY:w.ownsRow 0 e 1 v n xs) (s:ByteArray) (hx:a.eval x= .string s) (Tj:n+s.size<=1000000)
  (h:∀v' w',w'.ownsRow 0 e 1 v' (n+s.size) (xs++strCells s)->w.grownBy w' v.ownBlock->(∀k,v'.ownBlock=some k->v.ownBlock=some k\/w.heap.size<=k)->wpList P ops Q rest (a.put o.dst v') w'):wpList P ops Q (o::rest) a w:=by
 refine wpList_plain hgd λK hK=>?_;obtain⟨v',w',hr,h2,h3,h4⟩:=aar (P:=P) w t u o.type e i ht hu hi hz ru CE v n xs kY s Tj;unfold Oper.wp execOp;simp only[ho,resolve,invoke,builtin,Sem.run_bind,Sem.run_pure,bV,List.map_toArray,bn,List.map_nil,hs,hx,hr];exact hK _ _ (h v' w' h2 h3 h4)
end
theorem Wz {T:ax}(hT:BdT T)(b:Nat)(w:aa)(h0:w.cell? ⟨b,0,none⟩=some (.pointer none))(hsh:w.shape? b=some (T,2))(hfz:w.frozen? ⟨b,0,none⟩=false):
  Calls aq 80 #[.pointer (some ⟨b,0,none⟩)] w λe w'=>e= .returned (.tuple #[])/\w'=w.setCell ⟨b,0,none⟩ (.pointer (some ⟨b,0,none⟩)):=by
 obtain⟨j,hj,hjs⟩:=aX.1 aap
 go_enter func80,Tryz.ntmps80
 go_wp2
 rw[run_to_unsafe w ⟨b,0,none⟩ Tryz.underlying77 Tryz.underlying189 hj (by rw[hjs];decide) hsh (Nat.zero_lt_succ 1)];simp only[bO];rw[akk]
 go_wp2
 rw[run_callFunc_extern func113 (by kernel_rfl) (by kernel_rfl) (by kernel_rfl) (e:=aoi) (by kernel_rfl)];rw[run_noEscape];simp only[bO];rw[akk]
 go_wp2
 rw[run_from_unsafe w ⟨b,0,none⟩ Tryz.underlying189 Tryz.underlying77 hj hsh hT];simp only[bO];rw[akk]
 go_wp2
 go_end0
 exact⟨rfl,rfl⟩
theorem Bw {w:aa}{b:Nat}{T:ax}{p v:af}(Me:w.heap[b]?=some (.cells #[p,v] T (0,0))):w.cell? ⟨b,0,none⟩=some p/\w.cell? ⟨b,1,none⟩=some v/\w.shape? b=some (T,2)/\w.frozen? ⟨b,0,none⟩=false/\w.frozen? ⟨b,1,none⟩=false/\b<w.heap.size:=by
 refine⟨by rw[cell_of_heap Me];rfl,by rw[cell_of_heap Me];rfl,by simp[anR,Me],frozen_of_heap Me 0,frozen_of_heap Me 1,(cJ.1 Me).1⟩
theorem Ci (w:aa)(b i:Nat)(u:af):qA w (w.setCell ⟨b,i,none⟩ u) (· =b):=⟨rfl,rfl,rfl,by simp,λk _ hn=>heap_setCell_other w _ k u hn⟩
theorem adS {T:ax}(hT:BdT T)(b:Nat)(p v:af)(w:aa)(Me:w.heap[b]?=some (.cells #[p,v] T (0,0)))(hp:p= .pointer none\/p= .pointer (some ⟨b,0,none⟩)):
  Calls aq 80 #[.pointer (some ⟨b,0,none⟩)] w λe w'=>e= .returned (.tuple #[])/\w'.heap[b]?=some (.cells #[.pointer (some ⟨b,0,none⟩),v] T (0,0))/\qA w w' (· =b)/\w'.heap.size=w.heap.size:=by
 obtain⟨c0,c1,hsh,f0,f1,oB⟩:=Bw Me;rcases hp with rfl|rfl
 .refine(Wz hT b w c0 hsh f0).mono ?_;rintro e w' ⟨rfl,rfl⟩;exact⟨rfl,by rw[heap_setCell_same w b 0 _ _ _ Me];rfl,Ci _ _ _ _,by simp⟩
 refine(Tryz.ER b w c0).mono ?_;rintro e w' ⟨rfl,rfl⟩;exact⟨rfl,Me,qA.refl _ _,rfl⟩
theorem WA (s t:ByteArray):zP (s++t)=zP s++strCells t:=by
 unfold zP strCells;rw[show(s++t).data.toList=s.data.toList++t.data.toList by rw[akK,Array.toList_append],cg]
theorem WB (s t:ByteArray):(s++t).size=s.size+t.size:=ByteArray.size_append
theorem adT {T:ax}(hT:BdT T)(hTe:T≠5)(b:Nat)(p v:af)(s t:ByteArray)(w:aa)(Me:w.heap[b]?=some (.cells #[p,v] T (0,0)))(hp:p= .pointer none\/p= .pointer (some ⟨b,0,none⟩))
  (kY:w.ownsRow 0 5 1 v s.size (zP s)) (hlen:s.size+t.size<=1000000):
  Calls aq 51 #[.pointer (some ⟨b,0,none⟩),.string t] w λe w'=>e= .returned (.tuple #[.int .i64 t.size,.nilIface])/\∃v',w'.heap[b]?=some (.cells #[.pointer (some ⟨b,0,none⟩),v'] T (0,0))/\
   w'.ownsRow 0 5 1 v' (s++t).size (zP (s++t))/\v'.ownBlock≠some b/\qA w w' (λk=>k=b\/v.ownBlock=some k)/\(∀k,v'.ownBlock=some k->v.ownBlock=some k\/w.heap.size<=k):=by
 obtain⟨i0,hi,hz0,YW,hz2⟩:=info_parts aaq;have mc:v.ownBlock≠some b:=ownBlock_ne kY Me hTe
 go_enter func51,Tryz.ntmps51
 go_wp2_with (go_at_call 80;refine(adS hT b p v _ Me hp).mono ?_)
 rintro e w1 ⟨rfl,agH,DP,hz⟩;have agI:w1.ownsRow 0 5 1 v s.size (zP s):=vC kY λk hk=>DP.block k (kY.lt k hk).2 λe=>mc (e▸hk);obtain⟨c0,c1,hsh,f0,f1,oB⟩:=Bw agH
 go_wp2_with (at_builtin;refine ES rfl _ _ 78 9 rfl 5 i0 Tryz.underlying78 Tryz.underlying9 hi hz0 YW hz2 _ _ _ rfl agI t rfl hlen ?_)
 intro v' w2 WC Hy wQ;have Fq:w2.heap[b]?=some (.cells #[.pointer (some ⟨b,0,none⟩),v] T (0,0)):=by
  rw[Hy.block b oB (λe=>mc e.symm)];exact agH
 obtain⟨d0,d1,ajy,g0,g1,ajz⟩:=Bw Fq;have Cq:v'.ownBlock≠some b:=ownBlock_ne WC Fq hTe;obtain⟨ao,n',cap,rfl⟩:∃ao n' cap,v'= .slice ao n' cap:=by
  rcases WC.2 with⟨hv,_⟩|⟨g,cap,cur,hv,_⟩
  .exact⟨_,_,_,hv⟩
  exact⟨_,_,_,hv⟩
 go_wp2
 go_ret2
 refine⟨rfl,.slice ao n' cap,?_,?_,Cq,?_,λk hk=>(wQ k hk).imp id λq=>by omega⟩
 .rw[heap_setCell_same w2 b 1 _ _ _ Fq];rfl
 .rw[WB,WA];exact vC WC λk hk=>heap_setCell_other w2 _ k _ λe=>Cq (by have e:k=b:=e;rw[<-e];exact hk)
 have h2:qA w1 w2 (λk=>k=b\/v.ownBlock=some k):=⟨Hy.os,Hy.tape,Hy.output,Hy.size,λk hk hn=>Hy.block k hk λe=>hn (.inr e.symm)⟩;have h1:qA w w1 (λk=>k=b\/v.ownBlock=some k):=⟨DP.os,DP.tape,DP.output,DP.size,λk hk hn=>DP.block k hk λe=>hn (.inl e)⟩;have h3:=Ci w2 b 1 (.slice ao n' cap);exact(h1.trans h2 λ_ _ q=>q).trans ⟨h3.os,h3.tape,h3.output,h3.size,λk hk hn=>h3.block k hk λe=>hn (.inl e)⟩ λ_ _ q=>q
theorem Bx (w:aa)(g k:Nat):qA w (w.freeze ⟨g,0,none⟩ k) (· =g):=by
 have h:=below_freeze (Below.refl g w) (p:=⟨g,0,none⟩) (az g) k;refine⟨h.os,h.tape,h.output,h.size,λj hj hn=>?_⟩;unfold World.freeze;split
 .rfl
 simp[Array.getElem?_modify,Ne.symm hn]
theorem aas {T:ax}(b:Nat)(p v:af)(s:ByteArray)(w:aa)(Me:w.heap[b]?=some (.cells #[p,v] T (0,0)))(kY:w.ownsRow 0 5 1 v s.size (zP s))(h0:0<s.size)(hlen:s.size<=1000000):
  Calls aq 31 #[.pointer (some ⟨b,0,none⟩)] w λe w'=>e= .returned (.string s)/\qA w w' (λk=>v.ownBlock=some k):=by
 obtain⟨g,cap,cur,rfl,hbg,hg,M7,wM,kF,qg⟩:∃g cap cur,v= .slice (some ⟨g,0,none⟩) s.size cap/\0<=g/\w.heap[g]?=some (.cells cur 5 (0,0))/\s.size<=cap/\cap<=maxLen/\cur.size=cap*1/\cur.toList.take (s.size*1)=zP s:=by
  rcases kY.2 with⟨_,hz⟩|⟨g,cap,cur,hv,r⟩
  .omega
  exact⟨g,cap,cur,hv,r⟩
 have hl:s.data.toList≠[]:=by
  intro e;have:s.size=0:=by show s.data.size=0;rw[<-cw,e];rfl
  omega
 have hls:s.data.toList.length=s.size:=cw;have c1:w.drew.cell? ⟨b,1,none⟩=some (.slice (some ⟨g,0,none⟩) s.size cap):=by
  have:w.drew.heap[b]?=some (.cells #[p,.slice (some ⟨g,0,none⟩) s.size cap] T (0,0)):=Me;rw[cell_of_heap this];rfl
 have hSD:(Builtin.unsafeSliceData_ #[78] 127 #[.slice (some ⟨g,0,none⟩) s.size cap]).run aq w.drew= .ok (.pointer (some ⟨g,0,none⟩)) w.drew:=
  run_unsafeSliceData_row _ _ _ _ _ _ (by omega)
 have hUS:(Builtin.unsafeString_ #[127,3] 9 #[.pointer (some ⟨g,0,none⟩),.int .i64 s.size]).run aq w.drew= .ok (.string s) (w.drew.freeze ⟨g,0,none⟩ s.size):=by
  have:=run_unsafeString_row (P:=aq) w.drew 127 3 9 5 Tryz.underlying127 (by kernel_rfl) g cur.size (by have hg':w.drew.heap[g]?=some (.cells cur 5 (0,0)):=hg;simp[anR,hg']) s.data.toList hl (by omega) (by omega) (λj x hx=>by
   have:=kY.cells (g:=g) rfl j (.int .u8 x.toNat) (by simp only[zP,b9,hx];rfl);exact this)
  rw[hls] at this;exact this
 have mixed:Tryz.prog.follows .mixedOrders=true:=by kernel_rfl
 go_enter func31,Tryz.ntmps31
 go_wp2
 go_region_o
 all_goals (go_wp2;go_ret;exact⟨rfl,let h:=Bx w.drew g s.size;⟨h.os,h.tape,h.output,h.size,λk hk hn=>h.block k hk λe=>hn (by rw[e];rfl)⟩⟩)
section
variable {o:jw}{n:Nat}{A A':jA}{S S':iD}{F:Nat->Prop}{s:Nat->Option E2}{r:Nat->Option R2}{a:Act}{w w':aa}{b j:Nat}
abbrev WD (t:ByteArray):Sy:=.tN [(false,[.v (.int .i64 (t.size:Int))]),(false,[.v .nilIface])]
theorem Qh {T:ax}(hT:BdT T)(hTe:T≠5)(H:kD o n A S F s r a w)(hF:¬F b){c0 c1:Sc}(hx:r j=some (.box T [c0,c1]))(hp:c0.den A= .pointer none\/c0.den A= .pointer (some ⟨A.b j,0,none⟩)){v:af}{q t:ByteArray}
  (hv:c1.den A=v) (kY:w.ownsRow 0 5 1 v q.size (zP q)) {old:List (Nat×Option R2)} (hold:(old=[]/\v.ownBlock=none)\/∃k,old=[(k,none)]/\r k=some (.ext (.sJ 5 q))/\v=A.v k/\k≠j) (hlen:q.size+t.size<=1000000) (cs:List Prop):
  Calls aq 51 #[.pointer (some ⟨A.b j,0,none⟩),.string t] w λe w'=> ∃v',e= .returned v'/\mL o n F s r a ⟨cs,[],WD t,(j,some (.box T [.ptr j 0,.own b]))::(b,some (.ext (.sJ 5 (q++t))))::old⟩ v' w':=by
 have zK:w.heap[A.b j]?=some (.cells #[c0.den A,c1.den A] T (0,0)):=H.jl.ok j _ (show ji A r j=some _ by simp[ji,hx];rfl);have J3:=(H.kP j _ hx).1;have hjb:j≠b:=λe=>hF (e▸J3);rw[hv] at zK;refine(adT hT hTe (A.b j) _ v q t w zK hp kY hlen).mono ?_;rintro e w' ⟨rfl,v',h1,h2,h3,h4,h5⟩;refine⟨_,rfl,?_⟩;obtain⟨p',n',c',TH⟩:∃p n c,v'= .slice p n c:=by
  rcases h2.2 with⟨h,_⟩|⟨g,cap,cur,h,_⟩
  .exact⟨_,_,_,h⟩
  exact⟨_,_,_,h⟩
 have BQ:=kZ.set (A:=A) hF p' n' c' 0;have hbj:(A.set b p' n' c' 0).b j=A.b j:=(BQ j J3).2.1.symm;have J4:(A.set b p' n' c' 0).v b=v':=by rw[jA.si,TH]
 have agJ:∀k,v.ownBlock=some k->n9 A r (λi=> ∃z,(i,z)∈(j,some (R2.box T [.ptr j 0,.own b]))::(b,some (.ext (.sJ 5 (q++t))))::old/\i≠b) k:=λk hk=>by
  rcases hold with⟨_,h⟩|⟨i,rfl,hi,rfl,J2⟩
  .rw[h] at hk;cases hk
  have hFi:=(H.kP i _ hi).1;exact⟨i,_,⟨none,by simp,λe=>hF (e▸hFi)⟩,hi,hk⟩
 have hHj:n9 A r (λi=> ∃z,(i,z)∈(j,some (R2.box T [.ptr j 0,.own b]))::(b,some (.ext (.sJ 5 (q++t))))::old/\i≠b) (A.b j):=⟨j,_,⟨_,aE,hjb⟩,hx,rfl⟩;have pN:qA w w' (n9 A r (λi=> ∃z,(i,z)∈(j,some (R2.box T [.ptr j 0,.own b]))::(b,some (.ext (.sJ 5 (q++t))))::old/\i≠b)):=
  ⟨h4.os,h4.tape,h4.output,h4.size,λk hk hn=>h4.block k hk λe=>hn (e.elim (λe=>e▸hHj) λe=>agJ k e)⟩
 have WE:∀ {i:Nat} {z:R2},(i,some z)∈(j,some (R2.box T [.ptr j 0,.own b]))::(b,some (.ext (.sJ 5 (q++t))))::old->(i=j/\z= .box T [.ptr j 0,.own b])\/(i=b/\z= .ext (.sJ 5 (q++t))):=λ{i z} h=>by
  rcases aD.1 h with h|h
  .cases h;exact .inl ⟨rfl,rfl⟩
  rcases aD.1 h with h|h
  .cases h;exact .inr ⟨rfl,rfl⟩
  rcases hold with⟨rfl,_⟩|⟨k,rfl,_⟩
  .cases h
  rcases aD.1 h with h|h
  .cases h
  cases h
 refine⟨A.set b p' n' c' 0,S,H.swap BQ _ (λi ⟨z,hz,_⟩=>⟨z,hz⟩) pN (λ_ h=>h) (λ_ h=>.inl h) (λi z hi=>?_) (λi i' z z' c hi Fu k1 k2=>?_),rfl,(λp hp c hc=>?_),(λp hp c hc=>?_)⟩
 .rcases WE hi with⟨rfl,rfl⟩|⟨rfl,rfl⟩
  .refine⟨λc hc=>?_,λc hc=>?_,rfl,?_,λc hc=>?_⟩
   .rcases aD.1 hc with rfl|hc
    .exact .inr ⟨_,aE⟩
    have:=av.1 hc;subst this;exact .inr ⟨_,aI _ aE⟩
   .rcases aD.1 hc with rfl|hc
    .trivial
    have:=av.1 hc;subst this;trivial
   .show w'.heap[(A.set b p' n' c' 0).b i]?=some (.cells #[.pointer (some ⟨(A.set b p' n' c' 0).b i,0,none⟩),(A.set b p' n' c' 0).v b] T (0,0));rw[hbj,J4];exact h1
   have hc:some ((A.set b p' n' c' 0).b i)=some c:=hc;cases hc;rw[hbj];exact⟨.inl hHj,(cJ.1 h1).1⟩
  refine⟨tv,tv,rfl,?_,λc hc=>?_⟩
  .show w'.ownsRow 0 5 1 ((A.set i p' n' c' 0).v i) _ _;rw[J4];exact h2
  have hc:((A.set i p' n' c' 0).v i).ownBlock=some c:=hc;rw[J4] at hc;exact⟨(h5 c hc).imp (agJ c) id,(h2.lt c hc).2⟩
 .rcases WE hi with⟨rfl,rfl⟩|⟨rfl,rfl⟩<;>rcases WE Fu with⟨rfl,rfl⟩|⟨rfl,rfl⟩
  .rfl
  .have k1:some ((A.set i' p' n' c' 0).b i)=some c:=k1;have k2:((A.set i' p' n' c' 0).v i').ownBlock=some c:=k2;cases k1;rw[J4,hbj] at k2;exact absurd k2 h3
  .have k1:((A.set i p' n' c' 0).v i).ownBlock=some c:=k1;have k2:some ((A.set i p' n' c' 0).b i')=some c:=k2;cases k2;rw[J4,hbj] at k1;exact absurd k1 h3
  rfl
 .rcases aD.1 hp with rfl|hp
  .have:=av.1 hc;subst this;trivial
  have:=av.1 hp;subst this;have:=av.1 hc;subst this;trivial
 rcases aD.1 hp with rfl|hp
 .have:=av.1 hc;subst this;trivial
 have:=av.1 hp;subst this;have:=av.1 hc;subst this;trivial
def wsT (T:ax)(b:Nat)(ko:List (Nat×Nat))(ys:List Sy):Tr Out:=match ko,ys with
 |[],[.one (.ptr j 0),.one (.v (.string t))]=>.res j λx=>match x with
  | .box T' [c0,c1]=>jb (aP T' T && (match c0 with| .v (.pointer none)=>true| .ptr i 0=>aP i j|_=>false)) (match c1 with
   | .v (.slice none 0 0)=>.ret ⟨[t.size<=1000000],[],WD t,[(j,some (.box T [.ptr j 0,.own b])),(b,some (.ext (.sJ 5 t)))]⟩
   | .own k=>.res k λy=>match y with
    | .ext (.sJ e q)=>jb (aP e 5 && !Nat.beq k j) (.ret ⟨[q.size+t.size<=1000000],[],WD t,[(j,some (.box T [.ptr j 0,.own b])),(b,some (.ext (.sJ 5 (q++t)))),(k,none)]⟩)
    |_=>.fail
   |_=>.fail)
  |_=>.fail
 |_,_=>.fail
theorem agK {T:ax}(hT:BdT T)(hTe:T≠5):zS aq 51 (wsT T):=by
 intro o n A S F s r a w b B ko ys out H hF YO BZ h kF tP hB;unfold wsT at h;split at h
 .rename_i j t;obtain⟨x,hx,h⟩:=iW h;split at h
  .rename_i T' c0 c1;obtain⟨hg,h⟩:=iB h;rw[aR] at hg;have⟨g1,g2⟩:=hg;have g1:=jP g1;subst g1;have hp:c0.den A= .pointer none\/c0.den A= .pointer (some ⟨A.b j,0,none⟩):=by
    split at g2
    .exact .inl rfl
    .have:=jP g2;subst this;exact .inr rfl
    cases g2
   have hbF:(∀p∈out.re,p.1<B)->(b,some (R2.ext (.sJ 5 t)))∈out.re\/(∃z,(b,z)∈out.re)->¬F b:=λh1 h2=>by
    rcases h2 with h2|⟨z,h2⟩
    .exact hF b (az _) (h1 _ h2)
    exact hF b (az _) (h1 _ h2)
   split at h
   .have e:=iX h;subst e;have hb:=hbF hB (.inr ⟨_,aI _ aE⟩);have hl:t.size<=1000000:=kF _ (av.2 rfl);have:=Qh hT hTe H hb hx hp (v:=.slice none 0 0) (q:=⟨#[]⟩) (t:=t) rfl (World.ownsRow_nil w 0 _ 1) (old:=[]) (.inl ⟨rfl,rfl⟩) (by show 0+t.size<=1000000;omega) [t.size<=1000000];rw[show(⟨#[]⟩:ByteArray)++t=t from by apply ByteArray.ext;rw[akK];simp] at this;exact this
   .rename_i k _;obtain⟨y,hy,h⟩:=iW h;split at h
    .rename_i e q;obtain⟨hg,h2⟩:=iB h;clear h;rw[aR,ak0] at hg;have g3:=jP hg.1;subst g3;have g4:k≠j:=λe=>by rw[e] at hg;simp at hg
     have e:=iX h2;subst e;have hb:=hbF hB (.inr ⟨_,aI _ aE⟩);have hl:q.size+t.size<=1000000:=kF _ (av.2 rfl);have kY:w.ownsRow 0 5 1 (A.v k) q.size (zP q):=H.jl.ok k _ (show ji A r k=some _ by simp[ji,hy];rfl);exact Qh hT hTe H hb hx hp (v:=A.v k) rfl kY (.inr ⟨k,rfl,hy,rfl,g4⟩) hl [q.size+t.size<=1000000]
    cases h
   cases h
  cases h
 cases h
def agL:kI aq:=⟨_,_,agK adR (by decide)⟩
def agM (T:ax)(b:Nat)(ko:List (Nat×Nat))(ys:List Sy):Tr Out:=match ko,ys with
 |[],[.one (.ptr j 0)]=>.res j λx=>match x with
  | .box T' [c0,.own k]=>.res k λy=>match y with
   | .ext (.sJ e q)=>jb (aP e 5) (.ret ⟨[0<q.size/\q.size<=1000000],[],.one (.v (.string q)),[(k,none)]⟩)
   |_=>.fail
  |_=>.fail
 |_,_=>.fail
theorem adU {T:ax}:zS aq 31 (agM T):=by
 intro o n A S F s r a w b B ko ys out H hF YO BZ h kF tP hB;unfold agM at h;split at h
 .rename_i j;obtain⟨x,hx,h⟩:=iW h;split at h
  .rename_i T' c0 k;obtain⟨y,hy,h⟩:=iW h;split at h
   .rename_i e q;obtain⟨hg,h2⟩:=iB h;clear h;have g3:=jP hg;subst g3;have e:=iX h2;subst e;obtain⟨h0,hl⟩:0<q.size/\q.size<=1000000:=kF _ (av.2 rfl);have kY:w.ownsRow 0 5 1 (A.v k) q.size (zP q):=H.jl.ok k _ (show ji A r k=some _ by simp[ji,hy];rfl);have zK:w.heap[A.b j]?=some (.cells #[c0.den A,A.v k] T' (0,0)):=H.jl.ok j _ (show ji A r j=some _ by simp[ji,hx];rfl);refine(aas (A.b j) _ _ q w zK kY h0 hl).mono ?_;rintro e w' ⟨rfl,hc⟩;refine⟨_,rfl,A,S,H.swap (kZ.refl _ _) (· =k) (λi hi=>⟨none,by rw[hi];exact av.2 rfl⟩) ⟨hc.os,hc.tape,hc.output,hc.size,λc hk hn=>hc.block c hk λe=>hn ⟨k,_,rfl,hy,e⟩⟩ (λ_ h=>h) (λ_ h=>.inl h) (λi z hi=>?_) (λi i' z z' c hi Fu k1 k2=>?_),rfl,tv,tv⟩
    .cases av.1 hi
    cases av.1 hi
   cases h
  cases h
 cases h
def Mg:kI aq:=⟨_,_,adU (T:=0)⟩
def jd (l:List ByteArray)(sep:ByteArray):ByteArray:=⟨(ajX (l.map (·.data.toList)) sep.data.toList).toArray⟩
theorem WG {S:iD}{w:aa}{v:af}{s:ByteArray}(h:Rd S w v s):v= .string s:=by
 obtain⟨cs,h,rfl⟩:=h;have h:cs=[.string s]:=h;subst h;rfl
theorem aat:je aq 52 [(false,.list .str),(false,.str)] [.str] (λx=>(show List ByteArray from x.1).length<=1000000/\(jd (show List ByteArray from x.1) (show ByteArray from x.2.1)).size<=1000000) (λx=>(jd (show List ByteArray from x.1) (show ByteArray from x.2.1),())):=by
 intro o vs x hx hd
 match vs,x,hx,hd with
 |[v1,v2],((l:List ByteArray),(sep:ByteArray),_),hx,hd=>
  obtain⟨hl,hd⟩:l.length<=1000000/\(jd l sep).size<=1000000:=hd;have hz:(jd l sep).size=(ajX (l.map (·.data.toList)) sep.data.toList).length:=by show Array.size _=_;simp[jd]
  have e:=WG (s:=sep) hx.2.1;subst e;obtain⟨p,c,rfl,h1,h2,h3⟩:=jV (show Rd (· <o.w.heap.size) o.w v1 l from hx.1);have goal:Calls aq 52 #[.slice p l.length c,.string sep] o.w (λe w'=>e= .returned (.string (jd l sep))/\Below o.w.heap.size o.w w'):=by
   rcases h3 with rfl|⟨g,off,cur,t,fz,rfl,hg,hw,hc⟩
   .exact(Tryz.strings_Join_none p c _ o.w).mono λe w' ⟨he,hw⟩=>⟨he,hw▸Below.refl _ _⟩
   refine Tryz.strings_Join g off c l _ o.w (λj y hy=>?_) hg (by omega) h1 (by omega);obtain⟨hj,rfl⟩:=bW.1 hy;obtain⟨cs,hr,hq⟩:=hc j hj;have hr:cs=[.string l[j]]:=hr;have:=hq 0 (show 0<1 by decide);rw[hr] at this;rw[cell_of_row o.w g _ cur t fz hw];have e:off+j*Data.size ByteArray+0=off+j:=by show off+j*1+0=_;omega
   rw[e] at this;rw[this];rfl
  exact goal.mono λe w' ⟨h1,h2⟩=>⟨_,h1,⟨[.string _],rfl,rfl⟩,h2⟩
def Qi:kI aq:=plain aat
end
end Go.Proofs.YtnfdimfepbbbpaaGreatDoor
