/- Texts joined by program: lemmas. -/
import Derived.Test.YtnfdimfepbbbpaaGreatDoorJFileAgain2
import Derived.Test.YtnfdimfepbbbpaaGreatDoorProg
import Derived.Tactics
import Derived.Tactics2
import Derived.Defers
import Derived.Recover
import Derived.Laws.Pointers
import Derived.Lib.SlicesCompact
import Derived.Lib.RowBridge
import Derived.Shelf.Strings.Builder1
import Derived.Shelf.Strings.OnBuilder
import Derived.Ground.NamesProg
import Derived.Ground.Names2Prog
import Derived.Shelf.Slices.Clone
import Derived.Shelf.Sort.Plain
import Derived.Shelf.Slices.In.SortNone
import Derived.Shelf.Strings.SlTrimAscii
import Derived.Shelf.Strings.Prefix
import Derived.Shelf.SlIterI.Nil
import Derived.Ground.GgzProg
import Derived.Deep.RegionWith
set_option linter.unusedSimpArgs false
set_option linter.unusedVariables false
set_option maxRecDepth 100000
set_option maxHeartbeats 8000000
open Array renaming getElem?_eq_some_iff->di,length_toList->cU
open Bool renaming true->aC,false->aD,and_eq_true->bB,not_eq_true'->aoQ,or_eq_true->e7
open ByteArray renaming data_append->dD,ext->fc,size_append->apB
open Classical renaming byContradiction->dg
open Decidable renaming decide->aE
open Go renaming execOp->aG,Calls->aI,bodyPost->aJ,cell_of_row->aK,World->aN,Value->aO,TypeId->aV,Program->aY,Oper->bf,Ending->bY,FuncId->bI
open Go.Builtin renaming append_->anz
open Go.Deferred renaming ofValue->aoK
open Go.Extern.AbiNoEscape renaming same->ar5
open Go.Instr renaming lookup->eR
open Go.Lib renaming join->anJ
open Go.Oper renaming upon_value->aob
open Go.Proofs.Tryz renaming prog->aR
open Go.Region renaming wanted->dh
open Go.Result renaming andThen->cy,andThen_ok->cG
open Go.Utf8 renaming decode->bn
open Go.Value renaming agg->aoS,int->cj,pointer->cO
open Go.World renaming shape?->art
open Int renaming le_refl->bM,le_total->aoX,max_eq_left->apv,max_eq_right->apu,min_eq_left->apw,min_eq_right->apx,natCast_nonneg->dB,toNat_natCast->dw,toNat_of_nonneg->eM
open List renaming length->aM,all_cons->apY,all_eq_true->bG,append_assoc->cx,append_nil->bW,ext_getElem->anG,filter_append->aqe,filter_cons_of_neg->aqf,filter_cons_of_pos->arp,findIdx_lt_length_of_exists->ars,flatMap_append->anZ,flatMap_cons->dc,flatten_append->aqb,flatten_cons->aqc,flatten_nil->aqd,foldl_append->eO,foldl_cons->anH,foldl_nil->ari,getD_eq_getElem?_getD->bD,getElem?_append_left->eY,getElem?_append_right->dP,getElem?_eq_getElem->bN,getElem?_eq_some_iff->cF,getElem?_map->cY,getElem?_take->cE,getElem?_zip_eq_some->aoW,getElem_mem->dY,getElem_of_mem->anL,intercalate->aru,length_append->bA,length_cons->b7,length_drop->b9,length_filter_le->apj,length_map->bH,length_nil->cK,length_set->cq,length_singleton->dS,length_take->bJ,map->apt,map_append->cA,map_congr_left->dm,map_cons->bO,map_map->cz,map_nil->cC,mem_append->bE,mem_append_left->bU,mem_append_right->bV,mem_cons->bg,mem_cons_of_mem->bl,mem_cons_self->aZ,mem_filter->bX,mem_flatMap->cQ,mem_iff_getElem?->anw,mem_map->bz,mem_of_getElem?->cn,mem_of_mem_take->dQ,mem_or_eq_of_mem_set->aoT,mem_range->de,mem_singleton->aU,nodup_append->an5,nodup_cons->anM,nodup_nil->anI,pairwise_iff_getElem->anx,range->bT,range_succ->aoA,replicate->dA,set_append->arq,take_add_one->apz,take_append_drop->eW,take_length->cg,take_of_length_le->dI,take_succ_eq_append_getElem->dV,take_zero->dJ
open List.Sublist renaming map->ar4
open List.cons renaming inj->eZ
open Nat renaming add_mod_right->arl,beq->bp,blt->bP,blt_eq->cw,le_of_not_lt->aon,le_refl->aW,le_trans->bC,lt_of_lt_of_le->bR,lt_succ_self->dU,mod_add_mod->arn,mod_eq_of_lt->aox,mod_lt->anv,sub_self->dx,sub_zero->aqa,succ_le_succ->apP,succ_mul->cL,zero_add->cZ,zero_le->bQ
open Option renaming some->az,none->aA,getD_some->eV,isSome_iff_exists->bS,map_eq_some_iff->bF
open Option.some renaming inj->b5
open Prod renaming ext->apy
open _root_ renaming List->aa,Int->af,Nat->ah,Option->ai,ByteArray->aj,Bool->ak,Array->aq,True->av,Decidable->ax,absurd->ay
open Go.Proofs.Tryz
namespace Go.Proofs.YtnfdimfepbbbpaaGreatDoor
open Go.RowKit
inductive Cp where
 |int
 |bool
 |str
 |own (j:ah)
 |mp (j:ah)
 |ptr (j off:ah)
 |sR (f:bI) (kH:aa (ah×ah))
 |X9
 |Ya
def CpV:Cp->Type
 | .int=>af
 | .bool=>ak
 | .str=>aj
 |_=>Unit
def Cp.sc:(c:Cp)->CpV c->Sc
 | .int,n=>.v (.int .i64 n)
 | .bool,b=>.b (.raw b)
 | .str,s=>.v (.string s)
 | .own j,_=>.own j
 | .mp j,_=>.mp j
 | .ptr j off,_=>.ptr j off
 | .sR f kH,_=>.sR f kH
 | .X9,_=>.v (.pointer aA)
 | .Ya,_=>.v (.slice aA 0 0)
def Cp.below (k:ah):Cp->ak
 | .own j=>bP j k
 | .mp j=>bP j k
 | .ptr j _=>bP j k
 | .sR _ kH=>kH.all λc=>bP c.1 k
 |_=>aC
def Ht:aa Cp->Type
 |[]=>Unit
 |c::cs=>CpV c×Ht cs
def p8:(cs:aa Cp)->Ht cs->aa Sc
 |[],_=>[]
 |c::cs,x=>c.sc x.1::p8 cs x.2
inductive Pc where
 |box (t:aV) (cs:aa Cp)
 |row (e:aV) (t:Ty)
 |map (k:Kc) (t:Ty)
 |rd (t:Ty)
 |uV (e:aV)
 |any
 |Er
 |mj (q:ah) (k:Kc) (t:Ty) (ie:aV)
 |nest (q:ah) (e:aV) (t:Ty) (ie:aV)
def Pc.agw:Pc->ak
 | .rd _=>aC
 | .any=>aC
 |_=>aD
def Pc.skip:Pc->ak
 | .any=>aC
 | .Er=>aC
 |_=>aD
def Hu (l:aa Pc)(j:ah):ak:=match l[j]? with
 |some s=>s.agw
 |none=>aD
def PcV:Pc->Type
 | .box _ cs=>Ht cs
 | .row _ t=>aa (El t)
 | .map k t=>jw k (El t)
 | .rd t=>aa (El t)
 | .uV _=>aj
 | .any=>Unit
 | .Er=>Unit
 | .mj _ k t _=>jw k (aa (El t))
 | .nest _ _ t _=>aa (El t)
def Pc.r2:(s:Pc)->PcV s->R2
 | .box t cs,x=>.box t (p8 cs x)
 | .row e t,l=>.row e t l
 | .map k t,m=>.map k t m
 | .rd t,l=>.ar t l
 | .uV e,l=>.ext (.uV e l)
 | .any,_=>.box 0 []
 | .Er,_=>.box 0 []
 | .mj q k t ie,m=>.ext (.mj q k aA t ie m)
 | .nest q e t ie,l=>.ext (.nest q aA e t ie l)
def Pc.below (k:ah):Pc->ak
 | .box _ cs=>cs.all (Cp.below k)
 | .mj q _ _ _=>bP q k
 | .nest q _ _ _=>bP q k
 |_=>aC
def BL:aa Pc->Type
 |[]=>Unit
 |s::l=>PcV s×BL l
def mJ:ah->(l:aa Pc)->BL l->aa (ah×ai R2)
 |_,[],_=>[]
 |i,s::l,x=>match s.skip with
  |true=>mJ (i+1) l x.2
  |false=>(i,az (s.r2 x.1))::mJ (i+1) l x.2
structure sM where
 sh:aa Pc
 ar:aa Cp
 vu:aa Pc
 rs:aa Cp
 kp:ah
 ag:ak
 ga:aa (ai ah)
def sM.X (m:sM):Type:=BL m.sh×Ht m.ar
def sM.Y (m:sM):Type:=BL m.vu×Ht m.rs
def syl (ag:ak)(cs:aa Sc):aa Sy:=match ag with
 |false=>cs.map Sy.one
 |true=>[.agg cs]
def Kn:aa (ai ah)->aa Sc->aa Sy
 |none::g,c::cs=>.one c::Kn g cs
 |none::_,[]=>[]
 |some k::g,cs=>.agg (cs.take k)::Kn g (cs.drop k)
 |[],cs=>cs.map Sy.one
def sM.rsy (m:sM)(y:m.Y):aa Sy:=syl m.ag (p8 m.rs y.2)
def jO.AR (o:jO)(A:jU)(kp:ah):jO:={o with pF:=λj=>j<kp,pA:=A,kp:=kp}
def PN (o:jO)(A:jU)(m:sM)(y:m.Y)(e:bY)(w':aN):Prop:=
 ∃v,e= .returned v/\∃A' S',lQ (· <m.kp) A A'/\oz (o.AR A m.kp) w' S' (jL A' (jB (λ_=>aA) (mJ 0 m.vu y.1)))/\v=Km ((m.rsy y).map (Sy.den A'))
def Uv (φ:bY->aO->Prop)(o:jO)(A:jU)(m:sM)(y:m.Y)(e:bY)(w':aN):Prop:=
 ∃v,φ e v/\∃A' S',lQ (· <m.kp) A A'/\oz (o.AR A m.kp) w' S' (jL A' (jB (λ_=>aA) (mJ 0 m.vu y.1)))/\v=Km ((m.rsy y).map (Sy.den A'))
def Es (φ:bY->aO->Prop)(P:aY)(f:bI)(m:sM)(rF:m.X->Prop)(fx:m.X->m.Y):Prop:=
 ∀(o:jO) (A:jU) (x:m.X),oz (o.AR A m.kp) o.w o.S (jL A (jB (λ_=>aA) (mJ 0 m.sh x.1)))->(∀j y,jB (λ_=>aA) (mJ 0 m.sh x.1) j=az y->yI (o.AR A m.kp) A j y)->rF x->
  aI P f ((Kn m.ga (p8 m.ar x.2)).map (Sy.den A)).toArray o.w (Uv φ o A m (fx x))
def nX (P:aY)(f:bI)(m:sM)(rF:m.X->Prop)(fx:m.X->m.Y):Prop:=
 ∀(o:jO) (A:jU) (x:m.X),oz (o.AR A m.kp) o.w o.S (jL A (jB (λ_=>aA) (mJ 0 m.sh x.1)))->(∀j y,jB (λ_=>aA) (mJ 0 m.sh x.1) j=az y->yI (o.AR A m.kp) A j y)->rF x->
  aI P f ((Kn m.ga (p8 m.ar x.2)).map (Sy.den A)).toArray o.w (PN o A m (fx x))
section
variable {P:aY}{o:jO}{n:ah}{A A':jU}{S S':jv}{F G:ah->Prop}{s:ah->ai E2}{r:ah->ai R2}{a:Act}{w w':aN}{T:aa (lM P)}
theorem mF {sp:Pc}{l:aa Pc}{i:ah}{x:BL (sp::l)}{p:ah×ai R2}(h:p∈mJ i (sp::l) x):(sp.skip=aD/\p=(i,az (sp.r2 x.1)))\/p∈mJ (i+1) l x.2:=by
 unfold mJ at h;split at h
 .exact .inr h
 rename_i e;exact(bg.1 h).imp (λq=>⟨e,q⟩) id
theorem PO {sp:Pc}{l:aa Pc}{i:ah}{x:BL (sp::l)}{p:ah×ai R2}(h:p∈mJ (i+1) l x.2):p∈mJ i (sp::l) x:=by
 unfold mJ;split
 .exact h
 exact bl _ h
theorem u9:∀ {l:aa Pc} {i:ah} {x:BL l} {j:ah} {z:ai R2},(j,z)∈mJ i l x->i<=j/\j<i+l.length
 |[],_,_,_,_,h=>by cases h
 |s::l,i,x,j,z,h=>by
  rcases mF h with⟨_,e⟩|h
  .cases e;simp
  have:=u9 h;simp only[b7];omega
theorem CT:∀ {l:aa Pc} {i:ah} {x:BL l} {j:ah},i<=j->j<i+l.length->(∃s,l[j-i]?=az s/\s.skip=aC)\/∃s v,s∈l/\(j,az (Pc.r2 s v))∈mJ i l x
 |[],i,_,j,h1,h2=>by simp only[cK] at h2;omega
 |s::l,i,x,j,h1,h2=>by
  by_cases q:j=i
  .subst q;cases hs:s.skip with
   |true=>exact .inl ⟨s,by rw[dx];rfl,hs⟩
   |false=>exact .inr ⟨s,x.1,aZ,by unfold mJ;rw[hs];exact aZ⟩
  simp only[b7] at h2;rcases CT (x:=x.2) (show i+1<=j by omega) (by omega) with⟨s',k1,k2⟩|⟨s',v,k1,k2⟩
  .exact .inl ⟨s',by rw[show j-i=j-(i+1)+1 by omega];exact k1,k2⟩
  exact .inr ⟨s',v,bl _ k1,PO k2⟩
theorem MW:∀ {l:aa Pc} {i:ah} {x:BL l} {j:ah} {z:ai R2},(j,z)∈mJ i l x->∃s v,s∈l/\z=az (Pc.r2 s v)
 |[],_,_,_,_,h=>by cases h
 |s::l,i,x,j,z,h=>by
  rcases mF h with⟨_,e⟩|h
  .cases e;exact⟨s,x.1,aZ,rfl⟩
  obtain⟨s',v,k1,k2⟩:=MW h;exact⟨s',v,bl _ k1,k2⟩
theorem pK:∀ {re:aa (ah×ai R2)} {j:ah} {x:R2},jB (λ_=>aA) re j=az x->(j,az x)∈re:=by
 intro re
 induction re with
 |nil=>intro j x h;cases h
 |cons p re ih=>
  intro j x h;have h:sG (jB (λ_=>aA) re) p.1 p.2 j=az x:=h
  by_cases q:p.1=j
  .subst q;rw[mu] at h;rw[<-h];exact aZ
  rw[m9 q] at h;exact bl _ (ih h)
theorem CU:∀ {l:aa Pc} {i:ah} {x:BL l} {j:ah} {z:ai R2} {r0:ah->ai R2},(j,z)∈mJ i l x->jB r0 (mJ i l x) j=z
 |[],_,_,_,_,_,h=>by cases h
 |s::l,i,x,j,z,r0,h=>by
  rcases mF h with⟨q,e⟩|h
  .cases e;unfold mJ;rw[q];show sG (jB r0 (mJ (i+1) l x.2)) i (az (s.r2 x.1)) i=_;rw[mu]
  have:=u9 h;unfold mJ;split
  .exact CU h
  show sG (jB r0 (mJ (i+1) l x.2)) i (az (s.r2 x.1)) j=z;rw[m9 (by omega)];exact CU h
theorem wO {k:ah}:∀ {cs:aa Cp} {x:Ht cs},cs.all (Cp.below k)=aC->∀c∈p8 cs x,c.all (· <k)/\∀A,c.lu A
 |[],_,_,_,h=>by cases h
 |c::cs,x,h,d,hd=>by
  rw[apY,bB] at h;rcases bg.1 hd with rfl|hd
  .cases c with
   |sR f kH=>exact⟨λc hc=>by have:=bG.1 h.1 c hc;simpa[cw] using this,λ_=>trivial⟩
   |own j=>exact⟨by have:=h.1;show j<k;simpa[Cp.below,cw] using this,λ_=>trivial⟩
   |mp j=>exact⟨by have:=h.1;show j<k;simpa[Cp.below,cw] using this,λ_=>trivial⟩
   |ptr j off=>exact⟨by have:=h.1;show j<k;simpa[Cp.below,cw] using this,λ_=>trivial⟩
   |_=>exact⟨tv,λ_=>trivial⟩
  exact wO h.2 d hd
theorem Pc.Yb {k:ah}{s:Pc}{v:PcV s}(h:s.below k=aC):(s.r2 v).all (· <k)/\∀A,(s.r2 v).lu A:=by
 cases s with
 |box t cs=>exact⟨λc hc=>(wO h c hc).1,λA c hc=>(wO h c hc).2 A⟩
 |any=>exact⟨λc hc=>(by cases hc),λA c hc=>(by cases hc)⟩
 |Er=>exact⟨λc hc=>(by cases hc),λA c hc=>(by cases hc)⟩
 |mj q k' t ie=>exact⟨by show q<k;simpa[Pc.below,cw] using h,λ_=>trivial⟩
 |nest q k' t ie=>exact⟨by show q<k;simpa[Pc.below,cw] using h,λ_=>trivial⟩
 |_=>exact⟨tv,λ_=>trivial⟩
theorem oz.gv {f:ah->ai Rs}{kp:ah}(h:oz o w S f):oz (o.AR A kp) w S f:=⟨h.sJ,h.src,h.pT,h.ok,h.own,h.apart⟩
theorem oz.alN {f:ah->ai Rs}{kp:ah}(h:oz (o.AR A kp) w S f):oz o w S f:=⟨h.sJ,h.src,h.pT,h.ok,h.own,h.apart⟩
theorem Ko:∀ {g:aa (ai ah)} {cs:aa Sc},(Kn g cs).length<=g.length+cs.length
 |none::g,c::cs=>by have:=Ko (g:=g) (cs:=cs);simp only[Kn,b7];omega
 |none::_,[]=>by simp[Kn]
 |some k::g,cs=>by have:=Ko (g:=g) (cs:=cs.drop k);simp only[Kn,b7,b9] at*;omega
 |[],cs=>by simp[Kn]
theorem Kq {p:Sc->Prop}:∀ {g:aa (ai ah)} {cs:aa Sc},(∀c∈cs,p c)->∀y∈Kn g cs,(∃c,y= .one c/\p c)\/∃l,y= .agg l/\∀c∈l,p c
 |none::g,c::cs,h,y,hy=>by
  rcases bg.1 hy with rfl|hy
  .exact .inl ⟨c,rfl,h _ aZ⟩
  exact Kq (g:=g) (λc hc=>h c (bl _ hc)) y hy
 |none::_,[],_,y,hy=>by cases hy
 |some k::g,cs,h,y,hy=>by
  rcases bg.1 hy with rfl|hy
  .exact .inr ⟨_,rfl,λc hc=>h c (dQ hc)⟩
  exact Kq (g:=g) (λc hc=>h c (List.mem_of_mem_drop hc)) y hy
 |[],cs,h,y,hy=>by
  obtain⟨c,hc,rfl⟩:=bz.1 hy;exact .inl ⟨c,rfl,h c hc⟩
def stM (m:sM)(x:m.X):mX:=⟨Aq 0 (Kn m.ga (p8 m.ar x.2)),mJ 0 m.sh x.1,m.sh.length⟩
theorem MX {f:bI}(fn:Func)(n:ah)(T:aa (lM P))(m:sM){rF:m.X->Prop}{R:jO->jU->m.X->bY->aN->Prop}(hf:P.funcs[f]?=az fn)
  (k:∀(o:jO) (A:jU) (x:m.X),rF x->∀a w,lH (o.AR A m.kp) n (stM m x) a w->At pl P T (fn.body.getD .skip) (aJ P fn (R o A x)) [.run []] a w)
  (hb:fn.body.isSome=aC:=by kernel_rfl) (hn:fn.ntmps=n:=by kernel_rfl) (hl:aE (m.ga.length+m.ar.length<=n)=aC:=by kernel_rfl)
  (hw:(aE (m.kp<=m.sh.length) && (m.ar.all (Cp.below m.sh.length) && m.sh.all (Pc.below m.sh.length)))=aC:=by kernel_rfl):∀(o:jO) (A:jU) (x:m.X),oz (o.AR A m.kp) o.w o.S (jL A (jB (λ_=>aA) (mJ 0 m.sh x.1)))->(∀j y,jB (λ_=>aA) (mJ 0 m.sh x.1) j=az y->yI (o.AR A m.kp) A j y)->rF x->aI P f ((Kn m.ga (p8 m.ar x.2)).map (Sy.den A)).toArray o.w (R o A x):=by
 intro o A x agx har JX;simp only[bB,decide_eq_true_eq] at hw;have⟨hw0,hw1,Et⟩:=hw;have hlen:(p8 m.ar x.2).length=m.ar.length:=by
  have:∀(cs:aa Cp) (x:Ht cs),(p8 cs x).length=cs.length:=by
   intro cs
   induction cs with
   |nil=>intro _;rfl
   |cons c cs ih=>intro x;simp[p8,ih]
  exact this _ _
 refine Kh fn n hf (λa ha=>?_) hb hn (by rw[bH];have h1:=Ko (g:=m.ga) (cs:=p8 m.ar x.2);have h2:=bq hl;rw[hlen] at h1;exact cT (by omega));have r7:∀t e,p7 (stM m x) t=az e->e.ch=[]/\∃y,(Kn m.ga (p8 m.ar x.2))[t]?=az y/\e=⟨[],y⟩:=λt e he=>by
  obtain⟨_,y,q1,q2⟩:=uK he;have q1:(Kn m.ga (p8 m.ar x.2))[t-0]?=az y:=q1;rw[aqa] at q1;exact⟨by rw[q2],y,q1,q2⟩
 have ue:lH (o.AR A m.kp) n (stM m x) a o.w:=by
  refine⟨⟨A,o.S,ha.1,ha.2.1,λt e he=>?_,λt e he _=>?_,λj y hj=>?_,agx,har,⟨λj q=>bR (show j<m.kp from q) hw0,lQ.refl _ _⟩⟩,λt e he=>(r7 t e he).1,λ_ q=>q⟩
  .obtain⟨_,c,q1,rfl⟩:=r7 t e he;have MU:=(cF.1 q1).1;refine ha.2.2 ⟨t,[],Sy.den A c⟩ (bz.2 ⟨(t,Sy.den A c),?_,rfl⟩);refine anw.2 ⟨t,?_⟩;rw[aoW];exact⟨by simp[MU],by rw[cY,q1];rfl⟩
  .obtain⟨_,c,q1,rfl⟩:=r7 t e he;rcases Kq (p:=λc=>c.all (· <m.sh.length)/\∀A,c.lu A) (wO hw1) c (cn q1) with⟨c',rfl,h1,h2⟩|⟨l,rfl,h1⟩
   .exact⟨h1,h2 A⟩
   exact⟨λc hc=>(h1 c hc).1,λc hc=>(h1 c hc).2 A⟩
  have hm:=pK hj;have hk:=u9 hm;obtain⟨s,v,q1,q2⟩:=MW hm;cases q2;have:=Pc.Yb (v:=v) (bG.1 Et s q1);exact⟨by have:=hk.2;rwa[cZ] at this,this.1,this.2 A⟩
 have:=(k o A x JX a o.w ue).get;have this:(sub (fn.body.getD .skip) []).qP pl P (post pl P (fn.body.getD .skip) (aJ P fn (R o A x)) []) a o.w:=this;exact this
theorem Yc {φ:bY->aO->Prop}{f:bI}(fn:Func)(n:ah)(T:aa (lM P))(m:sM){rF:m.X->Prop}{fx:m.X->m.Y}(hf:P.funcs[f]?=az fn)
 (k:∀(o:jO) (A:jU) (x:m.X),rF x->∀a w,lH (o.AR A m.kp) n (stM m x) a w->At pl P T (fn.body.getD .skip) (aJ P fn (Uv φ o A m (fx x))) [.run []] a w)
 (hb:fn.body.isSome=aC:=by kernel_rfl) (hn:fn.ntmps=n:=by kernel_rfl) (hl:aE (m.ga.length+m.ar.length<=n)=aC:=by kernel_rfl)
 (hw:(aE (m.kp<=m.sh.length) && (m.ar.all (Cp.below m.sh.length) && m.sh.all (Pc.below m.sh.length)))=aC:=by kernel_rfl):Es φ P f m rF fx:=MX fn n T m hf (R:=λo A x=>Uv φ o A m (fx x)) k hb hn hl hw
theorem oA {f:bI}(fn:Func)(n:ah)(T:aa (lM P))(m:sM){rF:m.X->Prop}{fx:m.X->m.Y}(hf:P.funcs[f]?=az fn)
 (k:∀(o:jO) (A:jU) (x:m.X),rF x->∀a w,lH (o.AR A m.kp) n (stM m x) a w->At pl P T (fn.body.getD .skip) (aJ P fn (PN o A m (fx x))) [.run []] a w)
 (hb:fn.body.isSome=aC:=by kernel_rfl) (hn:fn.ntmps=n:=by kernel_rfl) (hl:aE (m.ga.length+m.ar.length<=n)=aC:=by kernel_rfl)
 (hw:(aE (m.kp<=m.sh.length) && (m.ar.all (Cp.below m.sh.length) && m.sh.all (Pc.below m.sh.length)))=aC:=by kernel_rfl):nX P f m rF fx:=Yc (φ:=λe v=>e= .returned v) fn n T m hf k hb hn hl hw
def Yd:aa ResultVar->aa Sc->aa (ah×ai E2)
 | .tmp t::l,c::cs=>(t,az ⟨[],.one c⟩)::Yd l cs
 |_,_=>[]
def ab6 (ag:ak)(l:aa ResultVar)(cs:aa Sc):aa (ah×ai E2):=match ag,l with
 |true,.cell t _::_=>[(t,az ⟨[],.one (.ptr 0 0)⟩)]
 |_,l=>Yd l cs
def MY (fn:Func)(m:sM)(y:m.Y):mX:=⟨ab6 m.ag fn.results.toList (p8 m.rs y.2),mJ 0 m.vu y.1,m.vu.length⟩
theorem mA {mo:Mode}{fn:Func}{m:sM}{fx:m.Y}{B:Code}{st:aa It}{σ:mX}(y:m.Y)(ρ:aa (ah×ai ah))(h:lH (o.AR A m.kp) n σ a w)(e:y=fx)(ht:FA B st=aC:=by kernel_rfl)
  (h1:lN ρ σ (MY fn m y):=by delta lN;kernel_rfl) (h2:mQ ρ σ (MY fn m y):=by delta mQ;kernel_rfl) (h3:uc ρ (MY fn m y)=aC:=by kernel_rfl) (h4:BH ρ m.kp=aC:=by kernel_rfl)
  (h5:(D8 P fn.results.toList λys=>.ret (ULift.up.{1} ys)).run (p7 (MY fn m y)) (mH (MY fn m y))=az ⟨m.rsy y⟩:=by kernel_rfl):At mo P T B (aJ P fn (PN o A m fx)) st a w:=by
 have hs:=ud ρ h h1 h2 h3 h4;obtain⟨⟨A',S',H⟩,h0,_⟩:=hs;subst e;obtain⟨ys,r1,r2⟩:=wM (P:=P) H h5;have r2:az (ULift.up.{1} ys)=az ⟨m.rsy y⟩:=r2;cases r2;have vS:=vJ r1;have ajk:PN o A m y (.returned (Km ((m.rsy y).map (Sy.den A')))) w:=⟨_,rfl,A',S',H.wj.2,H.jM,rfl⟩;unfold FA at ht;split at ht
 .rename_i p r;refine⟨?_⟩;show(sub B p).qP mo P (post mo P B _ r) a w;have hc:sub B p= .ret:=by
   cases hc:sub B p<;>rw[hc] at ht<;>first|rfl|cases ht
  rw[hc];exact Ep (u7 (bodyPost_ret vS H.lK ajk))
 .exact⟨bodyPost_end vS H.lK ajk⟩
 cases ht
def PR (ρ nU:aa (ah×ai ah)):Prop:=∀j v,j5 ρ j=az v->j5 nU j=az v
theorem PR.trans {a b c:aa (ah×ai ah)}(h:PR a b)(k:PR b c):PR a c:=λj v q=>k j v (h j v q)
theorem Ye {ρ:aa (ah×ai ah)}{j:ah}{v:ai ah}(h:j5 ρ j=aA):PR ρ ((j,v)::ρ):=λi u q=>by
 unfold j5;cases hb:bp j i with
 |true=>have:=j9 hb;subst this;rw[h] at q;cases q
 |false=>exact q
theorem s8 (ρ:aa (ah×ai ah))(j:ah)(v:ai ah):j5 ((j,v)::ρ) j=az v:=by
 unfold j5;rw[Nat.beq_refl]
def eqO:ai ah->ai ah->ak
 |none,aA=>aC
 |some a,az b=>bp a b
 |_,_=>aD
theorem ajl:∀ {a b:ai ah},eqO a b=aC->a=b
 |none,aA,_=>rfl
 |some a,az b,h=>by rw[j9 h]
 |none,az _,h=>by cases h
 |some _,aA,h=>by cases h
def BM {α:Type 1}(ρ:aa (ah×ai ah))(j:ah)(v:ai ah)(k:aa (ah×ai ah)->Tr α):Tr α:=match j5 ρ j with
 |none=>k ((j,v)::ρ)
 |some v'=>match eqO v' v with
  |true=>k ((j,v)::ρ)
  |false=>.fail
def RE {α:Type 1}:aa (ah×ah)->aa (ah×ah)->aa (ah×ai ah)->(aa (ah×ai ah)->Tr α)->Tr α
 |[],[],ρ,k=>k ρ
 |c::l,d::l',ρ,k=>match bp c.2 d.2 with
  |true=>BM ρ c.1 (az d.1) λρ=>RE l l' ρ k
  |false=>.fail
 |_,_,_,_=>.fail
def ug {α:Type 1}:(c:Cp)->Sc->aa (ah×ai ah)->(CpV c->aa (ah×ai ah)->Tr α)->Tr α
 | .int,d,ρ,k=>match d with
  | .v (.int .i64 n)=>k n ρ
  |_=>.fail
 | .bool,d,ρ,k=>match d with
  | .b e=>k e.den ρ
  |_=>.fail
 | .str,d,ρ,k=>match d with
  | .v (.string z)=>k z ρ
  |_=>.fail
 | .own j,d,ρ,k=>match d with
  | .own q=>BM ρ j (az q) (k ())
  | .v (.slice aA 0 0)=>BM ρ j aA (k ())
  |_=>.fail
 | .mp j,d,ρ,k=>match d with
  | .mp q=>BM ρ j (az q) (k ())
  |_=>.fail
 | .ptr j off,d,ρ,k=>match d with
  | .ptr q alO=>match bp off alO with
   |true=>BM ρ j (az q) (k ())
   |false=>.fail
  |_=>.fail
 | .sR f kH,d,ρ,k=>match d with
  | .sR f' aeT=>jK (bp f f') (RE kH aeT ρ (k ()))
  |_=>.fail
 | .X9,d,ρ,k=>match d with
  | .v (.pointer aA)=>k () ρ
  |_=>.fail
 | .Ya,d,ρ,k=>match d with
  | .v (.slice aA 0 0)=>k () ρ
  |_=>.fail
def MZ {α:Type 1}:(cs:aa Cp)->aa Sc->aa (ah×ai ah)->(Ht cs->aa (ah×ai ah)->Tr α)->Tr α
 |[],[],ρ,k=>k () ρ
 |c::cs,d::l,ρ,k=>ug c d ρ λv ρ=>MZ cs l ρ λx=>k (v,x)
 |_,_,_,_=>.fail
def qQ {α:Type 1}:ah->(sh:aa Pc)->aa (ah×ai ah)->(BL sh->aa (ah×ai ah)->Tr α)->Tr α
 |_,[],ρ,k=>k () ρ
 |i,.box t cs::sh,ρ,k=>match j5 ρ i with
  |some (az q)=>.res q λz=>match z with
   | .box t' l=>jK (bp t t') (MZ cs l ρ λx ρ=>qQ (i+1) sh ρ λxs=>k (x,xs))
   |_=>.fail
  |_=>.fail
 |i,.row e t::sh,ρ,k=>match j5 ρ i with
  |some (az q)=>.res q λz=>match z with
   | .row e' t' l=>match qh (t:=.list t') (s:=.list t) (show El (.list t') from l) with
    |some l'=>jK (bp e e') (qQ (i+1) sh ρ λxs=>k (l',xs))
    |none=>.fail
   |_=>.fail
  |some aA=>qQ (i+1) sh ρ λxs=>k ([],xs)
  |none=>.fail
 |i,.map kc t::sh,ρ,k=>match j5 ρ i with
  |some (az q)=>.res q λz=>match z with
   | .map kc' t' l=>match qh (t:=.map kc' t') (s:=.map kc t) (show El (.map kc' t') from l) with
    |some l'=>qQ (i+1) sh ρ λxs=>k (l',xs)
    |none=>.fail
   |_=>.fail
  |_=>.fail
 |i,.rd t::sh,ρ,k=>match j5 ρ i with
  |some (az q)=>.res q λz=>match pU z with
   |some ⟨t',l⟩=>match qh (t:=.list t') (s:=.list t) (show El (.list t') from l) with
    |some l'=>qQ (i+1) sh ρ λxs=>k (l',xs)
    |none=>.fail
   |none=>.fail
  |some aA=>qQ (i+1) sh ρ λxs=>k ([],xs)
  |none=>.fail
 |i,.uV e::sh,ρ,k=>match j5 ρ i with
  |some (az q)=>.res q λz=>match z with
   | .ext (.uV e' l)=>jK (bp e e') (qQ (i+1) sh ρ λxs=>k (l,xs))
   |_=>.fail
  |_=>.fail
 |i,.any::sh,ρ,k=>qQ (i+1) sh ρ λxs=>k ((),xs)
 |i,.Er::sh,ρ,k=>qQ (i+1) sh ρ λxs=>k ((),xs)
 |i,.mj q kc t ie::sh,ρ,k=>match j5 ρ i with
  |some (az p)=>.res p λz=>match z with
   | .ext (.mj q' kc' aA t' Hq m)=>match qh (t:=.map kc' (.list t')) (s:=.map kc (.list t)) (show El (.map kc' (.list t')) from m) with
    |some m'=>jK (bp ie Hq) (BM ρ q (az q') λρ=>qQ (i+1) sh ρ λxs=>k (m',xs))
    |none=>.fail
   |_=>.fail
  |_=>.fail
 |i,.nest q e t ie::sh,ρ,k=>match j5 ρ i with
  |some (az p)=>.res p λz=>match z with
   | .ext (.nest q' aA e' t' Hq l)=>match qh (t:=.list t') (s:=.list t) (show El (.list t') from l) with
    |some l'=>jK (bp ie Hq && bp e e') (BM ρ q (az q') λρ=>qQ (i+1) sh ρ λxs=>k (l',xs))
    |none=>.fail
   |_=>.fail
  |_=>.fail
def PS (F:ah->Prop)(ρ:aa (ah×ai ah)):Prop:=∀j q,j5 ρ j=az (az q)->F q
theorem PS.nil (F:ah->Prop):PS F []:=λ_ _ h=>by cases h
theorem PS.cons {F:ah->Prop}{ρ:aa (ah×ai ah)}(h:PS F ρ){j:ah}{v:ai ah}(hv:∀q,v=az q->F q):PS F ((j,v)::ρ):=λi q hq=>by
 unfold j5 at hq;split at hq
 .exact hv q (b5 hq)
 exact h i q hq
theorem s9 {α:Type 1}{ρ:aa (ah×ai ah)}{j:ah}{v:ai ah}{k:aa (ah×ai ah)->Tr α}{out:α}(h:(BM ρ j v k).run s r=az out):PR ρ ((j,v)::ρ)/\(k ((j,v)::ρ)).run s r=az out:=by
 unfold BM at h;split at h
 .rename_i hn;exact⟨Ye hn,h⟩
 rename_i v' hn;split at h
 .rename_i e;have e:=ajl e;subst e;refine⟨λi u q=>?_,h⟩;unfold j5;cases hb:bp j i with
  |true=>have:=j9 hb;subst this;rw[hn] at q;exact q
  |false=>exact q
 cases h
theorem IJ {α:Type 1}:∀ {l l':aa (ah×ah)} {ρ:aa (ah×ai ah)} {k:aa (ah×ai ah)->Tr α} {out:α},(RE l l' ρ k).run s r=az out->
  ∃nU,(k nU).run s r=az out/\PR ρ nU/\(∀F:ah->Prop,(∀c∈l',F c.1)->PS F ρ->PS F nU)/\∀A qc,PR nU qc->(l.map λc=>cO (az ⟨(nO A qc).b c.1,c.2,aA⟩))=l'.map λc=>cO (az ⟨A.b c.1,c.2,aA⟩)
 |[],[],ρ,k,out,h=>⟨ρ,h,λ_ _ q=>q,λ_ _ q=>q,λ_ _ _=>rfl⟩
 |c::l,d::l',ρ,k,out,h=>by
  simp only[RE] at h;split at h
  .rename_i e;have e:=j9 e;obtain⟨q1,h2⟩:=s9 h;obtain⟨nU,h3,h4,h6,h5⟩:=IJ h2;refine⟨nU,h3,q1.trans h4,λF hF hi=>h6 F (λz hz=>hF z (bl _ hz)) (hi.cons λq e=>by cases e;exact hF d aZ),λA qc q=>?_⟩;rw[bO,bO,h5 A qc q,(mz (A:=A) (q _ _ (h4 _ _ (s8 _ _ _)))).2.1,e]
  cases h
 |[],_::_,_,_,_,h=>by cases h
 |_::_,[],_,_,_,h=>by cases h
theorem PT {α:Type 1}{c:Cp}{d:Sc}{ρ:aa (ah×ai ah)}{k:CpV c->aa (ah×ai ah)->Tr α}{out:α}(h:(ug c d ρ k).run s r=az out):
  ∃v nU,(k v nU).run s r=az out/\PR ρ nU/\(∀F:ah->Prop,d.all F->PS F ρ->PS F nU)/\∀A qc,PR nU qc->(c.sc v).den (nO A qc)=d.den A:=by
 cases c with
 |int=>
  simp only[ug] at h;split at h
  .exact⟨_,ρ,h,λ_ _ q=>q,λ_ _ q=>q,λ_ _ _=>rfl⟩
  cases h
 |bool=>
  simp only[ug] at h;split at h
  .exact⟨_,ρ,h,λ_ _ q=>q,λ_ _ q=>q,λ_ _ _=>rfl⟩
  cases h
 |str=>
  simp only[ug] at h;split at h
  .exact⟨_,ρ,h,λ_ _ q=>q,λ_ _ q=>q,λ_ _ _=>rfl⟩
  cases h
 |own j=>
  simp only[ug] at h;split at h
  .obtain⟨q1,h2⟩:=s9 h;exact⟨(),_,h2,q1,λF hF hi=>hi.cons λq e=>(by cases e;exact hF),λA qc q=>(mz (A:=A) (q _ _ (s8 _ _ _))).1⟩
  .obtain⟨q1,h2⟩:=s9 h;exact⟨(),_,h2,q1,λF hF hi=>hi.cons λq e=>(by cases e),λA qc q=>Fy (A:=A) (q _ _ (s8 _ _ _))⟩
  cases h
 |mp j=>
  simp only[ug] at h;split at h
  .obtain⟨q1,h2⟩:=s9 h;exact⟨(),_,h2,q1,λF hF hi=>hi.cons λq e=>(by cases e;exact hF),λA qc q=>by simp only[Cp.sc,Sc.den,(mz (A:=A) (q _ _ (s8 _ _ _))).2.2.1]⟩
  cases h
 |ptr j off=>
  simp only[ug] at h;split at h
  .split at h
   .rename_i e;have e:=j9 e;subst e;obtain⟨q1,h2⟩:=s9 h;exact⟨(),_,h2,q1,λF hF hi=>hi.cons λq e=>(by cases e;exact hF),λA qc q=>by simp only[Cp.sc,Sc.den,(mz (A:=A) (q _ _ (s8 _ _ _))).2.1]⟩
   cases h
  cases h
 |sR f kH=>
  simp only[ug] at h;split at h
  .obtain⟨e,h1⟩:=jt h;have e:=j9 e;subst e;obtain⟨nU,h2,h3,h5,h4⟩:=IJ h1;exact⟨(),nU,h2,h3,h5,λA qc q=>by simp only[Cp.sc,Sc.den,h4 A qc q]⟩
  cases h
 |X9=>
  simp only[ug] at h;split at h
  .exact⟨(),ρ,h,λ_ _ q=>q,λ_ _ q=>q,λ_ _ _=>rfl⟩
  cases h
 |Ya=>
  simp only[ug] at h;split at h
  .exact⟨(),ρ,h,λ_ _ q=>q,λ_ _ q=>q,λ_ _ _=>rfl⟩
  cases h
theorem IK {α:Type 1}:∀(cs:aa Cp) (l:aa Sc) (ρ:aa (ah×ai ah)) (k:Ht cs->aa (ah×ai ah)->Tr α) {out:α},(MZ cs l ρ k).run s r=az out->
  ∃x nU,(k x nU).run s r=az out/\PR ρ nU/\(∀F:ah->Prop,(∀d∈l,d.all F)->PS F ρ->PS F nU)/\∀A qc,PR nU qc->(p8 cs x).map (Sc.den (nO A qc))=l.map (Sc.den A):=by
 intro cs
 induction cs with
 |nil=>
  intro l ρ k out h;cases l with
  |nil=>exact⟨(),ρ,h,λ_ _ q=>q,λ_ _ q=>q,λ_ _ _=>rfl⟩
  |cons _ _=>cases h
 |cons c cs ih=>
  intro l ρ k out h;cases l with
  |nil=>cases h
  |cons d l=>
   obtain⟨v,ρ1,h1,h2,h7,h3⟩:=PT (show(ug c d ρ λv ρ=>MZ cs l ρ λx=>k (v,x)).run s r=az out from h);obtain⟨x,nU,h4,h5,h8,h6⟩:=ih _ _ _ h1;exact⟨(v,x),nU,h4,h2.trans h5,λF hF hi=>h8 F (λz hz=>hF z (bl _ hz)) (h7 F (hF d aZ) hi),λA qc q=>by simp only[p8,bO,h6 A qc q,h3 A qc (h5.trans q)]⟩
def ab7 (r:ah->ai R2)(nU:aa (ah×ai ah))(j:ah)(z:R2):Prop:=∀A qc,PR nU qc->
 (uW z=aD/\((∃q y,j5 qc j=az (az q)/\r q=az y/\z.den (nO A qc) j=y.den A q)\/(j5 qc j=az aA/\∃e t,z= .row e t ([]:aa (El t)))))\/
  ∃(t:Ty) (l:aa (El t)),z= .ar t l/\((∃q y,j5 qc j=az (az q)/\r q=az y/\pU y=az ⟨t,l⟩)\/(j5 qc j=az aA/\l=[]))
theorem Uw {α:Type 1}:∀(sh:aa Pc) (i:ah) (ρ:aa (ah×ai ah)) (k:BL sh->aa (ah×ai ah)->Tr α) {out:α},(qQ i sh ρ k).run s r=az out->
  ∃xs nU,(k xs nU).run s r=az out/\PR ρ nU/\(∀j z,(j,az z)∈mJ i sh xs->ab7 r nU j z)/\∀F:ah->Prop,(∀j x,r j=az x->x.all F)->PS F ρ->PS F nU:=by
 intro sh
 induction sh with
 |nil=>intro i ρ k out h;exact⟨(),ρ,h,λ_ _ q=>q,λ_ _ q=>(by cases q),λ_ _ q=>q⟩
 |cons sp sh ih=>
  intro i ρ k out h;cases sp with
  |box t cs=>
   simp only[qQ] at h;split at h
   .rename_i q hq;obtain⟨y,hy,h⟩:=jI h;split at h
    .rename_i t' l;obtain⟨e,h0⟩:=jt h;clear h;have e:=j9 e;subst e;obtain⟨x,ρ1,h1,h2,h8,h3⟩:=IK _ _ _ _ h0;obtain⟨xs,nU,h4,h5,h6,h7⟩:=ih _ _ _ h1;refine⟨(x,xs),nU,h4,h2.trans h5,λj z hj=>?_,λF hF hi=>h7 F hF (h8 F (hF q _ hy) hi)⟩;rcases mF hj with⟨_,e⟩|hj
     .cases e;refine λA qc hle=>.inl ⟨rfl,.inl ⟨q,_,hle _ _ (h5 _ _ (h2 _ _ hq)),hy,?_⟩⟩;simp only[Pc.r2,R2.den,h3 A qc (h5.trans hle),(mz (A:=A) (hle _ _ (h5 _ _ (h2 _ _ hq)))).2.1]
     exact h6 j z hj
    cases h
   cases h
  |row e t=>
   simp only[qQ] at h;split at h
   .rename_i q hq;obtain⟨y,hy,h⟩:=jI h;split at h
    .rename_i e' t' l;split at h
     .rename_i l' hl;obtain⟨ee,rfl⟩:=ni hl;cases ee;obtain⟨e,h0⟩:=jt h;clear h;have e:=j9 e;subst e;obtain⟨xs,nU,h4,h5,h6,h7⟩:=ih _ _ _ h0;refine⟨(_,xs),nU,h4,h5,λj z hj=>?_,h7⟩;rcases mF hj with⟨_,e⟩|hj
      .cases e;refine λA qc hle=>.inl ⟨rfl,.inl ⟨q,_,hle _ _ (h5 _ _ hq),hy,?_⟩⟩;simp only[Pc.r2,R2.den,(mz (A:=A) (hle _ _ (h5 _ _ hq))).1]
      exact h6 j z hj
     cases h
    cases h
   .rename_i hq;obtain⟨xs,nU,h4,h5,h6,h7⟩:=ih _ _ _ h;refine⟨(_,xs),nU,h4,h5,λj z hj=>?_,h7⟩;rcases mF hj with⟨_,e⟩|hj
    .cases e;exact λA qc hle=>.inl ⟨rfl,.inr ⟨hle _ _ (h5 _ _ hq),_,_,rfl⟩⟩
    exact h6 j z hj
   cases h
  |map kc t=>
   simp only[qQ] at h;split at h
   .rename_i q hq;obtain⟨y,hy,h⟩:=jI h;split at h
    .rename_i kc' t' l;split at h
     .rename_i l' hl;obtain⟨ee,rfl⟩:=ni hl;cases ee;obtain⟨xs,nU,h4,h5,h6,h7⟩:=ih _ _ _ h;refine⟨(_,xs),nU,h4,h5,λj z hj=>?_,h7⟩;rcases mF hj with⟨_,e⟩|hj
      .cases e;refine λA qc hle=>.inl ⟨rfl,.inl ⟨q,_,hle _ _ (h5 _ _ hq),hy,?_⟩⟩;simp only[Pc.r2,R2.den,(mz (A:=A) (hle _ _ (h5 _ _ hq))).2.2.1]
      exact h6 j z hj
     cases h
    cases h
   cases h
  |rd t=>
   simp only[qQ] at h;split at h
   .rename_i q hq;obtain⟨y,hy,h⟩:=jI h;split at h
    .rename_i t' l Yf;split at h
     .rename_i l' hl;obtain⟨ee,rfl⟩:=ni hl;cases ee;obtain⟨xs,nU,h4,h5,h6,h7⟩:=ih _ _ _ h;refine⟨(_,xs),nU,h4,h5,λj z hj=>?_,h7⟩;rcases mF hj with⟨_,e⟩|hj
      .cases e;exact λA qc hle=>.inr ⟨_,_,rfl,.inl ⟨q,y,hle _ _ (h5 _ _ hq),hy,Yf⟩⟩
      exact h6 j z hj
     cases h
    cases h
   .rename_i hq;obtain⟨xs,nU,h4,h5,h6,h7⟩:=ih _ _ _ h;refine⟨(_,xs),nU,h4,h5,λj z hj=>?_,h7⟩;rcases mF hj with⟨_,e⟩|hj
    .cases e;exact λA qc hle=>.inr ⟨_,_,rfl,.inr ⟨hle _ _ (h5 _ _ hq),rfl⟩⟩
    exact h6 j z hj
   cases h
  |uV e=>
   simp only[qQ] at h;split at h
   .rename_i q hq;obtain⟨y,hy,h⟩:=jI h;split at h
    .rename_i e' l;obtain⟨e,h0⟩:=jt h;clear h;have e:=j9 e;subst e;obtain⟨xs,nU,h4,h5,h6,h7⟩:=ih _ _ _ h0;refine⟨(_,xs),nU,h4,h5,λj z hj=>?_,h7⟩;rcases mF hj with⟨_,e⟩|hj
     .cases e;refine λA qc hle=>.inl ⟨rfl,.inl ⟨q,_,hle _ _ (h5 _ _ hq),hy,?_⟩⟩;simp only[Pc.r2,R2.den,X2.den,(mz (A:=A) (hle _ _ (h5 _ _ hq))).1]
     exact h6 j z hj
    cases h
   cases h
  |any=>
   simp only[qQ] at h;obtain⟨xs,nU,h4,h5,h6,h7⟩:=ih _ _ _ h;refine⟨((),xs),nU,h4,h5,λj z hj=>?_,h7⟩;rcases mF hj with⟨e,_⟩|hj
   .cases e
   exact h6 j z hj
  |Er=>
   simp only[qQ] at h;obtain⟨xs,nU,h4,h5,h6,h7⟩:=ih _ _ _ h;refine⟨((),xs),nU,h4,h5,λj z hj=>?_,h7⟩;rcases mF hj with⟨e,_⟩|hj
   .cases e
   exact h6 j z hj
  |mj q0 kc t ie=>
   simp only[qQ] at h;split at h
   .rename_i p hp;obtain⟨y,hy,h⟩:=jI h;split at h
    .rename_i q' kc' t' Hq m;split at h
     .rename_i m' hl;obtain⟨ee,rfl⟩:=ni hl;cases ee;obtain⟨e,h0⟩:=jt h;clear h;have e:=j9 e;subst e;obtain⟨q1,h0⟩:=s9 h0;obtain⟨xs,nU,h4,h5,h6,h7⟩:=ih _ _ _ h0;refine⟨(_,xs),nU,h4,q1.trans h5,λj z hj=>?_,λF hF hi=>h7 F hF (hi.cons λc e=>by cases e;exact hF p _ hy)⟩;rcases mF hj with⟨_,e⟩|hj
      .cases e;refine λA qc hle=>.inl ⟨rfl,.inl ⟨p,_,hle _ _ (h5 _ _ (q1 _ _ hp)),hy,?_⟩⟩;simp only[Pc.r2,R2.den,X2.den,(mz (A:=A) (hle _ _ (h5 _ _ (q1 _ _ hp)))).2.2.1,(mz (A:=A) (hle _ _ (h5 _ _ (s8 _ _ _)))).2.2.2.2]
      exact h6 j z hj
     cases h
    cases h
   cases h
  |nest q0 e0 t ie=>
   simp only[qQ] at h;split at h
   .rename_i p hp;obtain⟨y,hy,h⟩:=jI h;split at h
    .rename_i q' e' t' Hq l;split at h
     .rename_i l' hl;obtain⟨ee,rfl⟩:=ni hl;cases ee;obtain⟨e,h0⟩:=jt h;clear h;rw[bB] at e;have e1:=j9 e.1;have e2:=j9 e.2;subst e1 e2;obtain⟨q1,h0⟩:=s9 h0;obtain⟨xs,nU,h4,h5,h6,h7⟩:=ih _ _ _ h0;refine⟨(_,xs),nU,h4,q1.trans h5,λj z hj=>?_,λF hF hi=>h7 F hF (hi.cons λc e=>by cases e;exact hF p _ hy)⟩;rcases mF hj with⟨_,e⟩|hj
      .cases e;refine λA qc hle=>.inl ⟨rfl,.inl ⟨p,_,hle _ _ (h5 _ _ (q1 _ _ hp)),hy,?_⟩⟩;simp only[Pc.r2,R2.den,X2.den,(mz (A:=A) (hle _ _ (h5 _ _ (q1 _ _ hp)))).1,(mz (A:=A) (hle _ _ (h5 _ _ (s8 _ _ _)))).2.2.2.2]
      exact h6 j z hj
     cases h
    cases h
   cases h
end
def Kr (kp:ah)(ρ:aa (ah×ai ah))(b i:ah):ai ah:=match bP i kp with
 |true=>match j5 ρ i with
  |some v=>v
  |none=>aA
 |false=>az (b+i)
def M0 (g:ah->ai ah):ah->aa (ah×ai ah)
 |0=>[]
 |k+1=>(k,g k)::M0 g k
def rnP (τ:aa (ah×ai ah)):aa (ah×ai R2)->ai (aa (ah×ai R2))
 |[]=>az []
 |(i,az x)::l=>match j5 τ i,x.rn τ,rnP τ l with
  |some (az k),az t,az l'=>az ((k,az t)::l')
  |_,_,_=>aA
 |(_,aA)::_=>aA
def ajm (sh:aa Pc)(l:aa (ah×ai R2)):aa (ah×ai R2):=l.filter λp=>!Hu sh p.1
def DH (sh:aa Pc)(ρ:aa (ah×ai ah)):aa ah:=(ρ.filter λp=>!Hu sh p.1).filterMap (·.2)
def CV (b:ah):ah->aa Pc->aa (ah×ai R2)
 |_,[]=>[]
 |i,.Er::l=>(b+i,aA)::CV b (i+1) l
 |i,_::l=>CV b (i+1) l
theorem CW {b:ah}:∀ {l:aa Pc} {i k:ah} {z:ai R2},(k,z)∈CV b i l->z=aA
 |[],i,k,z,h=>by cases h
 |sp::l,i,k,z,h=>by
  cases sp with
  |Er=>
   rcases bg.1 (show(k,z)∈(b+i,aA)::CV b (i+1) l from h) with e|h
   .cases e;rfl
   exact CW h
  |_=>exact CW (l:=l) (i:=i+1) h
theorem M1 {b:ah}:∀ {l:aa Pc} {i j:ah},l[j]?=az .Er->(b+(i+j),(aA:ai R2))∈CV b i l
 |[],i,j,h=>by simp at h
 |sp::l,i,0,h=>by
  have h:sp= .Er:=by simpa using h
  subst h;exact aZ
 |sp::l,i,j+1,h=>by
  have ih:=M1 (b:=b) (i:=i+1) (show l[j]?=az .Er by simpa using h);rw[show i+1+j=i+(j+1) by omega] at ih;cases sp with
  |Er=>exact bl _ ih
  |_=>exact ih
def ajn:Pc->ak
 | .Er=>aC
 |_=>aD
def ajo:Sy->ak
 | .one _=>aC
 |_=>aD
def shG:aa (ai ah)->aa Sy->ak
 |none::g,.one _::ys=>shG g ys
 |some k::g,.agg cs::ys=>bp cs.length k && shG g ys
 |[],ys=>ys.all ajo
 |_,_=>aD
def ajp (m:sM)(ρ:aa (ah×ai ah))(ys:aa Sy):ak:=
 shG m.ga ys && ((ρ.all λp=>ρ.all λq=>bp p.1 q.1||(match p.2,q.2 with|some a,az b=>!Nat.beq a b|_,_=>aC)) && (aE (m.kp<=m.sh.length) && (m.vu.all (Pc.below m.vu.length) && (m.rs.all (Cp.below m.vu.length) && (((bT m.kp).all λi=>(match j5 ρ i with|some (az _)=>aC|_=>aD) && match m.sh[i]? with|some z=>!ajn z|none=>aC) && (bT m.vu.length).all λi=>!Hu m.vu i||(bP i m.kp && Hu m.sh i))))))
def Yg (m:sM)(rF:m.X->Prop)(fx:m.X->m.Y)(b:ah)(kH:aa (ah×ah))(ys:aa Sy):Tr Out:=
 MZ m.ar ((ys++kH.map λc=>Sy.one (.ptr c.1 c.2)).flatMap jA) [] λxa ρ=>qQ 0 m.sh ρ λxs nU=>
  match rnP (M0 (Kr m.kp nU b) m.vu.length) (ajm m.vu (mJ 0 m.vu (fx (xs,xa)).1)),rnL (M0 (Kr m.kp nU b) m.vu.length) (p8 m.rs (fx (xs,xa)).2) with
  |some re,az cs=>jK (ajp m nU (ys++kH.map λc=>Sy.one (.ptr c.1 c.2))) (.ret ⟨[rF (xs,xa)],[],DF (syl m.ag cs),re++(CV b 0 m.vu++(DH m.sh nU).map λq=>(q,aA))⟩)
  |_,_=>.fail
def vX (A B:jU)(b k l:ah):jU:=
 ⟨λj=>if b+k<=j/\j<b+l then B.p (j-b) else A.p j,λj=>if b+k<=j/\j<b+l then B.n (j-b) else A.n j,λj=>if b+k<=j/\j<b+l then B.c (j-b) else A.c j,λj=>if b+k<=j/\j<b+l then B.b (j-b) else A.b j,λj=>if b+k<=j/\j<b+l then B.f (j-b) else A.f j,λj=>if b+k<=j/\j<b+l then B.m (j-b) else A.m j⟩
section
variable {P:aY}{o:jO}{n:ah}{A A':jU}{S S':jv}{F G:ah->Prop}{s:ah->ai E2}{r:ah->ai R2}{a:Act}{w w':aN}{T:aa (lM P)}
theorem RF {g:ah->ai ah}:∀ {l i:ah},i<l->j5 (M0 g l) i=az (g i)
 |0,i,h=>by omega
 |l+1,i,h=>by
  unfold M0 j5;cases hb:bp l i with
  |true=>have:=j9 hb;subst this;rfl
  |false=>exact RF (by have:=WM hb;omega)
theorem RG {g:ah->ai ah}:∀ {l i:ah} {v:ai ah},j5 (M0 g l) i=az v->i<l
 |0,i,v,h=>by cases h
 |l+1,i,v,h=>by
  unfold M0 j5 at h;cases hb:bp l i with
  |true=>have:=j9 hb;omega
  |false=>rw[hb] at h;have:=RG h;omega
theorem Yh {τ:aa (ah×ai ah)}:∀ {l re:aa (ah×ai R2)},rnP τ l=az re->∀i z,(i,z)∈l->∃k x t,z=az x/\j5 τ i=az (az k)/\x.rn τ=az t/\(k,az t)∈re
 |[],re,h,i,z,hz=>by cases hz
 |(i0,az x)::l,re,h,i,z,hz=>by
  simp only[rnP] at h;split at h
  .rename_i k t l' h1 h2 h3;cases h;rcases bg.1 hz with e|hz
   .cases e;exact⟨k,x,t,rfl,h1,h2,aZ⟩
   obtain⟨k',x',t',q1,q2,q3,q4⟩:=Yh h3 i z hz;exact⟨k',x',t',q1,q2,q3,bl _ q4⟩
  cases h
 |(i0,aA)::l,re,h,i,z,hz=>by cases h
theorem Yi {τ:aa (ah×ai ah)}:∀ {l re:aa (ah×ai R2)},rnP τ l=az re->∀k z,(k,z)∈re->∃i x t,(i,az x)∈l/\j5 τ i=az (az k)/\x.rn τ=az t/\z=az t
 |[],re,h,k,z,hz=>by cases h;cases hz
 |(i0,az x)::l,re,h,k,z,hz=>by
  simp only[rnP] at h;split at h
  .rename_i k0 t l' h1 h2 h3;cases h;rcases bg.1 hz with e|hz
   .cases e;exact⟨i0,x,t,aZ,h1,h2,rfl⟩
   obtain⟨i',x',t',q1,q2,q3,q4⟩:=Yi h3 k z hz;exact⟨i',x',t',bl _ q1,q2,q3,q4⟩
  cases h
 |(i0,aA)::l,re,h,k,z,hz=>by cases h
theorem IL {τ:aa (ah×ai ah)}:∀ {kH cs:aa (ah×ah)},Sc.rn.AO τ kH=az cs->∀c∈cs,∃j,j5 τ j=az (az c.1)
 |[],cs,h,c,hc=>by cases h;cases hc
 |d::kH,cs,h,c,hc=>by
  simp only[Sc.rn.AO] at h;split at h
  .rename_i k l h1 h2;cases h;rcases bg.1 hc with rfl|hc
   .exact⟨_,h1⟩
   exact IL h2 c hc
  cases h
theorem ajq {τ:aa (ah×ai ah)}{c:Cp}{v:CpV c}{d:Sc}(h:(c.sc v).rn τ=az d)(hG:∀j k,j5 τ j=az (az k)->G k):d.all G/\∀A,d.lu A:=by
 cases c with
 |int=>cases h;exact⟨tv,λ_=>trivial⟩
 |bool=>cases h;exact⟨tv,λ_=>trivial⟩
 |X9=>cases h;exact⟨tv,λ_=>trivial⟩
 |Ya=>cases h;exact⟨tv,λ_=>trivial⟩
 |str=>cases h;exact⟨tv,λ_=>trivial⟩
 |sR f kH=>
  have h:(Sc.rn.AO τ kH).map (.sR f)=az d:=h;obtain⟨cs,h1,rfl⟩:=bF.1 h;exact⟨λc hc=>by obtain⟨j,hj⟩:=IL h1 c hc;exact hG j _ hj,λ_=>trivial⟩
 |own j=>
  simp only[Cp.sc,Sc.rn] at h;split at h
  .rename_i k hk;cases h;exact⟨hG j k hk,λ_=>trivial⟩
  .cases h;exact⟨tv,λ_=>trivial⟩
  cases h
 |mp j=>
  simp only[Cp.sc,Sc.rn] at h;split at h
  .rename_i k hk;cases h;exact⟨hG j k hk,λ_=>trivial⟩
  .cases h;exact⟨tv,λ_=>trivial⟩
  cases h
 |ptr j off=>
  simp only[Cp.sc,Sc.rn] at h;split at h
  .rename_i k hk;cases h;exact⟨hG j k hk,λ_=>trivial⟩
  cases h
theorem FE {τ:aa (ah×ai ah)}(hG:∀j k,j5 τ j=az (az k)->G k):∀ {cs:aa Cp} {x:Ht cs} {ds:aa Sc},rnL τ (p8 cs x)=az ds->∀d∈ds,d.all G/\∀A,d.lu A
 |[],x,ds,h,d,hd=>by cases h;cases hd
 |c::cs,x,ds,h,d,hd=>by
  simp only[p8,rnL] at h;split at h
  .rename_i c' l' h1 h2;cases h;rcases bg.1 hd with rfl|hd
   .exact ajq h1 hG
   exact FE hG h2 d hd
  cases h
theorem ajr {τ:aa (ah×ai ah)}(hG:∀j k,j5 τ j=az (az k)->G k){p:Pc}{v:PcV p}{i k:ah}{z:R2}(h:(p.r2 v).rn τ=az z)(hk:j5 τ i=az (az k))(pg:p.agw=aD)(A:jU):
  z.den A k=(p.r2 v).den (nO A τ) i/\z.all G/\z.lu A/\uW z=aD:=by
 obtain⟨e1,e2,e3,_⟩:=mz (A:=A) hk;cases p with
 |box t cs=>
  have h:(rnL τ (p8 cs v)).map (R2.box t)=az z:=h;obtain⟨ds,h1,rfl⟩:=bF.1 h;have h2:=FE hG h1;refine⟨?_,λc hc=>(h2 c hc).1,λc hc=>(h2 c hc).2 A,rfl⟩;simp only[Pc.r2,R2.den,e2,(Fz (A:=A) h1).1]
 |row e t=>
  have h:az (R2.row e t v)=az z:=h;cases h;exact⟨by simp only[Pc.r2,R2.den,e1],tv,tv,rfl⟩
 |map kc t=>
  have h:az (R2.map kc t v)=az z:=h;cases h;exact⟨by simp only[Pc.r2,R2.den,e3],tv,tv,rfl⟩
 |rd t=>cases pg
 |uV e=>
  have h:az (R2.ext (.uV e v))=az z:=h;cases h;exact⟨by simp only[Pc.r2,R2.den,X2.den,e1],tv,tv,rfl⟩
 |any=>cases pg
 |Er=>
  have h:az (R2.box 0 [])=az z:=h;cases h;exact⟨by simp only[Pc.r2,R2.den,e2,cC],λc hc=>(by cases hc),λc hc=>(by cases hc),rfl⟩
 |mj q kc t ie=>
  have h:(match j5 τ q with|some (az p)=>az (R2.ext (.mj p kc aA t ie v))|_=>aA)=az z:=h;split at h
  .rename_i p hp;cases h;exact⟨by simp only[Pc.r2,R2.den,X2.den,e3,(mz (A:=A) hp).2.2.2.2],hG q p hp,tv,rfl⟩
  cases h
 |nest q e t ie=>
  have h:(match j5 τ q with|some (az p)=>az (R2.ext (.nest p aA e t ie v))|_=>aA)=az z:=h;split at h
  .rename_i p hp;cases h;exact⟨by simp only[Pc.r2,R2.den,X2.den,e1,(mz (A:=A) hp).2.2.2.2],hG q p hp,tv,rfl⟩
  cases h
theorem CX:∀ {l:aa Pc} {i:ah} {x:BL l} {j:ah} {z:R2},(j,az z)∈mJ i l x->∃s,l[j-i]?=az s/\s.skip=aD/\∃v,z=Pc.r2 s v
 |[],_,_,_,_,h=>by cases h
 |s::l,i,x,j,z,h=>by
  rcases mF h with⟨hs,e⟩|h
  .cases e;exact⟨s,by rw[dx];rfl,hs,x.1,rfl⟩
  have hk:=u9 h;obtain⟨s',h1,h2⟩:=CX h;exact⟨s',by rw[show j-i=(j-(i+1))+1 by omega];exact h1,h2⟩
theorem FF {l:aa Pc}{x:BL l}{j:ah}{z:R2}(h:(j,az z)∈mJ 0 l x):Hu l j=uW z:=by
 obtain⟨s,h1,h2,v,rfl⟩:=CX h;unfold Hu;rw[show l[j]?=az s from h1];cases s<;>first|rfl|cases h2
theorem PU (H:kW o n A S F s r a w){j:ah}{x:R2}(hj:r j=az x){t:Ty}{l:aa (El t)}(hx:pU x=az ⟨t,l⟩){K:ah->Prop}(hK:¬K j):Rd (λk=>k<w.heap.size/\¬oD A r K k) w (A.v j) l:=by
 have hm:jL A r j=az (x.den A j):=by simp[jL,hj]
 cases x with
 |ro t' l'=>cases hx;exact Rd.up (λk hk=>⟨H.jM.pT k hk,λq=>(H.sX q).2.2 hk⟩) (H.jM.ok j _ hm)
 |ar t' l'=>
  cases hx;refine(Rd.keep H.jM.old (H.args j _ hj)).up λk hk=>⟨bR hk.1 H.jM.sJ.size,λq=>?_⟩;rcases(H.sX q).1 with z|z
  .have:=hk.1;omega
  exact hk.2 z
 |row e t' l'=>
  cases hx;refine(mI.rd (H.jM.ok j _ hm)).up λk hk=>?_;rcases hk with hk|hk
  .exact⟨H.jM.pT k hk,λq=>(H.sX q).2.2 hk⟩
  refine⟨(H.jM.own j _ k hm hk).2.1,λ⟨i,y,q1,q2,q3⟩=>?_⟩;have hm':jL A r i=az (y.den A i):=by simp[jL,q2]
  have:=H.jM.apart j i _ _ k hm hm' hk q3;subst this;exact hK q1
 |ext y=>
  cases y with
  |_=>cases hx
 |_=>cases hx
theorem ab8 {A B:jU}{b k l i:ah}(h1:k<=i)(h2:i<l):(vX A B b k l).v (b+i)=B.v i/\(vX A B b k l).b (b+i)=B.b i/\(vX A B b k l).f (b+i)=B.f i/\(vX A B b k l).m (b+i)=B.m i:=by
 have q:b+k<=b+i/\b+i<b+l:=⟨by omega,by omega⟩;have e:b+i-b=i:=by omega
 unfold vX jU.v;simp only[aQ q,e];exact⟨tv,tv,tv,tv⟩
theorem ab9 {A B:jU}{b k l j:ah}(h:¬(b+k<=j/\j<b+l)):A.v j=(vX A B b k l).v j/\A.b j=(vX A B b k l).b j/\A.f j=(vX A B b k l).f j/\A.m j=(vX A B b k l).m j:=by
 unfold vX jU.v;simp only[aP h];exact⟨tv,tv,tv,tv⟩
theorem M3:∀ {ys:aa Sy},ys.all ajo=aC->ys.map (Sy.den A)=(ys.flatMap jA).map (Sc.den A)
 |[],_=>rfl
 |y::ys,h=>by
  rw[apY,bB] at h;cases y with
  |one c=>rw[dc,bO,M3 h.2];rfl
  |agg _=>cases h.1
  |vt _=>cases h.1
theorem Ks:∀ {g:aa (ai ah)} {ys:aa Sy} {cs:aa Sc},shG g ys=aC->cs.map (Sc.den A')=(ys.flatMap jA).map (Sc.den A)->ys.map (Sy.den A)=(Kn g cs).map (Sy.den A')
 |[],ys,cs,h,e=>by
  rw[M3 h,<-e];show _=(cs.map Sy.one).map _;rw[cz];rfl
 |none::g,[],cs,h,e=>by cases h
 |none::g,.one c::ys,cs,h,e=>by
  rw[dc,cA] at e
  match cs,e with
  |c'::cs,e=>
   have e1:c'.den A'=c.den A:=(eZ e).1;have e2:cs.map (Sc.den A')=(ys.flatMap jA).map (Sc.den A):=(eZ e).2;show c.den A::ys.map _=c'.den A'::(Kn g cs).map _;rw[Ks (g:=g) h e2,e1]
 |none::g,.agg _::ys,cs,h,e=>by cases h
 |none::g,.vt _::ys,cs,h,e=>by cases h
 |some k::g,[],cs,h,e=>by cases h
 |some k::g,.one _::ys,cs,h,e=>by cases h
 |some k::g,.vt _::ys,cs,h,e=>by cases h
 |some k::g,.agg l::ys,cs,h,e=>by
  have h:(bp l.length k && shG g ys)=aC:=h;rw[bB] at h;have hk:=j9 h.1;subst hk;rw[dc,cA] at e;have e1:(cs.take l.length).map (Sc.den A')=l.map (Sc.den A):=by
   rw[List.map_take,e];show(l.map _++_).take _=_;rw[List.take_left' (by simp)]
  have e2:(cs.drop l.length).map (Sc.den A')=(ys.flatMap jA).map (Sc.den A):=by
   rw[List.map_drop,e];show(l.map _++_).drop _=_;rw[List.drop_left' (by simp)]
  show aoS (l.map (Sc.den A)).toArray::ys.map _=aoS ((cs.take l.length).map (Sc.den A')).toArray::(Kn g (cs.drop l.length)).map _;rw[Ks (g:=g) h.2 e2,e1]
def Yj (φ:bY->aO->Prop)(P:aY)(f:bI)(tr:ah->aa (ah×ah)->aa Sy->Tr Out):Prop:=
 ∀(o:jO) (n:ah) (A:jU) (S:jv) (F:ah->Prop) (s:ah->ai E2) (r:ah->ai R2) (a:Act) (w:aN) (b B:ah) (kH:aa (ah×ah)) (ys:aa Sy) (out:Out),
  kW o n A S F s r a w->(∀j,b<=j->j<B->¬F j)->(∀y∈ys,y.all F/\y.lu A)->(∀c∈kH,F c.1)->(tr b kH ys).run s r=az out->(∀p∈out.cs,p)->(∀h∈out.hs,∀A w,h.lhs A w=h.rhs A w)->(∀p∈out.re,p.1<B)->
  aI P f (ys.map (Sy.den A)++kH.map (λc=>cO (az ⟨A.b c.1,c.2,aA⟩))).toArray w (λe w'=> ∃v,φ e v/\nI o n F s r a out v w')
theorem M4 {φ:bY->aO->Prop}{f:bI}{m:sM}{rF:m.X->Prop}{fx:m.X->m.Y}(ok:Es φ P f m rF fx):Yj φ P f (Yg m rF fx):=by
 intro o n A S F s r a w b B kH ys out H hF Pn yc h kO _ hB;unfold Yg at h;have hzs:ys.map (Sy.den A)++kH.map (λc=>cO (az ⟨A.b c.1,c.2,aA⟩))=(ys++kH.map λc=>Sy.one (.ptr c.1 c.2)).map (Sy.den A):=by
  rw[cA,cz];rfl
 have hzF:∀d∈(ys++kH.map λc=>Sy.one (.ptr c.1 c.2)).flatMap jA,d.all F:=λd hd=>by
  obtain⟨y,hy,hd⟩:=cQ.1 hd;rcases bE.1 hy with hy|hy
  .have:=(Pn y hy).1;cases y with
   |one c=>rw[aU.1 hd];exact this
   |agg cs=>exact this d hd
   |vt _=>cases hd
  obtain⟨c,hc,rfl⟩:=bz.1 hy;rw[aU.1 hd];exact yc c hc
 generalize (ys++kH.map λc=>Sy.one (.ptr c.1 c.2))=zs at*
 obtain⟨xa,ρ,h1,_,hCF,hC⟩:=IK _ _ _ _ h;clear h;obtain⟨xs,nU,h2,hle,hP,hPa⟩:=Uw _ _ _ _ h1;clear h1;split at h2
 .rename_i re cs DZ acd;obtain⟨hg,h3⟩:=jt h2;clear h2;have e:=jH h3;subst e;clear h3;unfold ajp at hg;simp only[bB,decide_eq_true_eq] at hg;have⟨g1,g2,g3,g4,g5,g6,g7⟩:=hg;have alP:∀i,Hu m.vu i=aC->i<m.kp/\Hu m.sh i=aC:=λi hi=>by
   have hl:i<m.vu.length:=by
    unfold Hu at hi;split at hi
    .rename_i sp hsp;exact(cF.1 hsp).1
    cases hi
   have:=bG.1 g7 i (de.2 hl);rw[hi] at this;simp only[Bool.not_true,Bool.false_or,bB,cw] at this;exact this
  have JX:rF (xs,xa):=kO _ (aU.2 rfl);generalize hy:fx (xs,xa)=y at*
  generalize hτ:M0 (Kr m.kp nU b) m.vu.length=τ at*
  have refl:PR nU nU:=λ_ _ q=>q;have qn:∀j rr,jL (nO A nU) (jB (λ_=>aA) (mJ 0 m.sh xs)) j=az rr->(∃q z,j5 nU j=az (az q)/\Hu m.sh j=aD/\r q=az z/\jL A r q=az rr/\rr=z.den A q)\/((∀c,¬rr.has c)/\rr.ok S w):=λj rr hj=>by
   obtain⟨z,hz,rfl⟩:=bF.1 hj;have hkr:=FF (pK hz);rcases hP j z (pK hz) A nU refl with⟨k0,⟨q,t,k1,k2,k3⟩|⟨k1,e,t,rfl⟩⟩|⟨t,l,rfl,_⟩
   .exact .inl ⟨q,t,k1,hkr.trans k0,k2,by show(r q).map _=_;rw[k2,k3];rfl,k3⟩
   .have ev:=Fy (A:=A) k1;refine .inr ⟨λc q=>?_,?_⟩
    .have q:((nO A nU).v j).ownBlock=az c:=q;rw[ev] at q;cases q
    show mI S w e ((nO A nU).v j) ([]:aa (El t));rw[ev];exact mI.nil
   exact .inr ⟨λc q=>q,tv⟩
  have MF:∀ {i j q:ah},j5 nU i=az (az q)->j5 nU j=az (az q)->i=j:=λ{i j q} hi hj=>by
   have:=bG.1 (bG.1 g2 _ (wL hi)) _ (wL hj);rw[e7] at this;rcases this with k|k
   .exact j9 k
   simp at k
  have hK:∀ {q:ah},(∃j,(j,az q)∈nU/\Hu m.sh j=aD)->∃x,(q,x)∈re++(CV b 0 m.vu++(DH m.sh nU).map λq=>(q,(aA:ai R2))):=λ{q} ⟨j,hj,hjr⟩=>
   ⟨aA,bV _ (bV _ (bz.2 ⟨q,List.mem_filterMap.2 ⟨_,bX.2 ⟨hj,by rw[hjr];rfl⟩,rfl⟩,rfl⟩))⟩
  have o2c:∃o2:jO,o2.w=w/\o2.S=S/\o2.G=oD A r (λq=> ∃j,(j,az q)∈nU/\Hu m.sh j=aD):=⟨⟨⟨w,S,H.jM.pT⟩,oD A r (λq=> ∃j,(j,az q)∈nU/\Hu m.sh j=aD),λk hk=>(H.sX hk).2.2,λk hk=>(H.sX hk).2.1,λ_=>False,Wt,0⟩,rfl,rfl,rfl⟩;have⟨o2,Et,hS2,hG2⟩:=o2c;have yd:oz o2 w S (jL (nO A nU) (jB (λ_=>aA) (mJ 0 m.sh xs))):=by
   refine⟨by rw[Et];exact rE.refl _ _,λk hk=>.inl (by rw[hS2];exact hk),H.jM.pT,λj rr hj=>?_,λj rr c hj hc=>?_,λi j ri rj c hi hj ei ej=>?_⟩
   .rcases qn j rr hj with⟨q,z,k1,_,k2,k3,k4⟩|⟨_,k2⟩
    .exact H.jM.ok q rr k3
    exact k2
   .rcases qn j rr hj with⟨q,z,k1,k0,k2,k3,k4⟩|⟨k1,_⟩
    .have:=H.jM.own q rr c k3 hc;refine⟨.inr ?_,this.2⟩;rw[hG2];exact⟨q,z,⟨j,wL k1,k0⟩,k2,by rw[<-k4];exact hc⟩
    exact(k1 c hc).elim
   rcases qn i ri hi with⟨q,z,k1,_,k2,k3,k4⟩|⟨k1,_⟩
   .rcases qn j rj hj with⟨q',z',l1,_,l2,l3,l4⟩|⟨l1,_⟩
    .have:=H.jM.apart q q' ri rj c k3 l3 ei ej;subst this;exact MF k1 l1
    exact(l1 c ej).elim
   exact(k1 c ei).elim
  have mg:(ys.map (Sy.den A)++kH.map λc=>cO (az ⟨A.b c.1,c.2,aA⟩))=(Kn m.ga (p8 m.ar xa)).map (Sy.den (nO A nU)):=by
   rw[hzs];exact Ks g1 (hC A nU hle)
  rw[mg];have har:∀j y,jB (λ_=>aA) (mJ 0 m.sh xs) j=az y->yI (o2.AR (nO A nU) m.kp) (nO A nU) j y:=λj y hy=>by
   have hkr:=FF (pK hy);rcases hP j y (pK hy) A nU refl with⟨k0,_⟩|⟨t,l,rfl,⟨q,z,k1,k2,k3⟩|⟨k1,rfl⟩⟩
   .exact oh k0
   .have hnK:¬(λq=> ∃j,(j,az q)∈nU/\Hu m.sh j=aD) q:=λ⟨j',m1,m2⟩=>by
     have:=bG.1 (bG.1 g2 _ m1) _ (wL k1);rw[e7] at this;rcases this with e|e
     .have e:=j9 e;dsimp only at e;rw[e,hkr] at m2;cases m2
     simp at e
    have pg:=PU (K:=λq=> ∃j,(j,az q)∈nU/\Hu m.sh j=aD) H k2 k3 hnK;show Rd o2.old o2.w ((nO A nU).v j) l;rw[(mz (A:=A) k1).1];unfold jO.old;rw[hG2,Et];exact pg
   show Rd o2.old o2.w ((nO A nU).v j) ([]:aa (El t));rw[Fy (A:=A) k1];exact O8
  have uO:=ok o2 (nO A nU) (xs,xa) (by rw[Et,hS2];exact yd.gv) har JX;rw[Et] at uO;refine uO.mono λe w' ⟨v,he,A2,S2,hA2,F2',hv⟩=>⟨v,he,?_⟩;have F2:=F2'.alN;rw[hy] at F2 hv;clear F2';have hc2:rE w w' (oD A r (λq=> ∃j,(j,az q)∈nU/\Hu m.sh j=aD)):=by have:=F2.sJ;rwa[Et,hG2] at this
  have alQ:PS F nU:=hPa F (λj x hx=>(H.lq j x hx).2.1) (hCF F hzF (PS.nil F));have Yk:∀ {i:ah},i<m.vu.length->j5 τ i=az (Kr m.kp nU b i):=λ{i} hi=>by rw[<-hτ];exact RF hi
  have ajs:∀ {i:ah} {v:ai ah},j5 τ i=az v->i<m.vu.length:=λ{i v} hi=>by rw[<-hτ] at hi;exact RG hi
  have PV:∀ {i:ah},m.kp<=i->i<m.vu.length->j5 τ i=az (az (b+i)):=λ{i} h1 h2=>by
   rw[Yk h2];unfold Kr;have:bP i m.kp=aD:=by
    cases hb:bP i m.kp with
    |true=>
     have:i<m.kp:=by simpa using cw▸hb
     omega
    |false=>rfl
   rw[this]
  have ajt:∀ {i:ah},i<m.kp->∃q,j5 nU i=az (az q)/\F q/\Kr m.kp nU b i=az q:=λ{i} hi=>by
   have hb:bP i m.kp=aC:=by simpa[cw] using hi
   have h6:=bG.1 g6 i (de.2 hi);rw[bB] at h6;have⟨h6,h6f⟩:=h6;rcases CT (x:=xs) (i:=0) (bQ i) (by rw[cZ];omega) with⟨sp,q1,q2⟩|⟨sp,v,q1,q2⟩
   .rw[aqa] at q1;rw[q1] at h6f;cases sp<;>first|(cases q2;done)|(cases h6f;done)|skip
    cases hz:j5 nU i with
    |none=>rw[hz] at h6;cases h6
    |some v=>
     cases v with
     |none=>rw[hz] at h6;cases h6
     |some q=>exact⟨q,rfl,alQ i q hz,by unfold Kr;rw[hb,hz]⟩
   rcases hP i _ q2 A nU refl with⟨_,⟨q,t,k1,k2,k3⟩|⟨k1,_⟩⟩|⟨_,_,_,⟨q,t,k1,k2,k3⟩|⟨k1,_⟩⟩
   .exact⟨q,k1,(H.lq q t k2).1,by unfold Kr;rw[hb,k1]⟩
   .rw[k1] at h6;cases h6
   .exact⟨q,k1,(H.lq q t k2).1,by unfold Kr;rw[hb,k1]⟩
   rw[k1] at h6;cases h6
  have wq:∀ {i:ah},m.kp<=i->i<m.vu.length->∃t,(b+i,t)∈re++(CV b 0 m.vu++(DH m.sh nU).map λq=>(q,(aA:ai R2))):=λ{i} h1 h2=>by
   have hnr:Hu m.vu i=aD:=by
    cases hq:Hu m.vu i with
    |false=>rfl
    |true=>have:=(alP i hq).1;omega
   rcases CT (x:=y.1) (i:=0) (bQ i) (by rw[cZ];exact h2) with⟨sp,q1,q2⟩|⟨sp,v,q1,q2⟩
   .rw[aqa] at q1;unfold Hu at hnr;rw[q1] at hnr;cases sp<;>first|(cases q2;done)|(cases hnr;done)|skip
    have:=M1 (b:=b) (i:=0) q1;rw[cZ] at this;exact⟨aA,bV _ (bU _ this)⟩
   obtain⟨k,x,t,_,k2,_,k4⟩:=Yh DZ i _ (bX.2 ⟨q2,by dsimp only;rw[hnr];rfl⟩);rw[PV h1 h2] at k2;cases k2;exact⟨az t,bU _ k4⟩
  have hA:lQ F A (vX A A2 b m.kp m.vu.length):=λj hj=>ab9 λ⟨q1,q2⟩=>by
   obtain⟨t,ht⟩:=wq (i:=j-b) (by omega) (by omega);have:=hB _ ht;have e:b+(j-b)=j:=by omega
   simp only[e] at this;exact hF j (by omega) this hj
  have ace:∀i k,j5 τ i=az (az k)->FU F (re++(CV b 0 m.vu++(DH m.sh nU).map λq=>(q,(aA:ai R2)))) k:=λi k hi=>by
   have hl:=ajs hi
   by_cases q:i<m.kp
   .obtain⟨q',_,k2,k3⟩:=ajt q;rw[Yk hl,k3] at hi;cases hi;exact .inl k2
   rw[PV (by omega) hl] at hi;cases hi;obtain⟨t,ht⟩:=wq (i:=i) (by omega) hl;exact .inr ⟨_,ht⟩
  have aju:lQ (· <m.vu.length) A2 (nO (vX A A2 b m.kp m.vu.length) τ):=λi hi=>by
   by_cases q:i<m.kp
   .obtain⟨q',k1,k2,k3⟩:=ajt q;obtain⟨e1,e2,e3,_,e5⟩:=mz (A:=vX A A2 b m.kp m.vu.length) (show j5 τ i=az (az q') by rw[Yk hi,k3]);obtain⟨d1,d2,d3,_,d5⟩:=mz (A:=A) k1;obtain⟨a1,a2,a3,a4⟩:=hA q' k2;obtain⟨c1,c2,c3,c4⟩:=hA2 i q;exact⟨by rw[e1,<-a1,<-d1,<-c1],by rw[e2,<-a2,<-d2,<-c2],by rw[e5,<-a3,<-d5,<-c3],by rw[e3,<-a4,<-d3,<-c4]⟩
   obtain⟨e1,e2,e3,_,e5⟩:=mz (A:=vX A A2 b m.kp m.vu.length) (PV (show m.kp<=i by omega) hi);obtain⟨a1,a2,a3,a4⟩:=ab8 (A:=A) (B:=A2) (b:=b) (show m.kp<=i by omega) hi;exact⟨by rw[e1,a1],by rw[e2,a2],by rw[e5,a3],by rw[e3,a4]⟩
  have hpc:∀k z,(k,az z)∈re++(CV b 0 m.vu++(DH m.sh nU).map (λq=>(q,(aA:ai R2))))->∃i,z.den (vX A A2 b m.kp m.vu.length) k=(z.den (vX A A2 b m.kp m.vu.length) k)/\j5 τ i=az (az k)/\jL A2 (jB (λ_=>aA) (mJ 0 m.vu y.1)) i=az (z.den (vX A A2 b m.kp m.vu.length) k)/\z.all (FU F (re++(CV b 0 m.vu++(DH m.sh nU).map λq=>(q,(aA:ai R2)))))/\z.lu (vX A A2 b m.kp m.vu.length)/\uW z=aD:=λk z hz=>by
   rcases bE.1 hz with hz|hz
   .obtain⟨i,x,t,k1,k2,k3,k4⟩:=Yi DZ k _ hz;cases k4;obtain⟨k1,k1r⟩:=bX.1 k1;have k1s:Hu m.vu i=aD:=by simpa using k1r
    have hkr:=FF k1;obtain⟨sp,q1,q3,v,rfl⟩:=CX k1;have q1:=cn q1;have alR:sp.agw=aD:=by
     have WK:=k1s.symm.trans hkr;cases sp<;>first|rfl|(cases WK;done)|cases q3
    obtain⟨p1,p2,p3,p4⟩:=ajr ace k3 k2 alR (vX A A2 b m.kp m.vu.length);have Yf:=Pc.Yb (v:=v) (bG.1 g4 sp q1);have hl:=(u9 k1).2;rw[cZ] at hl;refine⟨i,rfl,k2,?_,p2,p3,p4⟩;show(jB _ _ i).map _=_;rw[CU k1,p1,<-R2.congr aju hl Yf.1];rfl
   rcases bE.1 hz with hz|hz
   .cases CW hz
   obtain⟨q,_,hq⟩:=bz.1 hz;cases hq
  have Kt:=H.swap hA (w':=w') (S':=λk=>S k\/S2 k) (re:=re++(CV b 0 m.vu++(DH m.sh nU).map λq=>(q,(aA:ai R2)))) (λq=> ∃j,(j,az q)∈nU/\Hu m.sh j=aD) (λq hq=>hK hq) hc2 (λk hk=>.inl hk) (λk hk=>by
   rcases hk with hk|hk
   .exact .inl hk
   .rcases F2.src k hk with q|q
    .exact .inl (by rw[hS2] at q;exact q)
    refine .inr ⟨?_,F2.pT k hk,λj z hz=>?_⟩
    .rcases q with q|q
     .exact .inr (by rw[Et] at q;exact q)
     exact .inl (by rw[hG2] at q;exact q)
    obtain⟨i,_,_,k2,_⟩:=hpc j z hz;exact λhh=>(F2.own i _ k k2 hh).2.2 hk) (λj z hz=>by
   obtain⟨i,_,_,k2,k3,k4,k5⟩:=hpc j z hz;refine⟨k3,k4,k5,(z.den _ j).up _ _ _ (F2.ok i _ k2) λ_ q=>.inr q,λc hc=>?_⟩;obtain⟨q1,q2,_⟩:=F2.own i _ c k2 hc;refine⟨?_,q2⟩;rcases q1 with q|q
   .exact .inr (by rw[Et] at q;exact q)
   .exact .inl (by rw[hG2] at q;exact q)) (λi j zi zj c hi hj ei ej=>by
   obtain⟨i',_,ki,k2,_⟩:=hpc i zi hi;obtain⟨j',_,kj,l2,_⟩:=hpc j zj hj;have:=F2.apart i' j' _ _ c k2 l2 ei ej;subst this;rw[ki] at kj;cases kj;rfl)
  have Xi:((syl m.ag cs).all λy=>match y with| .vt _=>aD|_=>aC)=aC:=by
   cases m.ag with
   |false=>show(cs.map Sy.one).all _=aC;rw[List.all_map];exact bG.2 λ_ _=>rfl
   |true=>rfl
  have nH:∀z∈syl m.ag cs,z.all (FU F (re++(CV b 0 m.vu++(DH m.sh nU).map λq=>(q,(aA:ai R2)))))/\z.lu (vX A A2 b m.kp m.vu.length):=λz hz=>by
   cases hg:m.ag with
   |false=>
    rw[hg] at hz;obtain⟨c,hc,rfl⟩:=bz.1 hz;have:=FE ace acd c hc;exact⟨this.1,this.2 _⟩
   |true=>
    rw[hg] at hz;have:=aU.1 hz;subst this;exact⟨λc hc=>(FE ace acd c hc).1,λc hc=>(FE ace acd c hc).2 _⟩
  refine⟨_,_,Kt,?_,(CS nH).1,(CS nH).2⟩;show v=(DF (syl m.ag cs)).den _;have Hj:(p8 m.rs y.2).map (Sc.den A2)=cs.map (Sc.den (vX A A2 b m.kp m.vu.length)):=by
   rw[sU aju λc hc=>(wO g5 c hc).1,(Fz acd).1]
  rw[II Xi,hv]
  congr 1
  unfold sM.rsy;cases m.ag with
  |false=>show(apt Sy.one _).map _=(cs.map Sy.one).map _;rw[cz,cz];exact Hj
  |true=>show[aoS (apt (Sc.den A2) _).toArray]=[aoS (apt _ cs).toArray];rw[Hj]
 cases h2
theorem acf {f:bI}{m:sM}{rF:m.X->Prop}{fx:m.X->m.Y}(ok:nX P f m rF fx):yM P f (Yg m rF fx):=M4 (φ:=λe v=>e= .returned v) ok
def r8 {f:bI}{m:sM}{rF:m.X->Prop}{fx:m.X->m.Y}(ok:nX P f m rF fx):lM P:=⟨f,Yg m rF fx,acf ok⟩
end
structure Ad (P:aY) where
 φ:bY->aO->Prop
 f:bI
 tr:ah->aa (ah×ah)->aa Sy->Tr Out
 pan:∀e v,φ e v->∃ch,e= .panicked ch
 ok:Yj φ P f tr
section
variable {mo:Mode}{P:aY}{o:jO}{n:ah}{A:jU}{S:jv}{F:ah->Prop}{s:ah->ai E2}{r:ah->ai R2}{σ:mX}{a:Act}{w:aN}{T:aa (lM P)}{B:Code}{Q:oL}{st:aa It}{b:ah}
theorem vb {ch:aa PanicEntry}:∀ {st:aa It},Q (.panic ch) a w->post mo P B Q st (.panic ch) a w
 |[],h=>h
 | .run _::st,h=>vb (st:=st) h
 | .oN _::st,h=>vb (st:=st) h
 | .lp _::st,h=>vb (st:=st) h
def Left (o:jO)(w:aN):Prop:=∃S,oz o w S (λ_=>aA)
theorem nI.left {out:Out}{v:aO}{w':aN}(h:nI o n F s r a out v w'):Left o w':=by
 have⟨A',S',H,_⟩:=h;exact⟨S',H.jM.sub λ_ _ q=>by cases q⟩
theorem PW {B:ah}{T:aa (lM P)}(H:kW o n A S F s r a w)(hF:∀j,b<=j->j<B->¬F j){op:bf}{c:Call}{x:Operand}{f:bI}{pc:Ad P}{out:Out}(ho:op.op= .call c)(qo:c.callee= .value x)(hx:a.eval x=(Sc.sR f []).den A)(hf:pc.f=f)
  (uO:((P.funcs[f]?).map (λfn=>((fn.name== "runtime.NumGoroutine")||fn.body.isNone)))=az aD) {ys:aa Sy} (mg:c.args.toList.map a.eval=ys.map (Sy.den A)) (Pn:∀y∈ys,y.all F/\y.lu A) (h:(pc.tr b [] ys).run s r=az out) (kO:∀p∈out.cs,p) (qG:∀h∈out.hs,∀A w,h.lhs A w=h.rhs A w) (hB0:∀p∈out.re,p.1<B)
  {K:Act->aN->Prop} {Q:Exit->Act->aN->Prop} (k:∀ch v w',pc.φ (.panicked ch) v->Left o w'->Q (.panic ch) a w'):op.wp P a w K Q:=by
 have Ua:=pc.ok o n A S F s r a w b B [] ys out H hF Pn (λ_ q=>by cases q) h kO qG hB0;obtain⟨fn,By,hb⟩:=bF.1 uO;simp only[Bool.or_eq_false_iff] at hb;have O3:fn.name≠ "runtime.NumGoroutine" :=by simpa using hb.1
 have rN:fn.body≠aA:=by intro e;rw[e] at hb;cases hb.2
 have hx:a.eval x= .func (.func f) #[] #[]:=hx;have Fi:c.args.map a.eval=(ys.map (Sy.den A)).toArray:=by rw[<-mg];apply Array.ext';rw[Array.toList_map]
 have e:(aG a.eval op).run P w= .ok (.enter f (ys.map (Sy.den A)).toArray) w:=by
  simp[aG,ho,resolve,qo,Fi,hx,aoK,invoke,callFunc,program,Sem.run,By,O3,rN]
 unfold Oper.wp;rw[e];rw[hf,cC,bW] at Ua;refine Ua.mono λe w' ⟨v,he,hR⟩=>?_;obtain⟨ch,rfl⟩:=pc.pan e v he;exact k ch v w' he hR.left
def agy (P:aY)(pc:Ad P)(b:ah)(op:bf):Tr Out:=match op.op with
 | .call c=>match c.callee with
  | .value x=>qm [] x λp=>match p with
   | .one (.sR f [])=>jK (bp pc.f f && ((P.funcs[f]?).map (λfn=>((fn.name== "runtime.NumGoroutine")||fn.body.isNone)))==az aD) (Mk [] c.args.toList λys=>pc.tr b [] ys)
   |_=>.fail
  |_=>.fail
 |_=>.fail
theorem Ux {B:ah}(H:kW o n A S F s r a w)(hF:∀j,b<=j->j<B->¬F j){op:bf}{pc:Ad P}{out:Out}(h:(agy P pc b op).run s r=az out)(kO:∀p∈out.cs,p)(qG:∀h∈out.hs,∀A w,h.lhs A w=h.rhs A w)(hB0:∀p∈out.re,p.1<B)
  {K:Act->aN->Prop} {Q:Exit->Act->aN->Prop} (k:∀ch v w',pc.φ (.panicked ch) v->Left o w'->Q (.panic ch) a w'):op.wp P a w K Q:=by
 unfold agy at h;split at h
 .rename_i c nN;split at h
  .rename_i x qo;obtain⟨p,e1,e2,e3,h⟩:=jE H (λl q=>by cases q) h;split at h
   .rename_i f;obtain⟨hg,h⟩:=jt h;rw[bB] at hg;obtain⟨ys,f1,f2,h⟩:=uZ H (λl q=>by cases q) h;exact PW (T:=[]) H hF nN qo e1 (j9 hg.1) (by simpa using hg.2) f1 f2 h kO qG hB0 k
   cases h
  cases h
 cases h
structure POp (P:aY) where
 tr:ah->bf->Tr Out
 φ:Out->aa PanicEntry->Prop
 ok:∀ {o:jO} {n:ah} {A:jU} {S:jv} {F:ah->Prop} {s:ah->ai E2} {r:ah->ai R2} {a:Act} {w:aN} {b B:ah} {op:bf} {out:Out},kW o n A S F s r a w->(∀j,b<=j->j<B->¬F j)->(tr b op).run s r=az out->(∀p∈out.cs,p)->(∀h∈out.hs,∀A w,h.lhs A w=h.rhs A w)->(∀p∈out.re,p.1<B)->
  ∀ {K:Act->aN->Prop} {Q:Exit->Act->aN->Prop},(∀ch w',φ out ch->Left o w'->Q (.panic ch) a w')->op.wp P a w K Q
def Ad.op (pc:Ad P):POp P:=⟨agy P pc,λ_ ch=> ∃v,pc.φ (.panicked ch) v,λH hF h kO qG hB _ _ k=>Ux H hF h kO qG hB λch v w' h1 h2=>k ch w' ⟨v,h1⟩ h2⟩
def acg (op:bf):Tr Out:=match op.op with
 | .panic x=>qm [] x λy=>match y with
  | .one (.v (.iface t v))=>.ret ⟨[],[],.one (.v (.iface t v)),[]⟩
  |_=>.fail
 |_=>.fail
def yY (P:aY):POp P:=⟨λ_ op=>acg op,λout ch=> ∃t v,out.sy= .one (.v (.iface t v))/\ch=[{v:=.iface t v,recovered:=aD}],by
 intro o n A S F s r a w b B op out H hF h kO qG hB K Q k;unfold acg at h;split at h
 .rename_i x nN;obtain⟨y,e1,e2,e3,h⟩:=jE H (λl q=>by cases q) h;split at h
  .rename_i t v;have e:=jH h;subst e;have e4:(aG a.eval op).run P w= .halt (.panic (.iface t v)) w:=by
    simp only[aG,nN];rw[e1];rfl
   unfold Oper.wp;rw[e4];exact k _ w ⟨t,v,rfl,rfl⟩ ⟨S,H.jM.sub λ_ _ q=>by cases q⟩
  cases h
 cases h⟩
structure UpX:Type 1 where
 ops:aq bf
 op:bf
 rest:aa bf
 us:aa um
 r:aa It
def upT (P:aY)(T:aa (lM P))(hn:aa (ah×ak))(n:ah)(B:Code)(k:ah)(σ:mX):aa It->ai UpX
 | .run p::r=>match sub B p with
  | .region _ ops aD=>match BF ops,ops.toList.drop k with
   |true,op::rest=>match op.guard with
    |none=>match Ac P T 4096 hn n ops (p7 σ) (mH σ) (ops.toList.take k) σ.nx [] [] with
     |some us=>az ⟨ops,op,rest,us,r⟩
     |none=>aA
    |some _=>aA
   |_,_=>aA
  |_=>aA
 |_=>aA
theorem Yl {hn:aa (ah×ak)}{k:ah}{x:UpX}(h:lH o n σ a w)(hx:upT P T hn n B k σ st=az x)(kO:∀p∈x.us.flatMap (·.cs),p)(qG:∀y∈x.us.flatMap (·.hs),∀A w,y.lhs A w=y.rhs A w)
  (kk:∀A' S' F' a' w',kW o n A' S' F' (mN (p7 σ) (sK x.us [])) (jB (mH σ) (sL x.us [])) a' w'->(∀j,σ.nx+4096*k<=j->¬F' j)->x.op.wp P a' w' (wpList P x.ops (yU (post mo P B Q x.r)) x.rest) (yU (post mo P B Q x.r))):At mo P T B Q st a w:=by
 refine⟨?_⟩;unfold upT at hx;split at hx
 .rename_i p r;split at hx
  .rename_i id ops pG;split at hx
   .rename_i op rest vR aeZ;split at hx
    .rename_i hg;split at hx
     .rename_i us D4;cases hx;show(sub B p).qP mo P (post mo P B Q r) a w;rw[pG];obtain⟨⟨A,S,H⟩,h0,np⟩:=h;refine yg vR ?_;have hk:(ops.toList.take k).length=k:=by
       have:=bh List.length aeZ;rw[b9,b7] at this;rw[bJ];omega
      rw[<-eW k ops.toList,aeZ];refine BB (Q:=yU (post mo P B Q r)) (L:=λ_=>av) (rest:=op::rest) h0 D4 H (λj hj _ hn=>by have hn:j<σ.nx:=hn;omega) (λ_ _=>trivial) (λu hu q hq=>kO q (cQ.2 ⟨u,hu,hq⟩)) (λu hu q hq=>qG q (cQ.2 ⟨u,hu,hq⟩)) λA' S' F' a' w' H' LR _=>?_;rw[hk] at LR;simp only[wpList];rw[aQ (by simp[dh,hg])];exact .inl (kk A' S' F' a' w' H' λj hj=>LR j hj tv)
     cases hx
    cases hx
   cases hx
  cases hx
 cases hx
def Uy (P:aY)(T:aa (lM P))(hn:aa (ah×ak))(n:ah)(B:Code)(pc:POp P)(k:ah)(σ:mX)(st:aa It):ai ((aa Prop×aa Hid)×Out):=match upT P T hn n B k σ st with
 |some x=>match(pc.tr (σ.nx+4096*k) x.op).run (mN (p7 σ) (sK x.us [])) (jB (mH σ) (sL x.us [])) with
  |some out=>match out.re.all λp=>bP p.1 (σ.nx+4096*k+4096) with
   |true=>az ((x.us.flatMap (·.cs)++out.cs,x.us.flatMap (·.hs)++out.hs),out)
   |false=>aA
  |none=>aA
 |none=>aA
def pC:ai ((aa Prop×aa Hid)×Out)->aa Prop
 |some x=>x.1.1
 |none=>[]
def pH:ai ((aa Prop×aa Hid)×Out)->aa Hid
 |some x=>x.1.2
 |none=>[]
def pO:ai ((aa Prop×aa Hid)×Out)->Out
 |some x=>x.2
 |none=>⟨[],[],.one (.v .nilIface),[]⟩
theorem mB {pr:Prop}(pc:POp P)(hn:aa (ah×ak))(k:ah)(h:lH o n σ a w)(hp:pr)(kk:∀ch a' w',pc.φ (pO (Uy P T hn n B pc k σ st)) ch->a'.defers=[]->Left o w'->Q (.panic ch) a' w')
  (h1:(Uy P T hn n B pc k σ st).isSome=aC:=by kernel_rfl) (h2:Cm (pC (Uy P T hn n B pc k σ st))=pr:=by kernel_rfl)
  (h3:∀A w,(pH (Uy P T hn n B pc k σ st)).map (λh=>h.lhs A w)=(pH (Uy P T hn n B pc k σ st)).map λh=>h.rhs A w:=by intro A w;kernel_rfl):At mo P T B Q st a w:=by
 obtain⟨x,hx⟩:=bS.1 h1;rw[hx] at h2 h3 kk;have kO:=vE.1 (show Cm x.1.1 by rw[show Cm x.1.1=pr from h2];exact hp);have qG:∀y∈x.1.2,∀A w,y.lhs A w=y.rhs A w:=λy hy A w=>oE (h3 A w) hy;clear h1 h2 h3 hp;unfold Uy at hx;split at hx
 .rename_i y hy;split at hx
  .rename_i out qH;split at hx
   .rename_i DZ;cases hx;exact Yl h hy (λq hq=>kO q (bU _ hq)) (λq hq=>qG q (bU _ hq)) λA S F a' w' H hF=>pc.ok H (λj h1 _=>hF j h1) qH (λq hq=>kO q (bV _ hq)) (λq hq=>qG q (bV _ hq)) (λq hq=>cw.mp (bG.1 DZ q hq)) λch w2 h1 h2=>vb (kk ch a' w2 h1 H.lK h2)
   cases hx
  cases hx
 cases hx
def pick {α:Type}(us:aa um)(M:aa ah)(k:ah)(f:um->aa α):aa α:=((bT us.length).filter λi=>!Nat.beq i k && !(M.getD i 0).testBit k).flatMap λi=>match us[i]? with
 |some u=>f u
 |none=>[]
theorem RH {us:aa um}{M:aa ah}{k i:ah}{u:um}(h:us[i]?=az u)(h1:i≠k)(h2:(M.getD i 0).testBit k=aD):(∀p∈u.cs,p∈pick us M k (·.cs))/\∀y∈u.hs,y∈pick us M k (·.hs):=by
 have hm:i∈(bT us.length).filter λi=>!Nat.beq i k && !(M.getD i 0).testBit k:=by
  refine bX.2 ⟨de.2 (cF.1 h).1,?_⟩;rw[h2];have:bp i k=aD:=by
   cases hx:bp i k with
   |false=>rfl
   |true=>exact(h1 (j9 hx)).elim
  rw[this];rfl
 exact⟨λp hp=>cQ.2 ⟨i,hm,by rw[h];exact hp⟩,λy hy=>cQ.2 ⟨i,hm,by rw[h];exact hy⟩⟩
def Uz (P:aY)(T:aa (lM P))(hn:aa (ah×ak))(n:ah)(B:Code)(pc:POp P)(k:ah)(σ:mX):aa It->ai ((aa Prop×aa Hid)×Out)
 | .run p::_=>match sub B p with
  | .region _ ops aC=>match BF ops,ops[k]? with
   |true,az op=>match op.guard with
    |none=>match Ac P T 4096 hn n ops (p7 σ) (mH σ) ops.toList σ.nx [] [] with
     |some us=>match ML P T 4096 hn n ops (p7 σ) (mH σ) σ.nx us (Ka (qu ops.toList) ops.size) && P.follows .mixedOrders with
      |true=>match(pc.tr (σ.nx+4096*k) op).run (MK (Xy ((bT ops.size).filter (IB (Ka (qu ops.toList) ops.size) k)) us) (mN (p7 σ) (xM us ((Ka (qu ops.toList) ops.size).getD k 0).testBit ops.size)))
        (MK (Xz ((bT ops.size).filter (IB (Ka (qu ops.toList) ops.size) k)) us) (jB (mH σ) (xN us ((Ka (qu ops.toList) ops.size).getD k 0).testBit ops.size))) with
       |some out=>match out.re.all λp=>bP p.1 (σ.nx+4096*k+4096) with
        |true=>az ((pick us (Ka (qu ops.toList) ops.size) k (·.cs)++out.cs,pick us (Ka (qu ops.toList) ops.size) k (·.hs)++out.hs),out)
        |false=>aA
       |none=>aA
      |false=>aA
     |none=>aA
    |some _=>aA
   |_,_=>aA
  |_=>aA
 |_=>aA
theorem Ku {pr:Prop}(pc:POp P)(hn:aa (ah×ak))(k:ah)(h:lH o n σ a w)(hp:pr)(kk:∀ch a' w',pc.φ (pO (Uz P T hn n B pc k σ st)) ch->a'.defers=[]->Left o w'->Q (.panic ch) a' w')
  (h1:(Uz P T hn n B pc k σ st).isSome=aC:=by kernel_rfl) (h2:Cm (pC (Uz P T hn n B pc k σ st))=pr:=by kernel_rfl)
  (h3:∀A w,(pH (Uz P T hn n B pc k σ st)).map (λh=>h.lhs A w)=(pH (Uz P T hn n B pc k σ st)).map λh=>h.rhs A w:=by intro A w;kernel_rfl):At mo P T B Q st a w:=by
 obtain⟨x,hx⟩:=bS.1 h1;rw[hx] at h2 h3 kk;have kO:=vE.1 (show Cm x.1.1 by rw[show Cm x.1.1=pr from h2];exact hp);have qG:∀y∈x.1.2,∀A w,y.lhs A w=y.rhs A w:=λy hy A w=>oE (h3 A w) hy;clear h1 h2 h3 hp;refine⟨?_⟩;unfold Uz at hx;split at hx
 .rename_i p r;split at hx
  .rename_i id ops pG;split at hx
   .rename_i op vR nN;split at hx
    .rename_i hg;split at hx
     .rename_i us D4;split at hx
      .rename_i LQ;split at hx
       .rename_i out qH;split at hx
        .rename_i DZ;cases hx;rw[bB] at LQ;obtain⟨⟨A,S,H⟩,h0,np⟩:=h;show(sub B p).qP mo P (post mo P B Q r) a w;rw[pG];refine Fw vR LQ.2 ?_;have H1:kW o n A S (· <σ.nx) (p7 σ) (mH σ) a {w with drawn:=w.drawn+1}:=⟨H.size,H.lK,H.env,H.rH,H.lq,H.jM.on ⟨rfl,rfl,rfl,aW _,λ_ _=>rfl⟩,H.args,H.wj⟩;refine ID (Q:=yU (post mo P B Q r)) h0 D4 rfl LQ.1 k (λi u hu h1 h2=>⟨λq hq=>kO q (bU _ ((RH hu h1 h2).1 q hq)),λy hy=>qG y (bU _ ((RH hu h1 h2).2 y hy))⟩)
          (λhk=>ay (di.1 nN).1 (by omega)) (λi hi op' ajv A S F X a' w' H' hF hs hr=>?_) H1 λj hj hn=>by have hn:j<σ.nx:=hn;omega
         subst hi;rw[nN] at ajv;cases ajv;exact⟨hg,λK=>pc.ok H' hF (Tr.mono hs hr _ qH) (λq hq=>kO q (bV _ hq)) (λq hq=>qG q (bV _ hq)) (λq hq=>cw.mp (bG.1 DZ q hq)) λch w2 h1 h2=>vb (kk ch a' w2 h1 H'.lK h2)⟩
        cases hx
       cases hx
      cases hx
     cases hx
    cases hx
   cases hx
  cases hx
 cases hx
theorem qI {o:jO}{φ:bY->aO->Prop}{fn:Func}{m:sM}{y:m.Y}{ch:aa PanicEntry}(hφ:φ (.panicked ch) (Km ((m.rsy y).map (Sy.den A))))(hd:a.defers=[])(hl:Left (o.AR A m.kp) w)(hm:mJ 0 m.vu y.1=[]:=by rfl):aJ P fn (Uv φ o A m y) (.panic ch) a w:=by
 have⟨S,H⟩:=hl;refine⟨hd,_,hφ,A,S,lQ.refl _ _,?_,rfl⟩;rw[hm];exact H.sub λ_ _ q=>by cases q
def PX (ft:aV)(N:af)(e:bY)(_:aO):Prop:=∃x y:af,e= .panicked [{v:=.iface ft (.agg #[.int .i64 x,.int .i64 y]),recovered:=aD}]/\(0<=x/\x<=N)/\0<y
theorem Ae {out:Out}{ch:aa PanicEntry}{ft:aV}{x y N:af}{v:aO}(h:(yY P).φ out ch)(hx:0<=x/\x<=N)(hy:0<y)(e:out.sy= .one (.v (.iface ft (.agg #[.int .i64 x,.int .i64 y]))):=by kernel_rfl):PX ft N (.panicked ch) v:=by
 obtain⟨t,u,h1,rfl⟩:=h;rw[e] at h1;cases h1;exact⟨x,y,rfl,hx,hy⟩
def Hv {ft:aV}{N:af}{f:bI}{m:sM}{rF:m.X->Prop}{fx:m.X->m.Y}(ok:Es (PX ft N) P f m rF fx):Ad P:=⟨PX ft N,f,Yg m rF fx,λ_ _ ⟨_,_,h,_⟩=>⟨_,h⟩,M4 ok⟩
end
section
variable {mo:Mode}{P:aY}{T:aa (lM P)}{B:Code}{Q Q':oL}{a:Act}{w:aN}
theorem tc (h:∀e a w,Q e a w->Q' e a w):∀(st:aa It) (e:Exit) (a:Act) (w:aN),post mo P B Q st e a w->post mo P B Q' st e a w
 |[],e,a,w,k=>h e a w k
 | .run p::st,e,a,w,k=>by
  cases e with
  |normal=>exact qv (show(sub B p).qP mo P (post mo P B Q st) a w from k) (tc h st)
  |_=>exact tc h st _ a w k
 | .oN i::st,e,a,w,k=>by
  cases e with
  |exit j=>
   have k:if j=i then post mo P B Q st .normal a w else post mo P B Q st (.exit j) a w:=k;show if j=i then post mo P B Q' st .normal a w else post mo P B Q' st (.exit j) a w;split
   .rename_i q;rw[aQ q] at k;exact tc h st _ a w k
   rename_i q;rw[aP q] at k;exact tc h st _ a w k
  |_=>exact tc h st _ a w k
 | .lp K::st,e,a,w,k=>by
  cases e with
  |normal=>exact k
  |_=>exact tc h st _ a w k
theorem At.mono {st:aa It}(h:At mo P T B Q st a w)(k:∀e a w,Q e a w->Q' e a w):At mo P T B Q' st a w:=⟨tc k st _ a w h.get⟩
end
abbrev sM.no (m:sM):sM:=⟨m.sh,m.ar,[],[],m.kp,aD,m.ga⟩
def Ym (ft:aV)(N:af)(m:sM)(ok:m.X->Prop)(fx:m.X->m.Y)(o:jO)(A:jU)(x:m.X)(e:bY)(w':aN):Prop:=
 (ok x/\PN o A m (fx x) e w')\/(¬ok x/\Uv (PX ft N) o A m.no ((),()) e w')
def vc (ft:aV)(N:af)(P:aY)(f:bI)(m:sM)(rF ok:m.X->Prop)(fx:m.X->m.Y):Prop:=
 ∀(o:jO) (A:jU) (x:m.X),oz (o.AR A m.kp) o.w o.S (jL A (jB (λ_=>aA) (mJ 0 m.sh x.1)))->(∀j y,jB (λ_=>aA) (mJ 0 m.sh x.1) j=az y->yI (o.AR A m.kp) A j y)->rF x->
  aI P f ((Kn m.ga (p8 m.ar x.2)).map (Sy.den A)).toArray o.w (Ym ft N m ok fx o A x)
section
variable {ft:aV}{N:af}{P:aY}{f:bI}{m:sM}{rF ok:m.X->Prop}{fx:m.X->m.Y}
theorem vc.yes (h:vc ft N P f m rF ok fx):nX P f m (λx=>rF x/\ok x) fx:=λo A x h1 h2 hd=>(h o A x h1 h2 hd.1).mono λe w q=>q.elim (·.2) λq=>(q.1 hd.2).elim
theorem vc.no (h:vc ft N P f m rF ok fx):Es (PX ft N) P f m.no (λx=>rF x/\¬ok x) (λ_=>((),())):=λo A x h1 h2 hd=>(h o A x h1 h2 hd.1).mono λe w q=>q.elim (λq=>(hd.2 q.1).elim) (·.2)
theorem tB (fn:Func)(n:ah)(T:aa (lM P))(hf:P.funcs[f]?=az fn)
  (k:∀(o:jO) (A:jU) (x:m.X),rF x->∀a w,lH (o.AR A m.kp) n (stM m x) a w->At pl P T (fn.body.getD .skip) (aJ P fn (Ym ft N m ok fx o A x)) [.run []] a w)
  (hb:fn.body.isSome=aC:=by kernel_rfl) (hn:fn.ntmps=n:=by kernel_rfl) (hl:aE (m.ga.length+m.ar.length<=n)=aC:=by kernel_rfl)
  (hw:(aE (m.kp<=m.sh.length) && (m.ar.all (Cp.below m.sh.length) && m.sh.all (Pc.below m.sh.length)))=aC:=by kernel_rfl):vc ft N P f m rF ok fx:=
 MX fn n T m hf (R:=Ym ft N m ok fx) k hb hn hl hw
variable {mo:Mode}{T:aa (lM P)}{B:Code}{st:aa It}{a:Act}{w:aN}{fn:Func}{o:jO}{A:jU}{x:m.X}
theorem IM {R R':bY->aN->Prop}(h:∀e w,R e w->R' e w):∀(e:Exit) (a:Act) (w:aN),aJ P fn R e a w->aJ P fn R' e a w
 | .normal,_,w,⟨h1,v,h2,h3⟩=>⟨h1,v,h2,h _ _ h3⟩
 | .ret,_,w,⟨h1,v,h2,h3⟩=>⟨h1,v,h2,h _ _ h3⟩
 | .panic _,_,w,⟨h1,h2⟩=>⟨h1,h _ _ h2⟩
 | .outgrown,_,w,h1=>h _ _ h1
theorem vY (p9:ok x)(h:At mo P T B (aJ P fn (PN o A m (fx x))) st a w):At mo P T B (aJ P fn (Ym ft N m ok fx o A x)) st a w:=h.mono (IM λ_ _ q=>.inl ⟨p9,q⟩)
theorem zI (Be:¬ok x)(h:At mo P T B (aJ P fn (Uv (PX ft N) o A m.no ((),()))) st a w):At mo P T B (aJ P fn (Ym ft N m ok fx o A x)) st a w:=h.mono (IM λ_ _ q=>.inr ⟨Be,q⟩)
end
section
variable {P:aY}{T':jv}{v:aO}
def agz (lS:aa (ak×Ty))(x:pW lS)(raw:aa aO):mX:=⟨Aq 0 ((mO lS x 0).1++raw.map λu=>.one (vA u)),(mO lS x 0).2,(mO lS x 0).2.length⟩
theorem ach {f:bI}(fn:Func)(n:ah)(T:aa (lM P)){lS:aa (ak×Ty)}{rs:aa Ty}{fx:pq rs}(raw:aa aO)(o:Orig)(vs:aa aO)(x:pW lS)(hx:Bx o.S (· <o.w.heap.size) o.w lS vs x)(hf:P.funcs[f]?=az fn)
  (k:∀a w,lH (jO.of o) n (agz lS x raw) a w->At pl P T (fn.body.getD .skip) (aJ P fn (He o λS v w'=>qN S w' rs v fx)) [.run []] a w)
  (hb:fn.body.isSome=aC:=by kernel_rfl) (hn:fn.ntmps=n:=by kernel_rfl) (hl:aE (lS.length+raw.length<=n)=aC:=by kernel_rfl):aI P f (vs++raw).toArray o.w (He o λS v w'=>qN S w' rs v fx):=by
 have hlen:=zH hx;refine Kh fn n hf (λa ha=>?_) hb hn (by rw[bA,hlen];exact hl);obtain⟨A,h1,h2,h3,h5,h4⟩:=zG (o:=jO.of o) lS x vs 0 Wt (λ_=>False) (yX (λk hk=>⟨hk,λq=>q⟩) hx) λ_ _ q=>q;have nH:((mO lS x 0).1++raw.map λu=>Sy.one (vA u)).map (Sy.den A)=vs++raw:=by
  rw[cA,h2,cz]
  congr 1
  exact(dm λu _=>yG A u).trans (List.map_id raw)
 have MB:∀y∈(mO lS x 0).1++raw.map λu=>Sy.one (vA u),y.all (FU (λ_=>False) (mO lS x 0).2)/\y.lu A:=λy hy=>by
  rcases bE.1 hy with hy|hy
  .exact h4 y hy
  obtain⟨u,_,rfl⟩:=bz.1 hy;exact⟨yH _ u,wD A u⟩
 have r7:∀t e,p7 (agz lS x raw) t=az e->e.ch=[]/\∃y,((mO lS x 0).1++raw.map λu=>Sy.one (vA u))[t]?=az y/\e=⟨[],y⟩:=λt e he=>by
  obtain⟨_,y,q1,q2⟩:=uK he;exact⟨by rw[q2],y,by simpa using q1,q2⟩
 have H0:kW (jO.of o) n A o.S (λ_=>False) (λ_=>aA) (λ_=>aA) a o.w:=⟨ha.1,ha.2.1,λ_ _ q=>(by cases q),λ_ _ q=>(by cases q),λ_ _ q=>(by cases q),oz.start (jO.of o),λ_ _ q=>(by cases q),⟨λ_ q=>q.elim,λ_ q=>q.elim⟩⟩;have H1:=H0.ro (lQ.refl _ _) h3;have hle:∀j,FU (λ_=>False) (mO lS x 0).2 j->j<(mO lS x 0).2.length:=λj hj=>by
  rcases hj with hj|⟨z,hz⟩
  .exact hj.elim
  have:=h5 _ hz;simpa using this
 have ue:lH (jO.of o) n (agz lS x raw) a o.w:=by
  refine⟨⟨A,o.S,H1.size,H1.lK,λt e he=>?_,λt e he _=>?_,λj y hj=>?_,H1.jM,H1.args,⟨λ_ q=>q.elim,λ_ q=>q.elim⟩⟩,λt e he=>(r7 t e he).1,λ_ q=>q.elim⟩
  .obtain⟨_,y,q1,rfl⟩:=r7 t e he;have hv:(vs++raw)[t]?=az (y.den A):=by rw[<-nH,cY,q1];rfl
   have MU:=(cF.1 hv).1;refine ha.2.2 ⟨t,[],y.den A⟩ (bz.2 ⟨(t,y.den A),?_,rfl⟩);refine anw.2 ⟨t,?_⟩;rw[aoW];exact⟨by rw[List.getElem?_range MU],hv⟩
  .obtain⟨_,y,q1,rfl⟩:=r7 t e he;have:=MB y (cn q1);exact⟨Sy.mono hle this.1,this.2⟩
  have:=H1.lq j y hj;exact⟨hle j this.1,R2.mono hle this.2.1,this.2.2⟩
 have:=k a o.w ue;have this:(sub (fn.body.getD .skip) []).qP pl P (post pl P (fn.body.getD .skip) (aJ P fn (He o λS v w'=>qN S w' rs v fx)) []) a o.w:=this.get;exact this
def agA (w:aN):Orig:=⟨w,λk=>k<w.heap.size,λ_ h=>h⟩
theorem UA {f:bI}{args:aq aO}{w:aN}{b:ak}(h:aI P f args w (He (agA w) λS v w'=>qN S w' [.bool] v ((b,()):pq [.bool]))):aI P f args w (VL (.bool b) w):=
 h.mono λe w' ⟨v,h1,h2,h3⟩=>by
  obtain⟨cs,q1,q2⟩:Rd (yA (agA w) w') w' v (show ak from b):=h2;have q1:cs=[.bool b]:=q1;subst q1;exact⟨by rw[h1,q2];rfl,h3⟩
end
def qX (u:aa af):Prop:=∀j:ah,j<u.length->0<=u.getD j 0/\u.getD j 0<=(j:af)
def IP (u:aa af):ah->af->af
 |0,i=>i
 |f+1,i=>if u.getD i.toNat 0=i then i else IP u f (u.getD i.toNat 0)
def jP (u:aa af)(i:af):af:=IP u (i.toNat+1) i
theorem oq {u:aa af}(h:qX u){i:af}(h0:0<=i)(h1:i<(aM u:af)):0<=u.getD i.toNat 0/\u.getD i.toNat 0<=i:=by
 have:=h i.toNat (by omega);omega
theorem IQ {u:aa af}(h:qX u):∀(f g:ah) (i:af),0<=i->i<(aM u:af)->i.toNat<f->i.toNat<g->IP u f i=IP u g i
 |0,_,_,_,_,h,_=>by omega
 |_+1,0,_,_,_,_,h=>by omega
 |f+1,g+1,i,h0,h1,hf,hg=>by
  unfold IP;split
  .rfl
  rename_i qD;have:=oq h h0 h1;exact IQ h f g _ this.1 (by omega) (by omega) (by omega)
theorem pL {u:aa af}(h:qX u){i:af}(h0:0<=i)(h1:i<(aM u:af)):jP u i=if u.getD i.toNat 0=i then i else jP u (u.getD i.toNat 0):=by
 grind [jP,IP,oq,IQ]
theorem mT {u:aa af}(h:qX u){i:af}(h0:0<=i)(h1:i<(aM u:af))(hr:u.getD i.toNat 0=i):jP u i=i:=by grind [pL]
theorem BN {u:aa af}(h:qX u){i:af}(h0:0<=i)(h1:i<(aM u:af)):jP u (u.getD i.toNat 0)=jP u i:=by
 grind [pL,mT]
theorem Yn {u:aa af}(h:qX u):∀(n:ah) (i:af),i.toNat<=n->0<=i->i<(aM u:af)->0<=jP u i/\jP u i<=i/\u.getD (jP u i).toNat 0=jP u i:=by
 intro n
 induction n with
 |zero=>
  intro i hn h0 h1;have:=oq h h0 h1;rw[mT h h0 h1 (by omega)];exact⟨h0,bM _,by omega⟩
 |succ n ih=>
  intro i hn h0 h1;have hu:=oq h h0 h1;rw[pL h h0 h1];split
  .rename_i e;exact⟨h0,bM _,e⟩
  rename_i e;obtain⟨a,b,c⟩:=ih (u.getD i.toNat 0) (by omega) hu.1 (by omega);exact⟨a,by omega,c⟩
theorem tQ {u:aa af}(h:qX u){i:af}(h0:0<=i)(h1:i<(aM u:af)):0<=jP u i/\jP u i<=i/\u.getD (jP u i).toNat 0=jP u i:=Yn h _ i (aW _) h0 h1
theorem FG {u:aa af}(h:qX u){i:af}(h0:0<=i)(h1:i<(aM u:af)):jP u (jP u i)=jP u i:=by
 grind [tQ,mT]
theorem wP {u:aa af}{i j:ah}{x:af}(hi:i<u.length):(u.set i x).getD j 0=if i=j then x else u.getD j 0:=by
 grind
theorem RI {u:aa af}(h:qX u){i:af}(h0:0<=i)(h1:i<(aM u:af)):
  qX (u.set i.toNat (u.getD (u.getD i.toNat 0).toNat 0))/\∀j,0<=j->j<(aM u:af)->jP (u.set i.toNat (u.getD (u.getD i.toNat 0).toNat 0)) j=jP u j:=by
 have hu:=oq h h0 h1;have hz:=oq h hu.1 (show u.getD i.toNat 0<(aM u:af) by omega);have p9:qX (u.set i.toNat (u.getD (u.getD i.toNat 0).toNat 0)):=by
  intro j hj;rw[cq] at hj;rw[wP (by omega)];split
  .rename_i e;subst e;omega
  exact h j hj
 refine⟨p9,?_⟩;have key:∀(n:ah) (j:af),j.toNat<=n->0<=j->j<(aM u:af)->jP (u.set i.toNat (u.getD (u.getD i.toNat 0).toNat 0)) j=jP u j:=by
  intro n
  induction n with
  |zero=>
   intro j hn DI Bf;have a:=oq h DI Bf;have b:=oq p9 DI (by rw[cq];exact Bf);rw[mT h DI Bf (by omega),mT p9 DI (by rw[cq];exact Bf) (by omega)]
  |succ n ih=>
   intro j hn DI Bf;have a:=oq h DI Bf;have agB:j<((u.set i.toNat (u.getD (u.getD i.toNat 0).toNat 0)).length:af):=by rw[cq];exact Bf
   rw[pL p9 DI agB,wP (by omega)]
   by_cases e:i.toNat=j.toNat
   .have e:i=j:=by omega
    subst e;rw[aQ rfl]
    by_cases c:u.getD (u.getD i.toNat 0).toNat 0=i
    .rw[aQ c,mT h h0 h1 (by omega)]
    rw[aP c,ih _ (by omega) hz.1 (by omega),BN h hu.1 (by omega),BN h h0 h1]
   rw[aP e];rw[pL h DI Bf];split
   .rfl
   exact ih _ (by omega) a.1 (by omega)
 exact λj=>key j.toNat j (aW _)
theorem aci {u:aa af}(h:qX u){r s:af}(hr:0<=r)(hs:0<=s)(hr1:r<(aM u:af))(hs1:s<(aM u:af))(er:u.getD r.toNat 0=r)(es:u.getD s.toNat 0=s)(qD:r≠s):
  qX (u.set (max r s).toNat (min r s))/\∀j,0<=j->j<(aM u:af)->jP (u.set (max r s).toNat (min r s)) j=if jP u j=max r s then min r s else jP u j:=by
 have p9:qX (u.set (max r s).toNat (min r s)):=by
  intro j hj;rw[cq] at hj;rw[wP (by omega)];split
  .rename_i e;subst e;omega
  exact h j hj
 refine⟨p9,?_⟩;have rM:u.getD (max r s).toNat 0=max r s:=by
  rcases aoX r s with q|q
  .rw[apu q];exact es
  rw[apv q];exact er
 have rm:u.getD (min r s).toNat 0=min r s:=by
  rcases aoX r s with q|q
  .rw[apw q];exact er
  rw[apx q];exact es
 have key:∀(n:ah) (j:af),j.toNat<=n->0<=j->j<(aM u:af)->jP (u.set (max r s).toNat (min r s)) j=if jP u j=max r s then min r s else jP u j:=by
  intro n
  induction n with
  |zero=>
   intro j hn DI Bf;have a:=oq h DI Bf;have b:=oq p9 DI (by rw[cq];exact Bf);rw[mT h DI Bf (by omega),mT p9 DI (by rw[cq];exact Bf) (by omega),aP (by omega)]
  |succ n ih=>
   intro j hn DI Bf;have a:=oq h DI Bf;have agB:j<((u.set (max r s).toNat (min r s)).length:af):=by rw[cq];exact Bf
   rw[pL p9 DI agB,wP (by omega)]
   by_cases e:(max r s).toNat=j.toNat
   .have e:j=max r s:=by omega
    subst e;rw[aQ rfl,aP (by omega),ih (min r s) (by omega) (by omega) (by omega),mT h (by omega) (by omega) rm,mT h DI Bf rM,aP (by omega),aQ rfl]
   rw[aP e,pL h DI Bf];split
   .rename_i c;rw[aP (by omega)]
   exact ih _ (by omega) a.1 (by omega)
 exact λj=>key j.toNat j (aW _)
theorem vL {u:aa af}{j:ah}{x:af}:(u++[x]).getD j 0=if j<u.length then u.getD j 0 else if j=u.length then x else 0:=by
 grind
theorem PY {u:aa af}(h:qX u):qX (u++[(aM u:af)])/\(∀j,0<=j->j<(aM u:af)->jP (u++[(aM u:af)]) j=jP u j)/\jP (u++[(aM u:af)]) (aM u:af)=(aM u:af):=by
 have p9:qX (u++[(aM u:af)]):=by
  intro j hj;rw[bA,dS] at hj;rw[vL];split
  .exact h j (by assumption)
  rw[aQ (by omega)];omega
 have hl:((u++[(aM u:af)]).length:af)=(aM u:af)+1:=by simp
 refine⟨p9,?_,mT p9 (by omega) (by omega) (by rw[vL,aP (by omega),aQ (by omega)])⟩;have key:∀(n:ah) (j:af),j.toNat<=n->0<=j->j<(aM u:af)->jP (u++[(aM u:af)]) j=jP u j:=by
  intro n
  induction n with
  |zero=>
   intro j hn DI Bf;have a:=oq h DI Bf;rw[mT h DI Bf (by omega),mT p9 DI (by omega) (by rw[vL,aQ (by omega)];omega)]
  |succ n ih=>
   intro j hn DI Bf;have a:=oq h DI Bf;have e9:(u++[(aM u:af)]).getD j.toNat 0=u.getD j.toNat 0:=by rw[vL,aQ (by omega)]
   rw[pL p9 DI (by omega),pL h DI Bf,e9];split
   .rfl
   exact ih _ (by omega) a.1 (by omega)
 exact λj=>key j.toNat j (aW _)
theorem alS (p:Addr)(w:aN)(hc:∃x,w.cell? p=az (.bool x))(hz:w.frozen? p=aD):
  CallsD aR 166 #[.pointer (az p)] .returning w λe u' w'=>e= .returned (.tuple #[])/\u'= .returning/\w'=w.setCell p (.bool aC):=by
 have⟨x,hc⟩:=hc;refine callsD_of_wpS func166 rfl λacj cs hu=>?_;apply wpS_region;simp[wpOpsS,go_sem,recoverD,hu,Tryz.ntmps166,Exit.thenS,hc,hz,bodyPostS,results,Tryz.results166];cases acj;simp_all
theorem alT (sb pb:ah)(x:af)(w:aN)(Ho:(w.alloc (.cells #[.bool aD] 4)).cell? ⟨sb,0,aA⟩=az (.map (az pb)))(hl:∃v,(eR 140 (.map (az pb)) (.int .i64 x) aD).run aR (w.alloc (.cells #[.bool aD] 4))= .ok v (w.alloc (.cells #[.bool aD] 4))):
  aI aR 138 #[.pointer (az ⟨sb,0,aA⟩),.int .i64 x] w (VL (.bool aC) w):=by
 have⟨v,hl⟩:=hl;have hmf:∀(fn:Fn) (first cap:aq aO) (w:aN),(Instr.makeFunc fn first cap).run aR w= .ok (.func fn first cap) w:=λ_ _ _ _=>rfl
 go_enter_defers func138,Tryz.ntmps138
 go_wp2
 refine leaves_cons (f:=166) (args:= #[.pointer (az ⟨w.heap.size,0,aA⟩)]) (by simp) (by simp[go_sem]) ?_;refine(alS ⟨w.heap.size,0,aA⟩ _ ⟨aC,by simp[go_sem]⟩ (by simp[go_sem])).mono ?_;rintro e u' w'' ⟨rfl,rfl,rfl⟩;simp[Leaves,settle,results,Tryz.results138,go_sem];exact⟨rfl,qC _ _⟩
def agC (b:ah)(kH:aa (ah×ah))(ys:aa Sy):Tr Out:=match kH,ys with
 |[],[.one (.ptr j 0),.one (.v (.int .i64 x))]=>.res j λz=>match z with
  | .box _ (.mp q::_)=>.res q λy=>match y with
   | .map .int .int _=>.ret ⟨[nv .int (show af from x)],[],.one (.b (.lit aC)),[]⟩
   |_=>.fail
  |_=>.fail
 |_,_=>.fail
theorem ack:yM aR 138 agC:=by
 intro o n A S F s r a w b B kH ys out H hF Pn yc h kO qG hB;unfold agC at h;split at h
 .rename_i j x;obtain⟨z,hz,h⟩:=jI h;split at h
  .rename_i bt q l;obtain⟨y,hy,h⟩:=jI h;split at h
   .rename_i m;have e:=jH h;subst e;have hx:nv .int (show af from x):=kO _ (aU.2 rfl);have hm:jL A r j=az (Rs.of (.box (A.b j) bt ((Sc.mp q::l).map (Sc.den A)))):=by simp[jL,hz,R2.den]
    have hb:w.heap[A.b j]?=az (.cells (((Sc.mp q::l).map (Sc.den A)).toArray) bt (0,0)):=H.jM.ok j _ hm;obtain⟨_,hbl,_⟩:=H.jM.own j _ (A.b j) hm rfl;have hq:jL A r q=az (Am (A.m q) m):=by simp[jL,hy,R2.den]
    obtain⟨pb,hpb,DY⟩:∃pb,A.m q=az pb/\rO S w pb m:=H.jM.ok q _ hq;obtain⟨_,FH,_⟩:=H.jM.own q _ pb hq hpb;have PZ:=qC w (.cells #[.bool aD] 4);obtain⟨zs,lU,_,_⟩:=DY.keep (w':=w.alloc (.cells #[.bool aD] 4)) (λk hk=>PZ.block k (H.jM.pT k hk)) (PZ.block pb FH);have OR:=lU.look (P:=aR) (t:=140) (kt:=3) (et:=3) (by kernel_rfl) (by kernel_rfl) (z:=.int .i64 0) (by kernel_rfl) hx;have uk:(w.alloc (.cells #[.bool aD] 4)).cell? ⟨A.b j,0,aA⟩=az (.map (az pb)):=by
     rw[aK _ _ _ _ _ _ ((PZ.block _ hbl).trans hb)];show az (Value.map (A.m q))=_;rw[hpb]
    refine(alT (A.b j) pb x w uk ⟨_,OR⟩).mono λe w' hw=>?_;obtain⟨rfl,M5⟩:=hw;refine⟨_,rfl,A,S,?_,rfl,tv,tv⟩;exact⟨H.size,H.lK,H.env,λt e he hc=>⟨Sy.mono (λ_=>.inl) (H.rH t e he hc).1,(H.rH t e he hc).2⟩,λj x hj=>⟨.inl (H.lq j x hj).1,R2.mono (λ_=>.inl) (H.lq j x hj).2.1,(H.lq j x hj).2.2⟩,H.jM.on M5,H.args,⟨λj hj=>.inl (H.wj.1 j hj),H.wj.2⟩⟩
   cases h
  cases h
 cases h
def ae0:lM aR:=⟨_,agC,ack⟩
abbrev sB:=aa (af×af)
def lg (M:sB)(L:aa af)(x:af):sB:=if(jr M x).isSome then M else kZ M x (aM L:af)
def l5 (M:sB)(L:aa af)(x:af):aa af:=if(jr M x).isSome then L else L++[x]
def l9 (M:sB)(L U:aa af)(x:af):aa af:=if(jr M x).isSome then U else U++[(aM L:af)]
def uh (M:sB)(g x:af):af:=if(jr M x).isSome then g else g+1
def mY (M:sB)(L:aa af)(x:af):af:=(jr M x).getD (aM L:af)
def OX:ah->aa af->af->aa af×af
 |0,U,i=>(U,i)
 |f+1,U,i=>if U.getD i.toNat 0=i then(U,i) else OX f (U.set i.toNat (U.getD (U.getD i.toNat 0).toNat 0)) ((U.set i.toNat (U.getD (U.getD i.toNat 0).toNat 0)).getD i.toNat 0)
theorem hvS {f:ah}{c:aa af}{k:af}(hf:0<f)(h:¬c.getD k.toNat 0=k):OX f c k=OX (f-1) (c.set k.toNat (c.getD (c.getD k.toNat 0).toNat 0)) ((c.set k.toNat (c.getD (c.getD k.toNat 0).toNat 0)).getD k.toNat 0):=by
 obtain⟨q,rfl⟩:∃q,f=q+1:=⟨f-1,by omega⟩
 grind [OX]
theorem hvE {f:ah}{c:aa af}{k:af}(hf:0<f)(h:c.getD k.toNat 0=k):OX f c k=(c,k):=by
 obtain⟨q,rfl⟩:∃q,f=q+1:=⟨f-1,by omega⟩
 grind [OX]
def td (U:aa af)(i:af):aa af:=(OX (i.toNat+1) U i).1
def FI (U:aa af)(i:af):af:=(OX (i.toNat+1) U i).2
theorem FJ:∀(f:ah) (U:aa af) (i:af),qX U->0<=i->i<(aM U:af)->i.toNat<f->
  (OX f U i).2=jP U i/\qX (OX f U i).1/\(OX f U i).1.length=U.length/\∀j,0<=j->j<(aM U:af)->jP (OX f U i).1 j=jP U j
 |0,_,_,_,_,_,h=>by omega
 |f+1,U,i,hU,h0,h1,hf=>by
  unfold OX;split
  .rename_i he;exact⟨(mT hU h0 h1 he).symm,hU,rfl,λ_ _ _=>rfl⟩
  rename_i he;have hy:=oq hU h0 h1;have hz:=oq hU hy.1 (show U.getD i.toNat 0<(aM U:af) by omega);obtain⟨k1,k2⟩:=RI hU h0 h1;have hn:(U.set i.toNat (U.getD (U.getD i.toNat 0).toNat 0)).getD i.toNat 0=U.getD (U.getD i.toNat 0).toNat 0:=by rw[wP (by omega),aQ rfl]
  have hl:(U.set i.toNat (U.getD (U.getD i.toNat 0).toNat 0)).length=U.length:=cq ..;rw[hn];obtain⟨q1,q2,q3,q4⟩:=FJ f (U.set i.toNat (U.getD (U.getD i.toNat 0).toNat 0)) (U.getD (U.getD i.toNat 0).toNat 0) k1 hz.1 (by omega) (by omega);refine⟨?_,q2,by omega,λj j0 j1=>by rw[q4 j j0 (by omega),k2 j j0 j1]⟩;rw[q1,k2 _ hz.1 (by omega),BN hU hy.1 (by omega),BN hU h0 h1]
def jnM (M:sB)(L:aa af)(x y:af):sB:=lg (lg M L x) (l5 M L x) y
def jnL (M:sB)(L:aa af)(x y:af):aa af:=l5 (lg M L x) (l5 M L x) y
def Yo (M:sB)(L U:aa af)(x y:af):aa af:=td (td (l9 (lg M L x) (l5 M L x) (l9 M L U x) y) (mY M L x)) (mY (lg M L x) (l5 M L x) y)
def AS (M:sB)(L U:aa af)(x y:af):af:=FI (l9 (lg M L x) (l5 M L x) (l9 M L U x) y) (mY M L x)
def AU (M:sB)(L U:aa af)(x y:af):af:=FI (td (l9 (lg M L x) (l5 M L x) (l9 M L U x) y) (mY M L x)) (mY (lg M L x) (l5 M L x) y)
def VS (M:sB)(L U:aa af)(x y:af):aa af:=if AS M L U x y=AU M L U x y then Yo M L U x y else(Yo M L U x y).set (max (AS M L U x y) (AU M L U x y)).toNat (min (AS M L U x y) (AU M L U x y))
def UB (M:sB)(L U:aa af)(g x y:af):af:=if AS M L U x y=AU M L U x y then uh (lg M L x) (uh M g x) y else uh (lg M L x) (uh M g x) y-1
def Yp (M:sB)(L U:aa af)(x y:af):ak:=if AS M L U x y=AU M L U x y then aD else aC
structure AV (M:sB)(L U:aa af):Prop where
 ok:qX U
 len:U.length=L.length
 at_:∀x i,jr M x=az i->0<=i/\i<(aM L:af)/\L.getD i.toNat 0=x
 Hw:M.length<=L.length
 ex:∀i:ah,i<L.length->jr M (L.getD i 0)=az (i:af)
theorem M6 (M:sB)(L:aa af)(x:af):L.length<=(l5 M L x).length/\(l5 M L x).length<=L.length+1:=by
 grind [l5]
theorem Yq (M:sB)(g x:af):g<=uh M g x/\uh M g x<=g+1:=by grind [uh]
theorem AV.nil:AV [] [] []:=⟨λj h=>(by simp at h),rfl,λx i h=>(by cases h),aW _,λi h=>(by simp at h)⟩
theorem AV.put {M:sB}{L U:aa af}(h:AV M L U)(x:af):AV (lg M L x) (l5 M L x) (l9 M L U x)/\0<=mY M L x/\mY M L x<((l5 M L x).length:af)/\jr (lg M L x) x=az (mY M L x):=by
 cases hx:jr M x with
 |some i=>
  have e1:lg M L x=M:=by unfold lg;rw[hx];rfl
  have e2:l5 M L x=L:=by unfold l5;rw[hx];rfl
  have e3:l9 M L U x=U:=by unfold l9;rw[hx];rfl
  have e4:mY M L x=i:=by unfold mY;rw[hx];rfl
  rw[e1,e2,e3,e4];obtain⟨h1,h2,_⟩:=h.at_ x i hx;exact⟨h,h1,h2,hx⟩
 |none=>
  have e1:lg M L x=kZ M x (aM L:af):=by unfold lg;rw[hx];rfl
  have e2:l5 M L x=L++[x]:=by unfold l5;rw[hx];rfl
  have e3:l9 M L U x=U++[(L.length:af)]:=by unfold l9;rw[hx];rfl
  have e4:mY M L x=(L.length:af):=by unfold mY;rw[hx];rfl
  rw[e1,e2,e3,e4];have hlen:=h.len;have yB:∀i:ah,i<L.length->L.getD i 0≠x:=λi hi q=>by
   have:=h.ex i hi;rw[q,hx] at this;cases this
  refine⟨⟨?_,by simp[hlen],λz i hz=>?_,?_,λi hi=>?_⟩,by omega,by simp;omega,by rw[lF,aQ rfl]⟩
  .have:=(PY h.ok).1;rwa[hlen] at this
  .rw[lF] at hz;split at hz
   .rename_i q;cases hz;subst q;refine⟨by omega,by simp;omega,?_⟩;rw[dw];simp
   obtain⟨k1,k2,k3⟩:=h.at_ z i hz;refine⟨k1,by simp;omega,?_⟩;rw[bD,eY (by omega),<-bD];exact k3
  .have:=qF M x (L.length:af);have:=h.Hw;simp;omega
  rw[lF];simp at hi
  by_cases q:i<L.length
  .rw[bD,eY q,<-bD,aP λe=>yB i q e.symm];exact h.ex i q
  have:i=L.length:=by omega
  subst this;simp
theorem ajw {U:aa af}{i j:af}(hU:qX U)(i0:0<=i)(i1:i<(U.length:af))(j0:0<=j)(j1:j<(U.length:af)):
  qX (td U i)/\(td U i).length=U.length/\qX (td (td U i) j)/\(td (td U i) j).length=U.length/\0<=FI U i/\FI U i<(U.length:af)/\0<=FI (td U i) j/\FI (td U i) j<(U.length:af):=by
 obtain⟨a1,a2,a3,_⟩:=FJ (i.toNat+1) U i hU i0 i1 (dU _);have a3:(td U i).length=U.length:=a3;have a2:qX (td U i):=a2;obtain⟨b1,b2,b3,_⟩:=FJ (j.toNat+1) (td U i) j a2 j0 (by omega) (dU _);have b3:(td (td U i) j).length=(td U i).length:=b3;have a1:FI U i=jP U i:=a1;have b1:FI (td U i) j=jP (td U i) j:=b1;obtain⟨q1,q2,_⟩:=tQ hU i0 i1;obtain⟨r1,r2,_⟩:=tQ a2 j0 (show j<((td U i).length:af) by omega);exact⟨a2,a3,b2,by omega,by rw[a1];exact q1,by rw[a1];omega,by rw[b1];exact r1,by rw[b1];omega⟩
def P0 (n:af)(e:af×af):Prop:=0<=e.1/\e.1<n/\0<=e.2/\e.2<n
instance (n:af) (e:af×af):ax (P0 n e):=by unfold P0;infer_instance
def UC (n:af)(E:aa (af×af)):Prop:=∀j,j<E.length->P0 n (E.getD j (0,0))
instance (n:af) (E:aa (af×af)):ax (UC n E):=by unfold UC;infer_instance
def kz (n:af)(E:aa (af×af)):af:=if n<0 then 3 else if 1024<n\/1024-n<(E.length:af) then 2 else if UC n E then 0 else 3
theorem FK {n:af}{E:aa (af×af)}(h0:0<=n)(h1:n<=1024)(h2:(E.length:af)<=1024-n){i:af}(hi:0<=i)(hl:i<(E.length:af))(h:¬P0 n (E.getD i.toNat (0,0))):kz n E=3:=by
 grind [kz,UC]
theorem IU {n:af}{E:aa (af×af)}(h0:0<=n)(h1:n<=1024)(h2:(E.length:af)<=1024-n){i:af}(hl:¬i<(E.length:af))(h:∀j:ah,(j:af)<i->P0 n (E.getD j (0,0))):kz n E=0:=by
 grind [kz,UC]
def mC (l:aa af)(n:af):Prop:=∀j,j<l.length->0<=l.getD j 0/\l.getD j 0<n/\(0<j->l.getD (j-1) 0<l.getD j 0)
instance (l:aa af) (n:af):ax (mC l n):=by unfold mC;infer_instance
def FL (l:aa af)(x:af):ah->af->af->af
 |0,lo,_=>lo
 |f+1,lo,hi=>if lo<hi then(if l.getD ((lo+hi)/2).toNat 0<x then FL l x f ((lo+hi)/2+1) hi else FL l x f lo ((lo+hi)/2)) else lo
def Yr (l:aa af)(x:af):af:=FL l x l.length 0 (aM l:af)
def hasB (l:aa af)(x:af):ak:=aE (Yr l x<(aM l:af)) && aE (l.getD (Yr l x).toNat 0=x)
theorem BO {l:aa af}{x lo hi:af}(h:¬lo<hi):∀f,FL l x f lo hi=lo
 |0=>rfl
 |f+1=>by grind [FL]
theorem zJ {l:aa af}{x:af}:∀(f g:ah) (lo hi:af),(hi-lo).toNat<=f->(hi-lo).toNat<=g->FL l x f lo hi=FL l x g lo hi
 |0,g,lo,hi,h1,h2=>by grind [BO]
 |f+1,0,lo,hi,h1,h2=>by rw[BO (by omega),BO (by omega)]
 |f+1,g+1,lo,hi,h1,h2=>by
  unfold FL
  by_cases h:lo<hi
  .rw[aQ h,aQ h];split
   .exact zJ f g _ _ (by omega) (by omega)
   exact zJ f g _ _ (by omega) (by omega)
  rw[aP h,aP h]
def RJ (l:aa af)(x lo hi:af):af:=FL l x (hi-lo).toNat lo hi
theorem ae1 {l:aa af}{x lo hi:af}(h:lo<hi)(hx:l.getD ((lo+hi)/2).toNat 0<x):RJ l x lo hi=RJ l x ((lo+hi)/2+1) hi:=by
 unfold RJ;obtain⟨f,hf⟩:∃f,(hi-lo).toNat=f+1:=⟨(hi-lo).toNat-1,by omega⟩
 grind [FL,zJ]
theorem ae2 {l:aa af}{x lo hi:af}(h:lo<hi)(hx:¬l.getD ((lo+hi)/2).toNat 0<x):RJ l x lo hi=RJ l x lo ((lo+hi)/2):=by
 unfold RJ;obtain⟨f,hf⟩:∃f,(hi-lo).toNat=f+1:=⟨(hi-lo).toNat-1,by omega⟩
 grind [FL,zJ]
theorem Kv {l:aa af}{x lo hi:af}(h:¬lo<hi):RJ l x lo hi=lo:=BO h _
theorem ae3 (l:aa af)(x:af):RJ l x 0 (aM l:af)=Yr l x:=by unfold RJ Yr;congr 1
theorem DJ {l:aa af}{n:af}(h:mC l n):∀j,j<l.length->(j:af)<=l.getD j 0
 |0,hj=>by have:=h 0 hj;omega
 |j+1,hj=>by
  have ih:=DJ h j (by omega);have:=(h (j+1) hj).2.2 (by omega)
  grind
theorem nk {l:aa af}{n:af}(h:mC l n)(hn:0<=n):(aM l:af)<=n:=by
 cases hl:l.length with
 |zero=>omega
 |succ m=>
  have h1:=DJ h m (by omega);have h2:=h m (by omega);omega
def CY (E:aa (af×af))(V L:aa af):Prop:=∀j,j<L.length->hasB V (E.getD (L.getD j 0).toNat (0,0)).1=aC/\hasB V (E.getD (L.getD j 0).toNat (0,0)).2=aC
instance (E:aa (af×af)) (V L:aa af):ax (CY E V L):=by unfold CY;infer_instance
def j6 (n:af)(E:aa (af×af))(V L:aa af):af:=
 if kz n E≠0 then kz n E else if ¬mC V n\/¬mC L (E.length:af) then 4 else if CY E V L then 0 else 4
theorem l6 {n:af}{E:aa (af×af)}(h:kz n E=0):0<=n/\n<=1024/\(E.length:af)<=1024-n/\UC n E:=by
 grind [kz]
theorem P3 {l m:aa af}(hl:(l.length:af)=(m.length:af))(h:∀j:ah,j<l.length->l.getD j 0=m.getD j 0):l=m:=by
 apply anG (by omega)
 grind
theorem qY {l:aa af}{x:af}:x∈l↔∃j,j<l.length/\l.getD j 0=x:=by
 constructor
 .intro h;obtain⟨j,hj,e⟩:=anL h;exact⟨j,hj,by rw[bD,bN hj];exact e⟩
 grind
def ajx (a b:aa af):Prop:=∀j,j<a.length->hasB b (a.getD j 0)=aC
instance (a b:aa af):ax (ajx a b):=by unfold ajx;infer_instance
theorem kA {n:af}{E:aa (af×af)}{V L:aa af}(h:j6 n E V L=0):kz n E=0/\mC V n/\mC L (E.length:af)/\CY E V L:=by
 grind [j6]
def j7 (E:aa (af×af))(d:af):af:=if d%2=0 then(E.getD (d/2).toNat (0,0)).1 else(E.getD (d/2).toNat (0,0)).2
def lX (d:af):af:=if d%2=0 then d+1 else d-1
def oZ (E:aa (af×af))(e v s:af):aa af:=
 (if s<=0/\j7 E (2*e+0)=v then[2*e+0] else[])++(if s<=1/\j7 E (2*e+1)=v then[2*e+1] else[])
def qw (E:aa (af×af))(L:aa af)(v:af):aa af:=L.flatMap λe=>oZ E e v 0
theorem acm {E:aa (af×af)}{e:af}:j7 E (2*e+0)=(E.getD e.toNat (0,0)).1:=by
 grind [j7]
theorem acn {E:aa (af×af)}{e:af}:j7 E (2*e+1)=(E.getD e.toNat (0,0)).2:=by
 grind [j7]
abbrev ae4 (l:aa af):aa af:=l.mergeSort λx y=>aE (x<=y)
def Ys (E:aa (af×af))(e v:af):Prop:=(E.getD e.toNat (0,0)).1=v\/(E.getD e.toNat (0,0)).2=v
instance (E:aa (af×af)) (e v:af):ax (Ys E e v):=by unfold Ys;infer_instance
theorem BP {l:aa af}{n:af}(h:mC l n):∀ {i j:ah},i<j->j<l.length->l.getD i 0<l.getD j 0:=by
 intro i j hij hj
 induction j with
 |zero=>omega
 |succ j ih=>
  have h1:=(h (j+1) hj).2.2 (by omega)
  grind
theorem FM {l:aa af}{n x:af}(h:mC l n):∀(f:ah) (lo hi:af),(hi-lo).toNat<=f->0<=lo->lo<=hi->hi<=(l.length:af)->(∀j:ah,(j:af)<lo->l.getD j 0<x)->(∀j:ah,hi<=(j:af)->j<l.length->x<=l.getD j 0)->
  0<=RJ l x lo hi/\RJ l x lo hi<=(l.length:af)/\(∀j:ah,(j:af)<RJ l x lo hi->l.getD j 0<x)/\(∀j:ah,RJ l x lo hi<=(j:af)->j<l.length->x<=l.getD j 0)
 |0,lo,hi,hf,h0,h1,h2,ha,hb=>by
  rw[Kv (by omega)];exact⟨h0,by omega,ha,λj hj=>hb j (by omega)⟩
 |f+1,lo,hi,hf,h0,h1,h2,ha,hb=>by
  by_cases rG:lo<hi
  .by_cases hx:l.getD ((lo+hi)/2).toNat 0<x
   .rw[ae1 rG hx];refine FM h f _ _ (by omega) (by omega) (by omega) h2 (λj hj=>?_) hb
    by_cases e:j=((lo+hi)/2).toNat
    .rw[e];exact hx
    have:=BP h (i:=j) (j:=((lo+hi)/2).toNat) (by omega) (by omega);omega
   rw[ae2 rG hx];refine FM h f _ _ (by omega) h0 (by omega) (by omega) ha (λj hj hl=>?_)
   by_cases e:j=((lo+hi)/2).toNat
   .rw[e];omega
   have:=BP h (i:=((lo+hi)/2).toNat) (j:=j) (by omega) hl;omega
  rw[Kv rG];exact⟨h0,by omega,ha,λj hj=>hb j (by omega)⟩
theorem M7 {l:aa af}{n x:af}(h:mC l n):hasB l x=aE (x∈l):=by
 obtain⟨h0,h1,h2,h3⟩:=FM (x:=x) h l.length 0 (aM l:af) (by omega) (by omega) (by omega) (bM _) (λj hj=>by omega) (λj hj hl=>by omega);rw[ae3] at h0 h1 h2 h3;unfold hasB;rw[<-Bool.decide_and];refine decide_eq_decide.2 ⟨λ⟨a,b⟩=>qY.2 ⟨_,by omega,b⟩,λhm=>?_⟩;obtain⟨j,hj,e⟩:=qY.1 hm;have h4:¬(j:af)<Yr l x:=λq=>by have:=h2 j q;omega
 have h5:=h3 (Yr l x).toNat (by omega) (by omega);refine⟨by omega,?_⟩
 by_cases e2:(Yr l x).toNat=j
 .rw[e2];exact e
 have:=BP h (i:=(Yr l x).toNat) (j:=j) (by omega) hj;omega
end Go.Proofs.YtnfdimfepbbbpaaGreatDoor
namespace Go.Proofs.YtnfdimfepbbbpaaGreatDoor.Deep
structure Gr where
 L:aa af
 A:af->af
 B:af->af
namespace Gr
variable (G:Gr)
def inc (f x:af):Prop:=G.A f=x\/G.B f=x
def lp (f:af):Prop:=G.A f=G.B f
def wQ (f x y:af):Prop:=(G.A f=x/\G.B f=y)\/(G.A f=y/\G.B f=x)
def adj (x y:af):Prop:=∃f∈G.L,G.wQ f x y
inductive Bg (P:af->Prop):af->af->Prop
 |refl {x}:P x->Bg P x x
 |step {x y z}:Bg P x y->G.adj y z->P z->Bg P x z
variable {G}
theorem wQ.symm {f x y:af}(h:G.wQ f x y):G.wQ f y x:=h.elim .inr .inl
theorem wQ.left {f x y:af}(h:G.wQ f x y):G.inc f x:=h.elim (λh=>.inl h.1) (λh=>.inr h.2)
theorem wQ.right {f x y:af}(h:G.wQ f x y):G.inc f y:=h.symm.left
theorem wQ.of {f x y:af}(h:G.wQ f x y){z:af}(hz:G.inc f z):z=x\/z=y:=by
 rcases h with⟨h1,h2⟩|⟨h1,h2⟩<;>rcases hz with e|e<;>simp_all
theorem adj.symm {x y:af}(h:G.adj x y):G.adj y x:=let⟨f,hf,hj⟩:=h;⟨f,hf,hj.symm⟩
theorem Bg.last {P:af->Prop}{x y:af}(h:G.Bg P x y):P y:=by
 cases h with
 |refl h=>exact h
 |step _ _ h=>exact h
theorem Bg.trans {P:af->Prop}{x y z:af}(h:G.Bg P x y)(k:G.Bg P y z):G.Bg P x z:=by
 induction k with
 |refl _=>exact h
 |step _ ha hz ih=>exact .step ih ha hz
theorem Bg.one {P:af->Prop}{x y:af}(hx:P x)(h:G.adj x y)(hy:P y):G.Bg P x y:=.step (.refl hx) h hy
theorem Bg.symm {P:af->Prop}{x y:af}(h:G.Bg P x y):G.Bg P y x:=by
 induction h with
 |refl h=>exact .refl h
 |step h ha hz ih=>exact(Bg.one hz ha.symm h.last).trans ih
theorem Bg.closed {P Q:af->Prop}(hc:∀x y,Q x->G.adj x y->P y->Q y){x y:af}(h:G.Bg P x y)(hx:Q x):Q y:=by
 induction h with
 |refl _=>exact hx
 |step _ ha hz ih=>exact hc _ _ ih ha hz
end Gr
structure St where
 met:af->af
 low:af->af
 cnt:af
 stk:aa af
 oN:aa (aa af)
 ins:aa (af×aa af)
def Rh (f:af->af)(x y:af):af->af:=λz=>if z=x then y else f z
def enter (v:af)(s:St):St:={s with cnt:=s.cnt+1,met:=Rh s.met v (s.cnt+1),low:=Rh s.low v (s.cnt+1)}
def key (b:aa af):af×aa af:=((ae4 b).headD 0,ae4 b)
inductive Loop (D:af->aa af)(T:af->af):af->af->aa af->St->St->Prop
 |nil {v via s}:Loop D T v via [] s s
 |lp {v via d ds s s'}:T d=v->Loop D T v via ds {s with ins:=s.ins++[(d/2,[d/2])]} s'->Loop D T v via (d::ds) s s'
 |via {v via d ds s s'}:T d≠v->d/2=via->Loop D T v via ds s s'->Loop D T v via (d::ds) s s'
 |keep {v via d ds s s1 s'}:T d≠v->d/2≠via->s.met (T d)=0->Loop D T (T d) (d/2) (D (T d)) (enter (T d) {s with stk:=s.stk++[d/2]}) s1->s1.low (T d)<s1.met v->
  Loop D T v via ds {s1 with low:=Rh s1.low v (min (s1.low v) (s1.low (T d)))} s'->Loop D T v via (d::ds) s s'
 |take {v via d ds s s1 s' pre S}:T d≠v->d/2≠via->s.met (T d)=0->Loop D T (T d) (d/2) (D (T d)) (enter (T d) {s with stk:=s.stk++[d/2]}) s1->¬s1.low (T d)<s1.met v->s1.stk=pre++d/2::S->d/2∉pre->
  Loop D T v via ds {s1 with low:=Rh s1.low v (min (s1.low v) (s1.low (T d))),stk:=pre,oN:=s1.oN++[d/2::S],ins:=s1.ins++[key (d/2::S)]} s'->Loop D T v via (d::ds) s s'
 |back {v via d ds s s'}:T d≠v->d/2≠via->s.met (T d)≠0->s.met (T d)<s.met v->Loop D T v via ds {s with stk:=s.stk++[d/2],low:=Rh s.low v (min (s.low v) (s.met (T d)))} s'->Loop D T v via (d::ds) s s'
 |skip {v via d ds s s'}:T d≠v->d/2≠via->s.met (T d)≠0->¬s.met (T d)<s.met v->Loop D T v via ds s s'->Loop D T v via (d::ds) s s'
structure ajy (G:Gr)(D:af->aa af)(T:af->af):Prop where
 mem:∀v d,d∈D v->d/2∈G.L/\G.wQ (d/2) v (T d)
 all:∀f x,f∈G.L->G.inc f x->∃d∈D x,d/2=f
 one:∀v d d',d∈D v->d'∈D v->d/2=d'/2->T d≠v->d=d'
 nodup:∀v,(D v).Nodup
abbrev New (o s:St)(x:af):Prop:=o.met x=0/\s.met x≠0
section
variable {G:Gr}{D:af->aa af}{T:af->af}{Y:af->Prop}{o s:St}{v via:af}{dn S:aa af}{Bs:aa (aa af)}
end
end Go.Proofs.YtnfdimfepbbbpaaGreatDoor.Deep
namespace Go.Proofs.YtnfdimfepbbbpaaGreatDoor.Deep
section
variable {G:Gr}{D:af->aa af}{T:af->af}{Y:af->Prop}{o s s1:St}{v via:af}{dn S S1:aa af}{Bs B1:aa (aa af)}
end
end Go.Proofs.YtnfdimfepbbbpaaGreatDoor.Deep
namespace Go.Proofs.YtnfdimfepbbbpaaGreatDoor.Deep
section
variable {G:Gr}{D:af->aa af}{T:af->af}{Y:af->Prop}{o s s1:St}{v via:af}{dn S S1:aa af}{Bs B1:aa (aa af)}
end
end Go.Proofs.YtnfdimfepbbbpaaGreatDoor.Deep
namespace Go.Proofs.YtnfdimfepbbbpaaGreatDoor.Deep
section
variable {G:Gr}{D:af->aa af}{T:af->af}
def left (U:aa af)(s:St):ah:=(U.filter λx=>aE (s.met x=0)).length
end
end Go.Proofs.YtnfdimfepbbbpaaGreatDoor.Deep
namespace Go.Proofs.YtnfdimfepbbbpaaGreatDoor
open Go.RowKit
abbrev IV (l:aa af):Prop:=l.Pairwise (· < ·)
theorem jC {l:aa af}{n:af}:mC l n↔IV l/\∀x∈l,0<=x/\x<n:=by
 constructor
 .intro h;refine⟨anx.2 λi j hi hj hij=>?_,λx hx=>?_⟩
  .have:=BP h hij hj;simpa[bD,bN hi,bN hj] using this
  obtain⟨j,hj,rfl⟩:=qY.1 hx;have:=h j hj;omega
 rintro⟨h1,h2⟩ j hj;have hm:=h2 (l.getD j 0) (qY.2 ⟨j,hj,rfl⟩);refine⟨hm.1,hm.2,λh0=>?_⟩;have:=anx.1 h1 (j-1) j (by omega) hj (by omega);simpa[bD,bN hj,bN (show j-1<l.length by omega)] using this
theorem RL {l m:aa af}(hl:IV l)(hm:IV m)(h:∀x,x∈l↔x∈m):l=m:=by
 induction l generalizing m with
 |nil=>
  cases m with
  |nil=>rfl
  |cons b m=>exact ay ((h b).2 aZ) (by simp)
 |cons a l ih=>
  cases m with
  |nil=>exact ay ((h a).1 aZ) (by simp)
  |cons b m=>
   grind [List.pairwise_cons,aZ,bl]
theorem rJ {E:aa (af×af)}{L:aa af}{v d:af}:d∈qw E L v↔d/2∈L/\j7 E d=v:=by
 unfold qw oZ
 grind
theorem As {E:aa (af×af)}{e v s d:af}(h:d∈oZ E e v s):d=2*e\/d=2*e+1:=by
 unfold oZ at h
 grind
theorem Hy (E:aa (af×af))(e v s:af):IV (oZ E e v s):=by
 unfold oZ;split<;>split<;>simp<;>omega
theorem Kw {E:aa (af×af)}{L:aa af}{v m:af}(h:mC L m):mC (qw E L v) (2*m):=by
 obtain⟨h1,h2⟩:=jC.1 h;refine jC.2 ⟨?_,λx hx=>by have:=h2 _ (rJ.1 hx).1;omega⟩;unfold qw;rw[IV,List.pairwise_flatMap];refine⟨λe _=>Hy E e v 0,h1.imp λP4 x hx y hy=>?_⟩;have:=As hx;have:=As hy;omega
end Go.Proofs.YtnfdimfepbbbpaaGreatDoor
namespace Go.Proofs.YtnfdimfepbbbpaaGreatDoor
open Go.Proofs.YtnfdimfepbbbpaaGreatDoor.Deep
def eA (E:aa (af×af))(f:af):af:=(E.getD f.toNat (0,0)).1
def eB (E:aa (af×af))(f:af):af:=(E.getD f.toNat (0,0)).2
abbrev grE (E:aa (af×af))(L:aa af):Gr:=⟨L,eA E,eB E⟩
def kF (E:aa (af×af))(d:af):af:=if d%2=0 then eB E (d/2) else eA E (d/2)
theorem Eu {E:aa (af×af)}{d:af}:j7 E d=if d%2=0 then eA E (d/2) else eB E (d/2):=rfl
theorem mw {l:aa af}(h:IV l):l.Nodup:=h.imp λh e=>by omega
theorem M8 {E:aa (af×af)}{L:aa af}{m:af}(hL:mC L m):ajy (grE E L) (qw E L) (kF E):=by
 have hj:∀v d,d∈qw E L v->(grE E L).wQ (d/2) v (kF E d):=λv d hd=>by
  obtain⟨h1,h2⟩:=rJ.1 hd;rw[Eu] at h2;unfold kF Gr.wQ;split at h2
  .rename_i h;rw[aQ h];exact .inl ⟨h2,rfl⟩
  rename_i h;rw[aP h];exact .inr ⟨rfl,h2⟩
 refine⟨λv d hd=>⟨(rJ.1 hd).1,hj v d hd⟩,λf x hf hi=>?_,λv d d' h1 h2 he qD=>?_,λv=>mw (jC.1 (Kw hL)).1⟩
 .rcases hi with h|h
  .refine⟨2*f,rJ.2 ⟨by rw[show 2*f/2=f by omega];exact hf,?_⟩,by omega⟩;rw[Eu,aQ (by omega),show 2*f/2=f by omega];exact h
  refine⟨2*f+1,rJ.2 ⟨by rw[show(2*f+1)/2=f by omega];exact hf,?_⟩,by omega⟩;rw[Eu,aP (by omega),show(2*f+1)/2=f by omega];exact h
 grind [rJ,Eu,kF]
def agD (E:aa (af×af))(but:af)(i:ah)(m:aa af)(e:af):aa af:=
 let m1:=if eA E e=m.getD i 0/\eB E e≠but/\eB E e∉m then m++[eB E e] else m
 if eB E e=m1.getD i 0/\eA E e≠but/\eA E e∉m1 then m1++[eA E e] else m1
def aco (E:aa (af×af))(but:af)(i:ah)(l:aa af)(m:aa af):aa af:=l.foldl (agD E but i) m
def spF (E:aa (af×af))(L:aa af)(but:af):ah->ah->aa af->aa af
 |0,_,m=>m
 |f+1,i,m=>if i<m.length then spF E L but f (i+1) (aco E but i L m) else m
def spread (E:aa (af×af))(L:aa af)(a but:af):aa af:=spF E L but (2*L.length+1) 0 [a]
theorem Yt {m r:aa af}{i:ah}(h:i<m.length):(m++r).getD i 0=m.getD i 0:=by
 grind
section
variable {n:af}{E:aa (af×af)}{V L:aa af}{s:St}
end
def Au (E:aa (af×af))(m:aa (af×aa af))(e:af):aa (af×aa af):=
 kZ (kZ m (E.getD e.toNat (0,0)).1 ((jr m (E.getD e.toNat (0,0)).1).getD []++[2*e])) (E.getD e.toNat (0,0)).2
  ((jr (kZ m (E.getD e.toNat (0,0)).1 ((jr m (E.getD e.toNat (0,0)).1).getD []++[2*e])) (E.getD e.toNat (0,0)).2).getD []++[2*e+1])
def kU (E:aa (af×af))(L:aa af):aa (af×aa af):=L.foldl (Au E) []
theorem UD {E:aa (af×af)}{L M:aa af}{x:af}:qw E (L++M) x=qw E L x++qw E M x:=by unfold qw;rw[anZ]
theorem P5 {E:aa (af×af)}{L:aa af}{i:af}(h0:0<=i)(h:i<(aM L:af)):kU E (L.take (i+1).toNat)=Au E (kU E (L.take i.toNat)) (L.getD i.toNat 0):=by
 unfold kU;rw[show(i+1).toNat=i.toNat+1 by omega,dV (by omega),eO,bD,bN (show i.toNat<L.length by omega)];rfl
theorem P6 {E:aa (af×af)}{m:aa (af×aa af)}{e v:af}:(jr (Au E m e) v).getD []=(jr m v).getD []++oZ E e v 0:=by
 grind [Au,oZ,lF,acm,acn]
theorem FN (E:aa (af×af))(v:af):∀(L M:aa af),(∀x,(jr (M.foldl (Au E) []) x).getD []=qw E M x)->(jr ((L.foldl (Au E) (M.foldl (Au E) []))) v).getD []=qw E (M++L) v
 |[],M,h=>by grind
 |e::L,M,h=>by
  have:=FN E v L (M++[e]) λx=>by
   rw[eO,anH,ari,P6,h x,UD];simp[qw]
  rw[eO,anH,ari] at this
  grind
theorem zK {E:aa (af×af)}{L:aa af}{v:af}:(jr (kU E L) v).getD []=qw E L v:=by
 have:=FN E v L [] λx=>rfl;exact this
theorem Hz (E:aa (af×af))(e v s:af):(oZ E e v s).length<=2:=by
 grind [oZ]
theorem FO (E:aa (af×af))(v:af):∀L:aa af,(qw E L v).length<=2*L.length
 |[]=>by simp[qw]
 |e::L=>by
  have h1:=Hz E e v 0;have h2:=FO E v L
  grind [oZ,qw,bA,b7]
theorem IW (E:aa (af×af)):∀(L:aa af) (m:aa (af×aa af)),(L.foldl (Au E) m).length<=m.length+2*L.length
 |[],m=>by simp
 |e::L,m=>by
  have h1:=IW E L (Au E m e)
  grind [Au,bC,qF,apP,b7]
theorem RM {n:af}{E:aa (af×af)}(hr:kz n E=0){e:af}(h0:0<=e)(h1:e<(aM E:af)):0<=(E.getD e.toNat (0,0)).1/\(E.getD e.toNat (0,0)).1<n/\0<=(E.getD e.toNat (0,0)).2/\(E.getD e.toNat (0,0)).2<n:=by
 obtain⟨_,_,_,h⟩:=l6 hr;obtain⟨a,b,c,d⟩:=h e.toNat (by omega)
 grind
theorem FP {n:af}{E:aa (af×af)}{V L:aa af}(hp:j6 n E V L=0){i:af}{m:aa (af×aa af)}(hm:m=kU E (L.take i.toNat))(h0:0<=i)(h1:i<(aM L:af)):
  (0<=L.getD i.toNat 0/\L.getD i.toNat 0<(aM E:af)/\(aM E:af)<=1024)/\
  (0<=(E.getD (L.getD i.toNat 0).toNat (0,0)).1/\(E.getD (L.getD i.toNat 0).toNat (0,0)).1<1024/\0<=(E.getD (L.getD i.toNat 0).toNat (0,0)).2/\(E.getD (L.getD i.toNat 0).toNat (0,0)).2<1024)/\
  ((jr m (E.getD (L.getD i.toNat 0).toNat (0,0)).1).getD []).length<=4096/\
  m.length<=4096/\
  ((jr (kZ m (E.getD (L.getD i.toNat 0).toNat (0,0)).1 ((jr m (E.getD (L.getD i.toNat 0).toNat (0,0)).1).getD []++[2*L.getD i.toNat 0])) (E.getD (L.getD i.toNat 0).toNat (0,0)).2).getD []).length<=4096/\
  (kZ m (E.getD (L.getD i.toNat 0).toNat (0,0)).1 ((jr m (E.getD (L.getD i.toNat 0).toNat (0,0)).1).getD []++[2*L.getD i.toNat 0])).length<=4096:=by
 subst hm;obtain⟨hr,hV,hL,_⟩:=kA hp;obtain⟨r1,r2,r3,r4⟩:=l6 hr;have hlen:=nk hL (by omega);obtain⟨k1,k2,_⟩:=hL i.toNat (by omega);obtain⟨e1,e2,e3,e4⟩:=RM hr k1 k2;have MU:(L.take i.toNat).length<=1024:=by rw[bJ];omega
 have hd:∀v,((jr (kU E (L.take i.toNat)) v).getD []).length<=2048:=λv=>by
  rw[zK];exact bC (FO E v _) (by omega)
 have hl:=IW E (L.take i.toNat) [];have hl:(kU E (L.take i.toNat)).length<=2048:=by
  unfold kU;simp only[cK] at hl;omega
 refine⟨⟨k1,k2,by omega⟩,⟨e1,by omega,e3,by omega⟩,bC (hd _) (by omega),by omega,?_,bC (qF _ _ _) (by omega)⟩;rw[lF];split
 .have:=hd (E.getD (L.getD i.toNat 0).toNat (0,0)).1;simp only[eV,bA,dS];omega
 exact bC (hd _) (by omega)
def nZ (E:aa (af×af))(v shut:af)(s:aa (af×af)×aa af)(d:af):aa (af×af)×aa af:=
 if(jr s.1 (kF E d)).isSome=aC\/kF E d=shut then s else(kZ s.1 (kF E d) ((jr s.1 v).getD 0+1),s.2++[kF E d])
def oG (E:aa (af×af))(M:aa (af×aa af))(v shut:af)(s:aa (af×af)×aa af):aa (af×af)×aa af:=((jr M v).getD []).foldl (nZ E v shut) s
def CZ (E:aa (af×af))(M:aa (af×aa af))(shut:af):ah->af->aa (af×af)×aa af->aa (af×af)
 |0,_,s=>s.1
 |f+1,v,s=>match(oG E M v shut s).2 with
  |[]=>(oG E M v shut s).1
  |x::q=>CZ E M shut f x ((oG E M v shut s).1,q)
def nr (E:aa (af×af))(M:aa (af×aa af))(a shut:af):aa (af×af):=CZ E M shut (2*E.length+2) a ([(a,0)],[])
theorem M9 {α:Type}{l:aa (af×α)}{x:af}{v:α}(h:jr l x=aA):(kZ l x v).length=l.length+1:=by
 rw[(Mf h).length_eq];rfl
structure UE (U:aa af)(s:aa (af×af)×aa af):Prop where
 nd:(s.1.map (·.1)).Nodup
 sub:∀p∈s.1,p.1∈U
theorem UE.len {U:aa af}{s:aa (af×af)×aa af}(h:UE U s):s.1.length<=U.length:=by
 have:=List.Nodup.length_le_of_subset h.nd (l₂:=U) (λx hx=>by obtain⟨p,hp,rfl⟩:=bz.1 hx;exact h.sub p hp)
 grind
theorem P7 {U:aa af}{E:aa (af×af)}{v shut d:af}{s:aa (af×af)×aa af}(h:UE U s)(hd:kF E d∈U):UE U (nZ E v shut s d)/\(nZ E v shut s d).1.length+s.2.length=s.1.length+(nZ E v shut s d).2.length:=by
 unfold nZ;split
 .exact⟨h,rfl⟩
 rename_i q;have hn:jr s.1 (kF E d)=aA:=by
  cases hl:jr s.1 (kF E d) with
  |none=>rfl
  |some z=>exact(q (.inl (by rw[hl];rfl))).elim
 refine⟨⟨?_,λp hp=>?_⟩,?_⟩
 .have:=(Mf (v:=(jr s.1 v).getD 0+1) hn).map (·.1);refine this.nodup_iff.2 (anM.2 ⟨λhm=>?_,h.nd⟩);obtain⟨p,hp,e⟩:=bz.1 hm;exact wB.1 hn p.2 (by rw[show(kF E d,p.2)=p from apy e.symm rfl];exact hp)
 .rcases Ra.1 hp with rfl|⟨hp,_⟩
  .exact hd
  exact h.sub p hp
 show(kZ s.1 _ _).length+s.2.length=s.1.length+(s.2++[kF E d]).length;rw[M9 hn,bA];simp;omega
theorem ajz {a:ak}{p:Prop}(h:a=aD/\¬p):¬(a=aC\/p):=by grind
theorem acp {l:aa af}(h:¬l=[]):l=l.getD 0 0::l.drop 1:=by
 cases l with
 |nil=>exact(h rfl).elim
 |cons x l=>rfl
theorem Na {n:af}{E:aa (af×af)}(hr:kz n E=0){d:af}(h0:0<=d)(h1:d/2<(aM E:af)):0<=kF E d/\kF E d<1024/\kF E d∈E.flatMap λe=>[e.1,e.2]:=by
 have hn:=(l6 hr).2.1;obtain⟨a,b,c,e⟩:=RM hr (e:=d/2) (by omega) h1
 grind [bN,dY,kF,eA,eB]
def DOk (E:aa (af×af))(M:aa (af×aa af)):Prop:=∀v,∀d∈(jr M v).getD [],0<=d/\d/2<(aM E:af)
def univ (E:aa (af×af))(a:af):aa af:=a::E.flatMap λe=>[e.1,e.2]
theorem Nb (E:aa (af×af))(a:af):(univ E a).length=2*E.length+1:=by
 have:∀E:aa (af×af),(E.flatMap λe=>[e.1,e.2]).length=2*E.length:=λE=>by
  induction E with
  |nil=>rfl
  |cons e E ih=>rw[dc,bA,ih];simp;omega
 show(E.flatMap λe=>[e.1,e.2]).length+1=_;rw[this]
theorem acq {n:af}{E:aa (af×af)}(hr:kz n E=0){a:af}(h0:0<=a)(h1:a<1024):∀x∈univ E a,0<=x/\x<1024:=λx hx=>by
 have hn:=(l6 hr).2.1;rcases bg.1 hx with rfl|hx
 .exact⟨h0,h1⟩
 obtain⟨e,he,hx⟩:=cQ.1 hx;obtain⟨j,hj,rfl⟩:=anL he;have:=(l6 hr).2.2.2 j hj;rw[bD,bN hj] at this;have⟨p,q,r,t⟩:=this;simp only[eV] at p q r t;rcases bg.1 hx with rfl|hx
 .exact⟨p,by omega⟩
 rw[aU.1 hx];exact⟨r,by omega⟩
structure P8 (E:aa (af×af))(a:af)(v:af)(k:ah)(m:aa (af×af))(q:aa af):Prop where
 s:UE (univ E a) (m,q)
 vU:v∈univ E a
 qU:∀x∈q,x∈univ E a
 n:m.length=k+1+q.length
 b:∀p∈m,0<=p.2/\p.2<=(k:af)+1
 vM:(jr m v).isSome=aC
 qM:∀x∈q,(jr m x).isSome=aC
 c:0<=(jr m v).getD 0/\(jr m v).getD 0<=(k:af)
structure Kx (E:aa (af×af))(M:aa (af×aa af))(a shut v:af)(ok:ak)(q:aa af)(m:aa (af×af))(k:ah):Prop where
 go:ok=aC->P8 E a v k m q/\(∀p∈m,p.2<=(k:af))/\nr E M a shut=CZ E M shut (2*E.length+2-k) v (m,q)
 done:ok=aD->m=nr E M a shut
 kB:k<=2*E.length+1
theorem xP {m:aa (af×af)}{P:af->Prop}(h0:P 0)(h:∀p∈m,P p.2)(v:af):P ((jr m v).getD 0):=by
 cases hl:jr m v with
 |none=>exact h0
 |some z=>exact h _ (xB hl)
theorem RN {α:Type}(a:af)(y:α):jr [(a,y)] a=az y:=by
 cases h:jr [(a,y)] a with
 |none=>exact(wB.1 h y aZ).elim
 |some z=>have:=aU.1 (xB h);cases this;rfl
theorem Kx.init (E:aa (af×af))(M:aa (af×aa af))(a shut:af):Kx E M a shut a aC [] [(a,0)] 0:=by
 refine⟨λ_=>⟨⟨⟨by simp,λp hp=>?_⟩,aZ,λx hx=>(by cases hx),rfl,λp hp=>?_,by rw[RN];rfl,λx hx=>(by cases hx),xP (P:=λy=>0<=y/\y<=((0:ah):af)) ⟨by omega,by omega⟩ (λp hp=>by rw[aU.1 hp];exact⟨by simp,by simp⟩) a⟩,λp hp=>?_,rfl⟩,(λq=>by cases q),by omega⟩
 .rw[aU.1 hp];exact aZ
 .grind
 grind
theorem P8.bd {E:aa (af×af)}{a v:af}{k:ah}{m:aa (af×af)}{q:aa af}(h:P8 E a v k m q):m.length<=2*E.length+1/\k<=2*E.length:=by
 have h1:=h.s.len;rw[Nb] at h1;have h2:=h.n
 grind
theorem P8.ajA {E:aa (af×af)}{a v shut d:af}{k:ah}{m:aa (af×af)}{q:aa af}(h:P8 E a v k m q)(hd:kF E d∈univ E a)(hn:¬((jr m (kF E d)).isSome=aC\/kF E d=shut)):
  P8 E a v k (kZ m (kF E d) ((jr m v).getD 0+1)) (q++[kF E d]):=by
 have hv:=h.vM;have e:nZ E v shut (m,q) d=(kZ m (kF E d) ((jr m v).getD 0+1),q++[kF E d]):=by unfold nZ;rw[aP hn]
 obtain⟨k1,k2⟩:=P7 (v:=v) (shut:=shut) h.s hd;rw[e] at k1 k2;have qD:¬kF E d=v:=λz=>hn (.inl (by rw[z];exact hv));refine⟨k1,h.vU,λx hx=>?_,?_,λp hp=>?_,?_,λx hx=>?_,?_⟩
 .rcases bE.1 hx with hx|hx
  .exact h.qU x hx
  rw[aU.1 hx];exact hd
 .have:=h.n;simp only at k2;omega
 .have hc:=h.c;rcases Ra.1 hp with rfl|⟨hp,_⟩
  .exact⟨by show 0<=(jr m v).getD 0+1;omega,by show(jr m v).getD 0+1<=(k:af)+1;omega⟩
  exact h.b p hp
 .rw[lF,aP qD];exact hv
 .rw[lF];split
  .rfl
  rename_i z;rcases bE.1 hx with hx|hx
  .exact h.qM x hx
  rw[aU.1 hx] at z;exact(z rfl).elim
 rw[lF,aP qD];exact h.c
theorem ve {α:Type}(f:α->af->α){l:aa af}{i:af}(s:α)(h0:0<=i)(h:i<(aM l:af)):(l.take (i+1).toNat).foldl f s=f ((l.take i.toNat).foldl f s) (l.getD i.toNat 0):=by
 rw[show(i+1).toNat=i.toNat+1 by omega,dV (by omega),eO,bD,bN (show i.toNat<l.length by omega)];rfl
theorem Kx.step {E:aa (af×af)}{M:aa (af×aa af)}{a shut v:af}{ok:ak}{q q' q2:aa af}{m m':aa (af×af)}{k:ah}(h:Kx E M a shut v ok q m k)(p9:ok=aC)(he:oG E M v shut (m,q)=(m',q'))(hm:P8 E a v k m' q'):
  (q'=[]->Kx E M a shut 0 aD q2 m' (k+1))/\(∀x t,q'=x::t->Kx E M a shut x aC t m' (k+1)):=by
 obtain⟨h1,h2,h3⟩:=h.go p9;have⟨b1,b2⟩:=hm.bd;have hf:2*E.length+2-k=(2*E.length+2-(k+1))+1:=by omega
 have kT:nr E M a shut=(match(m',q').2 with
  |[]=>(m',q').1
  |x::t=>CZ E M shut (2*E.length+2-(k+1)) x ((m',q').1,t)):=by
  rw[h3,hf,<-he];rfl
 refine⟨λz=>?_,λx t z=>?_⟩
 .subst z;exact⟨λw=>(by cases w),λ_=>kT.symm,by omega⟩
 subst z;refine⟨λ_=>⟨⟨⟨hm.s.nd,hm.s.sub⟩,hm.qU x List.mem_cons_self,λy hy=>hm.qU y (List.mem_cons_of_mem _ hy),?_,λp hp=>?_,?_,?_,?_⟩,λp hp=>?_,kT⟩,λw=>(by cases w),by omega⟩
 .have:=hm.n;rw[List.length_cons] at this;omega
 .have:=hm.b p hp;exact⟨this.1,by omega⟩
 .exact hm.qM x List.mem_cons_self
 .exact λy hy=>hm.qM y (List.mem_cons_of_mem _ hy)
 .exact xP (P:=λy=>0<=y/\y<=((k+1:ah):af)) ⟨by omega,by omega⟩ (λp hp=>by have:=hm.b p hp;exact⟨this.1,by omega⟩) x
 have:=hm.b p hp;omega
def ur (l:aa af)(i:af):aa af:=l.drop i.toNat++l.take i.toNat
def o8 (l:aa af):ah->af
 |0=>0
 |k+1=>if l.getD k 0<l.getD (o8 l k).toNat 0 then(k:af) else o8 l k
def ju (l:aa af):aa af:=ur l (o8 l l.length)
theorem wR (l:aa af):∀k:ah,0<=o8 l k/\(o8 l k=0\/o8 l k<(k:af))
 |0=>⟨Int.le_refl _,.inl rfl⟩
 |k+1=>by
  obtain⟨h1,h2⟩:=wR l k
  grind [o8]
theorem DK (l:aa af){i:af}(h:0<=i):o8 l (i+1).toNat=if l.getD i.toNat 0<l.getD (o8 l i.toNat).toNat 0 then i else o8 l i.toNat:=by
 rw[show(i+1).toNat=i.toNat+1 by omega];show(if _ then((i.toNat:ah):af) else _)=_
 grind
theorem mG (l:aa af):(ju l).length=l.length:=by
 unfold ju ur
 grind
theorem vf {l:aa af}{x:af}(h:x∈ju l):x∈l:=by
 unfold ju ur at h
 grind
def C0 (P:aa (af×af))(t:aa af):ah->aa (af×af)
 |0=>P
 |k+1=>kZ (C0 P t k) (t.getD k 0) (k:af)
def tR (T:aa (aa af)):ah->aa (af×af)
 |0=>[]
 |v+1=>C0 (tR T v) (ju (T.getD v [])) (ju (T.getD v [])).length
theorem UF {P:aa (af×af)}{t:aa af}{i:af}(h:0<=i):C0 P t (i+1).toNat=kZ (C0 P t i.toNat) (t.getD i.toNat 0) i:=by
 rw[show(i+1).toNat=i.toNat+1 by omega];show kZ _ _ ((i.toNat:ah):af)=_
 grind
theorem UG {T:aa (aa af)}{i:af}(h:0<=i):tR T (i+1).toNat=C0 (tR T i.toNat) (ju (T.getD i.toNat [])) (ju (T.getD i.toNat [])).length:=by
 rw[show(i+1).toNat=i.toNat+1 by omega];rfl
theorem FQ (P:aa (af×af))(t:aa af):∀k,(C0 P t k).length<=P.length+k
 |0=>Nat.le_refl _
 |k+1=>by
  have:=FQ P t k
  grind [qF,C0,kZ]
theorem UH {α β:Type}{f:α->β}{T:aa α}{i:af}(d:α)(h0:0<=i)(h1:i<(aM T:af)):(T.take (i+1).toNat).map f=(T.take i.toNat).map f++[f (T.getD i.toNat d)]:=by
 rw[show(i+1).toNat=i.toNat+1 by omega,List.take_add_one,List.map_append,List.getElem?_eq_getElem (by omega)]
 grind
theorem jz {α:Type}{l:aa α}{i:ah}{d:α}(h:i<l.length):l.getD i d∈l:=by
 grind
def ng (T:aa (aa af)):Prop:=∀l∈T,∀d∈l,-9223372036854775808<=d/\d<=9223372036854775807
def kK (T:aa (aa af)):Prop:=T.length<=10000/\∀l∈T,l.length<=10000
theorem Nc {T:aa (aa af)}(h:kK T):∀v,(tR T v).length<=v*10000
 |0=>by simp[tR]
 |v+1=>by
  have h1:=Nc h v;have h2:=FQ (tR T v) (ju (T.getD v [])) (ju (T.getD v [])).length;have h3:(T.getD v []).length<=10000:=by
   by_cases q:v<T.length
   .exact h.2 _ (jz q)
   grind
  rw[mG] at h2;show(C0 _ _ _).length<=_;rw[cL,mG];omega
abbrev xQ:Type:=aa (aa af)×(aa (af×af)×(aa (af×af)×aa af))
def mM (r:ai xQ)(d s:af):af×ak:=match r with
 |none=>(0,aD)
 |some (T,lv,pl,ds)=>match jr lv d with
  |none=>(0,aD)
  |some v=>((T.getD v.toNat []).getD (((jr pl d).getD 0+s+((T.getD v.toNat []).length:af))%((T.getD v.toNat []).length:af)).toNat 0,aC)
def FR (r:ai xQ)(d:af):Prop:=match r with
 |none=>False
 |some (T,lv,pl,ds)=> ∀v,jr lv d=az v->0<=v/\v<(aM T:af)/\(T.getD v.toNat []).length<=10000/\0<=(jr pl d).getD 0/\(jr pl d).getD 0<((T.getD v.toNat []).length:af)
theorem FR.some {r:ai xQ}{d:af}(h:FR r d):∃x,r=Option.some x:=by
 cases r with
 |none=>exact h.elim
 |some x=>exact⟨x,rfl⟩
def Ea (M:aa (af×af))(k v:af):aa (af×af):=kZ (kZ M k ((jr M k).getD 0)) k v
theorem FT (M:aa (af×af))(k v:af):(Ea M k v).length<=M.length+2:=by
 grind [qF,jr,kZ,Ea]
def lv1 (E:aa (af×af))(M:aa (af×af))(e:af):aa (af×af):=Ea (Ea M (2*e) (E.getD e.toNat (0,0)).1) (2*e+1) (E.getD e.toNat (0,0)).2
def Cq (E:aa (af×af))(L:aa af):ah->aa (af×af)
 |0=>[]
 |k+1=>lv1 E (Cq E L k) (L.getD k 0)
def oO (L:aa af):ah->aa af
 |0=>[]
 |k+1=>oO L k++[2*L.getD k 0,2*L.getD k 0+1]
theorem Yu {E:aa (af×af)}{L:aa af}{i:af}(h:0<=i):Cq E L (i+1).toNat=lv1 E (Cq E L i.toNat) (L.getD i.toNat 0):=by
 rw[show(i+1).toNat=i.toNat+1 by omega];rfl
theorem Yv {L:aa af}{i:af}(h:0<=i):oO L (i+1).toNat=oO L i.toNat++[2*L.getD i.toNat 0,2*L.getD i.toNat 0+1]:=by
 rw[show(i+1).toNat=i.toNat+1 by omega];rfl
theorem RO (E:aa (af×af))(L:aa af):∀k,(Cq E L k).length<=4*k
 |0=>aW _
 |k+1=>by
  have h:=RO E L k;have h1:=FT (Cq E L k) (2*L.getD k 0) (E.getD (L.getD k 0).toNat (0,0)).1;have h2:=FT (Ea (Cq E L k) (2*L.getD k 0) (E.getD (L.getD k 0).toNat (0,0)).1) (2*L.getD k 0+1) (E.getD (L.getD k 0).toNat (0,0)).2;show(Ea _ _ _).length<=_;omega
theorem BQ (L:aa af):∀k,(oO L k).length=2*k
 |0=>rfl
 |k+1=>by
  have:=BQ L k
  grind [oO,bA]
def Nd (lv:aa (af×af))(v:af)(t:aa af)(P:aa (af×af)):ah->ai (aa (af×af))
 |0=>az P
 |k+1=>match Nd lv v t P k with
  |none=>aA
  |some Q=>if(jr lv (t.getD k 0)).isSome=aC/\(jr lv (t.getD k 0)).getD 0=v/\(jr Q (t.getD k 0)).isSome=aD then az (kZ Q (t.getD k 0) (k:af)) else aA
def Ky (lv:aa (af×af))(T:aa (aa af)):ah->ai (aa (af×af))
 |0=>az []
 |v+1=>match Ky lv T v with
  |none=>aA
  |some P=>Nd lv (v:af) (T.getD v []) P (T.getD v []).length
theorem Nf {lv:aa (af×af)}{v:af}{t:aa af}{P:aa (af×af)}{k:ah}(h:Nd lv v t P k=aA):∀ {m:ah},k<=m->Nd lv v t P m=aA
 |0,hm=>by grind
 |m+1,hm=>by
  by_cases q:k=m+1
  .grind
  have:=Nf h (m:=m) (by omega);unfold Nd;rw[this]
theorem Ng {lv:aa (af×af)}{T:aa (aa af)}{k:ah}(h:Ky lv T k=aA):∀ {m:ah},k<=m->Ky lv T m=aA
 |0,hm=>by grind
 |m+1,hm=>by
  by_cases q:k=m+1
  .grind
  have:=Ng h (m:=m) (by omega);unfold Ky;rw[this]
theorem Nh {lv:aa (af×af)}{v:af}{t:aa af}{P Q:aa (af×af)}{i:af}(h:0<=i)(hQ:Nd lv v t P i.toNat=az Q):
  Nd lv v t P (i+1).toNat=if(jr lv (t.getD i.toNat 0)).isSome=aC/\(jr lv (t.getD i.toNat 0)).getD 0=v/\(jr Q (t.getD i.toNat 0)).isSome=aD then az (kZ Q (t.getD i.toNat 0) i) else aA:=by
 rw[show(i+1).toNat=i.toNat+1 by omega]
 conv=>lhs;unfold Nd
 grind
theorem Ni {lv:aa (af×af)}{T:aa (aa af)}{P:aa (af×af)}{v:af}(h:0<=v)(hP:Ky lv T v.toNat=az P):Ky lv T (v+1).toNat=Nd lv v (T.getD v.toNat []) P (T.getD v.toNat []).length:=by
 rw[show(v+1).toNat=v.toNat+1 by omega]
 conv=>lhs;unfold Ky
 grind
theorem Kz {lv:aa (af×af)}{v:af}{t:aa af}{P:aa (af×af)}:∀ {k:ah} {Q:aa (af×af)},Nd lv v t P k=az Q->Q.length<=P.length+k
 |0,Q,h=>by cases h;omega
 |k+1,Q,h=>by
  unfold Nd at h;split at h
  .cases h
  rename_i R hR;have:=Kz hR
  grind [qF]
theorem KA {lv:aa (af×af)}{T:aa (aa af)}(hs:kK T):∀ {v:ah} {Q:aa (af×af)},Ky lv T v=az Q->Q.length<=v*10000
 |0,Q,h=>by cases h;simp
 |v+1,Q,h=>by
  unfold Ky at h;split at h
  .cases h
  rename_i R hR;have h1:=KA hs hR;have h2:=Kz h;have h3:(T.getD v []).length<=10000:=by
   by_cases q:v<T.length
   .exact hs.2 _ (jz q)
   rw[bD,List.getElem?_eq_none (by omega)];simp
  rw[cL];omega
def nR (n:af)(E:aa (af×af))(V L:aa af)(T:aa (aa af)):ai xQ×af:=
 if j6 n E V L≠0 then(aA,j6 n E V L) else if(aM T:af)≠n then(aA,5) else match Ky (Cq E L L.length) T T.length with
  |none=>(aA,5)
  |some P=>if(aM P:af)≠((Cq E L L.length).length:af) then(aA,5) else(az (T.map ju,Cq E L L.length,tR T T.length,oO L L.length),0)
theorem Yw {n:af}{E:aa (af×af)}{V L:aa af}{T:aa (aa af)}(h1:j6 n E V L=0)(h2:(aM T:af)=n)(h3:Ky (Cq E L L.length) T T.length=aA):nR n E V L T=(aA,5):=by
 grind [nR]
theorem Yx {n:af}{E:aa (af×af)}{V L:aa af}{T:aa (aa af)}(h1:j6 n E V L=0)(h2:¬(aM T:af)=n):nR n E V L T=(aA,5):=by
 grind [nR]
theorem Yy {n:af}{E:aa (af×af)}{V L:aa af}{T:aa (aa af)}{P:aa (af×af)}(h1:j6 n E V L=0)(h2:(aM T:af)=n)(h3:Ky (Cq E L L.length) T T.length=az P)(h4:¬(aM P:af)=((Cq E L L.length).length:af)):nR n E V L T=(aA,5):=by
 grind [nR]
theorem RP {n:af}{E:aa (af×af)}{V L:aa af}{T:aa (aa af)}{P:aa (af×af)}(h1:j6 n E V L=0)(h2:(aM T:af)=n)(h3:Ky (Cq E L L.length) T T.length=az P)(h4:(aM P:af)=((Cq E L L.length).length:af)):nR n E V L T=(az (T.map ju,Cq E L L.length,tR T T.length,oO L L.length),0):=by
 grind [nR]
theorem cover {α:Type}[DecidableEq α]{l m:aa α}(hl:l.Nodup)(hs:∀x∈l,x∈m)(h:m.length<=l.length):∀x∈m,x∈l:=λx hx=>dg λq=>by
 have h1:(x::l).Nodup:=anM.2 ⟨q,hl⟩;have:=h1.length_le_of_subset (l₂:=m) λy hy=>(bg.1 hy).elim (λe=>e▸hx) (hs y)
 grind
theorem pQ {α:Type}{l:aa α}{z:α}(h:l.Nodup){i j:ah}(hi:i<l.length)(hj:j<l.length)(e:l.getD i z=l.getD j z):i=j:=by
 grind [bN,List.getElem_inj]
theorem jJ {α:Type}{l:aa α}{z x:α}:x∈l↔∃j,j<l.length/\l.getD j z=x:=by
 constructor
 .intro h;obtain⟨j,hj,e⟩:=anL h;exact⟨j,hj,by rw[bD,bN hj];exact e⟩
 grind
def ku (L:aa af)(d:af):Prop:=d/2∈L
theorem AW {L:aa af}{d:af}:ku L d↔∃e∈L,d=2*e\/d=2*e+1:=by
 grind [ku]
theorem Ev {L:aa af}:∀ {k:ah},k<=L.length->∀d,d∈oO L k↔ku (L.take k) d
 |0,_,d=>by simp[oO,ku]
 |k+1,h,d=>by
  have ih:=Ev (L:=L) (k:=k) (by omega) d
  grind [apz,bN,ku,oO]
theorem nY {L:aa af}(d:af):d∈oO L L.length↔ku L d:=by rw[Ev (aW _),cg]
theorem zL {L:aa af}(h:L.Nodup):∀ {k:ah},k<=L.length->(oO L k).Nodup
 |0,_=>anI
 |k+1,hk=>by
  have hn:L.getD k 0∉L.take k:=λq=>by
   obtain⟨j,hj,e⟩:=jJ (z:=0).1 q
   grind [bJ,pQ]
  have hnd:∀d,d/2=L.getD k 0->d∉oO L k:=λd hd q=>hn (by have:=(Ev (by omega) d).1 q;unfold ku at this;rwa[hd] at this);rw[oO,an5];refine⟨zL h (by omega),?_,?_⟩
  .simp only[anM,aU,List.not_mem_nil,not_false_eq_true,anI,and_true];omega
  grind
theorem Yz {M:aa (af×af)}{k v x:af}:jr (Ea M k v) x=if k=x then az v else jr M x:=by
 grind [Ea,lF]
theorem vg {E:aa (af×af)}{L:aa af}:∀ {k:ah},k<=L.length->∀d,jr (Cq E L k) d=if d∈oO L k then az (j7 E d) else aA
 |0,_,d=>by simp[oO,Cq];rfl
 |k+1,h,d=>by
  have ih:=vg (E:=E) (L:=L) (k:=k) (by omega) d
  grind [jr,lv1,Cq,Yz,oO,bV,j7]
def KN {α:Type}(m:aa (af×α)):Prop:=(m.map (·.1)).Nodup
theorem YA {α:Type}{m:aa (af×α)}(h:KN m)(x:af):KN (EZ m x):=h.sublist (ar4 _ List.filter_sublist)
theorem Nj {α:Type}{m:aa (af×α)}(h:KN m)(x:af)(v:α):KN (kZ m x v):=by
 have hp:(kZ m x v).Perm ((x,v)::EZ m x):=Cz (k:=.int) (x,v) (rP (k:=.int) m x);unfold KN;rw[(hp.map (·.1)).nodup_iff,bO,anM];refine⟨λq=>?_,YA h x⟩;obtain⟨p,hp,e⟩:=bz.1 q;have:jr (EZ m x) x=aA:=by rw[E0,aQ rfl]
 have e:p.1=x:=e;exact wB.1 this p.2 (by obtain⟨p1,p2⟩:=p;subst e;exact hp)
theorem KB {α:Type}:KN ([]:aa (af×α)):=anI
theorem mem_keys {α:Type}{m:aa (af×α)}{x:af}:x∈m.map (·.1)↔(jr m x).isSome=aC:=by
 constructor
 .intro h;obtain⟨p,hp,e⟩:=bz.1 h;cases hq:jr m x with
  |some _=>rfl
  |none=>exact(wB.1 hq p.2 (by obtain⟨p1,p2⟩:=p;have e:p1=x:=e;subst e;exact hp)).elim
 intro h;obtain⟨v,hv⟩:=bS.1 h;exact bz.2 ⟨_,xB hv,rfl⟩
theorem KC {α:Type}{m:aa (af×α)}(h:KN m){l:aa af}(hl:l.Nodup)(he:∀x,x∈l↔(jr m x).isSome=aC):m.length=l.length:=by
 have h1:=hl.length_le_of_subset (l₂:=m.map (·.1)) λx hx=>mem_keys.2 ((he x).1 hx);have h2:=h.length_le_of_subset (l₂:=l) λx hx=>(he x).2 (mem_keys.1 hx)
 grind
theorem IX {α:Type}{m:aa (af×α)}(h:KN m){x:af}(hx:(jr m x).isSome=aC):(EZ m x).length+1=m.length:=by
 have hn:x∉(EZ m x).map (·.1):=λq=>by
  have:=mem_keys.1 q
  grind [E0]
 have hc:(x::(EZ m x).map (·.1)).Nodup:=anM.2 ⟨hn,YA h x⟩;have:=KC h hc λy=>by
  rw[bg,mem_keys,E0]
  grind
 simp at this;omega
theorem YB {M:aa (af×af)}(h:KN M)(k v:af):KN (Ea M k v):=Nj (Nj h _ _) _ _
theorem ae5 (E:aa (af×af))(L:aa af):∀k,KN (Cq E L k)
 |0=>KB
 |k+1=>YB (YB (ae5 E L k) _ _) _ _
theorem FV {E:aa (af×af)}{L:aa af}(h:L.Nodup):(Cq E L L.length).length=(oO L L.length).length:=
 KC (ae5 E L _) (zL h (aW _)) λd=>by
  rw[vg (aW _)]
  grind
theorem pR {α:Type}{l:aa α}{k:ah}(h:k<l.length)(z:α):l.take (k+1)=l.take k++[l.getD k z]:=by
 rw[apz,bD,bN h];rfl
structure Gd (lv:aa (af×af))(v:af)(l:aa af)(P:aa (af×af))(Q:aa (af×af)):Prop where
 nd:l.Nodup
 fr:∀d∈l,jr P d=aA
 lk:∀d∈l,jr lv d=az v
 ks:∀d,(jr Q d).isSome=aC↔(jr P d).isSome=aC\/d∈l
 kn:KN Q
theorem FW {lv:aa (af×af)}{v:af}{t:aa af}{P:aa (af×af)}(hP:KN P):∀ {k:ah} {Q:aa (af×af)},k<=t.length->Nd lv v t P k=az Q->Gd lv v (t.take k) P Q
 |0,Q,_,h=>by
  have h:az P=az Q:=h;cases h;exact⟨by rw[dJ];exact anI,λd hd=>by simp at hd,λd hd=>by simp at hd,λd=>by simp,hP⟩
 |k+1,Q,hk,h=>by
  unfold Nd at h;split at h
  .cases h
  rename_i R hR;obtain⟨g1,g2,g3,g4,g5⟩:=FW hP (k:=k) (by omega) hR;split at h
  .rename_i hc;cases h;have⟨c1,c2,c3⟩:=hc;have hn:¬(jr R (t.getD k 0)).isSome=aC:=by rw[c3];simp
   have hx:¬((jr P (t.getD k 0)).isSome=aC\/t.getD k 0∈t.take k):=λq=>hn ((g4 _).2 q);rw[pR (by omega) 0];refine⟨?_,λd hd=>?_,λd hd=>?_,λd=>?_,Nj g5 _ _⟩
   .rw[an5];exact⟨g1,by simp,λa ha b hb e=>by subst e;have:=aU.1 hb;subst this;exact hx (.inr ha)⟩
   .rcases bE.1 hd with hd|hd
    .exact g2 d hd
    have:=aU.1 hd;subst this;cases hq:jr P (t.getD k 0) with
    |none=>rfl
    |some _=>exact(hx (.inl (by rw[hq];rfl))).elim
   .rcases bE.1 hd with hd|hd
    .exact g3 d hd
    have:=aU.1 hd;subst this;obtain⟨u,hu⟩:=bS.1 c1;rw[hu] at c2 ⊢;exact bh az c2
   rw[lF,bE,aU]
   by_cases e:t.getD k 0=d
   .rw[aQ e];exact⟨λ_=>.inr (.inr e.symm),λ_=>rfl⟩
   rw[aP e,g4];exact⟨λq=>q.elim .inl λq=>.inr (.inl q),λq=>q.elim .inl λq=>q.elim .inr λq=>(e q.symm).elim⟩
  cases h
theorem YC {lv:aa (af×af)}{v:af}{t:aa af}{P:aa (af×af)}(hP:KN P)(h1:t.Nodup)(h2:∀d∈t,jr P d=aA)(h3:∀d∈t,jr lv d=az v):∀ {k:ah},k<=t.length->∃Q,Nd lv v t P k=az Q
 |0,_=>⟨P,rfl⟩
 |k+1,hk=>by
  obtain⟨R,hR⟩:=YC hP h1 h2 h3 (k:=k) (by omega);have g:=FW hP (k:=k) (by omega) hR;have hm:t.getD k 0∈t:=jJ.2 ⟨k,by omega,rfl⟩;have hnt:t.getD k 0∉t.take k:=λq=>by
   obtain⟨j,hj,e⟩:=jJ (z:=0).1 q;rw[bJ] at hj;rw[bD,cE,aQ (by omega),<-bD] at e;have:=pQ h1 (by omega) (by omega) e;omega
  have ajB:(jr R (t.getD k 0)).isSome=aD:=by
   cases hq:(jr R (t.getD k 0)).isSome with
   |false=>rfl
   |true=>
    rcases(g.ks _).1 hq with z|z
    .rw[h2 _ hm] at z;cases z
    exact(hnt z).elim
  refine⟨kZ R (t.getD k 0) (k:af),?_⟩;unfold Nd;rw[hR];exact aQ ⟨by rw[h3 _ hm];rfl,by rw[h3 _ hm];rfl,ajB⟩
structure GdF (lv:aa (af×af))(T:aa (aa af))(v:ah)(Q:aa (af×af)):Prop where
 nd:(T.take v).flatten.Nodup
 lk:∀u,u<v->∀d∈T.getD u [],jr lv d=az (u:af)
 ks:∀d,(jr Q d).isSome=aC↔d∈(T.take v).flatten
 kn:KN Q
theorem uL {T:aa (aa af)}{v:ah}(h:v<=T.length){d:af}:d∈(T.take v).flatten↔∃u,u<v/\d∈T.getD u []:=by
 rw[List.mem_flatten];constructor
 .rintro⟨l,hl,hd⟩;obtain⟨j,hj,e⟩:=jJ (z:=[]).1 hl
  grind
 rintro⟨u,hu,hd⟩;refine⟨T.getD u [],jJ (z:=[]).2 ⟨u,by rw[bJ];omega,?_⟩,hd⟩;rw[bD,cE,aQ hu,<-bD]
theorem BR {lv:aa (af×af)}{T:aa (aa af)}:∀ {v:ah} {Q:aa (af×af)},v<=T.length->Ky lv T v=az Q->GdF lv T v Q
 |0,Q,_,h=>by
  have h:az []=az Q:=h;cases h;exact⟨by simp,λu hu=>by omega,λd=>by simp;rfl,KB⟩
 |v+1,Q,hv,h=>by
  unfold Ky at h;split at h
  .cases h
  rename_i P hP;obtain⟨f1,f2,f3,f4⟩:=BR (v:=v) (by omega) hP;obtain⟨g1,g2,g3,g4,g5⟩:=FW f4 (aW _) h;rw[cg] at g1 g2 g3 g4;refine⟨?_,λu hu d hd=>?_,λd=>?_,g5⟩
  .rw[pR (by omega) [],aqb,aqc,aqd,bW,an5];exact⟨f1,g1,λa ha b hb e=>by subst e;have:=(f3 a).2 ha;rw[g2 a hb] at this;cases this⟩
  .by_cases q:u=v
   .subst q;exact g3 d hd
   exact f2 u (by omega) d hd
  rw[g4,f3,pR (by omega) [],aqb,aqc,aqd,bW,bE]
theorem YD {lv:aa (af×af)}{T:aa (aa af)}(h1:∀u,u<T.length->(T.getD u []).Nodup)(h2:∀u,u<T.length->∀d∈T.getD u [],jr lv d=az (u:af)):∀ {v:ah},v<=T.length->∃Q,Ky lv T v=az Q
 |0,_=>⟨[],rfl⟩
 |v+1,hv=>by
  obtain⟨P,hP⟩:=YD h1 h2 (v:=v) (by omega);have g:=BR (v:=v) (by omega) hP;unfold Ky;rw[hP];refine YC g.kn (h1 v (by omega)) (λd hd=>?_) (h2 v (by omega)) (aW _);cases hq:jr P d with
  |none=>rfl
  |some _=>
   obtain⟨u,hu,hdu⟩:=(uL (by omega)).1 ((g.ks d).1 (by rw[hq];rfl));have e1:=h2 u (by omega) d hdu;rw[h2 v (by omega) d hd] at e1;injection e1 with e1
   omega
structure pZ (n:af)(E:aa (af×af))(L:aa af)(T:aa (aa af)):Prop where
 len:(aM T:af)=n
 nd:∀v,v<T.length->(T.getD v []).Nodup
 mem:∀v,v<T.length->∀d,d∈T.getD v []↔ku L d/\j7 E d=(v:af)
theorem Nk {L:aa af}{n:af}(h:mC L n):L.Nodup:=mw (jC.1 h).1
theorem C1 {n:af}{E:aa (af×af)}{V L:aa af}{T:aa (aa af)}(h:(nR n E V L T).2=0):
  j6 n E V L=0/\pZ n E L T/\(nR n E V L T).1=az (T.map ju,Cq E L L.length,tR T T.length,oO L L.length):=by
 unfold nR at h ⊢;split at h
 .rename_i q;exact(q h).elim
 rename_i hp;rw[aP hp];split at h
 .cases h
 rename_i hlen;rw[aP hlen];split at h
 .cases h
 rename_i P hP;split at h
 .cases h
 rename_i alU;have wS:j6 n E V L=0:=by omega
 obtain⟨_,_,hL,_⟩:=kA wS;have hLn:=Nk hL;obtain⟨f1,f2,f3,f4⟩:=BR (aW _) hP;rw[cg] at f1 f3;have e1:P.length=T.flatten.length:=KC f4 f1 λd=>(f3 d).symm;have e2:=FV (E:=E) hLn;have yt:∀d∈T.flatten,d∈oO L L.length:=λd hd=>by
  obtain⟨u,hu,hdu⟩:=(uL (aW T.length)).1 (by rw[cg];exact hd);have:=f2 u hu d hdu;rw[vg (aW _)] at this;split at this
  .rename_i q;exact q
  cases this
 have alV:=cover f1 yt (by omega);refine⟨wS,⟨by omega,λv hv=>?_,λv hv d=>⟨λhd=>?_,λ⟨hd,ht⟩=>?_⟩⟩,by rw[aP alU]⟩
 .have hm:T.getD v []∈T:=jJ.2 ⟨v,hv,rfl⟩;exact f1.sublist (List.sublist_flatten_of_mem hm)
 .have:=f2 v hv d hd;rw[vg (aW _)] at this;split at this
  .rename_i q;exact⟨(nY d).1 q,by injection this⟩
  cases this
 have hdf:=alV d ((nY d).2 hd);obtain⟨u,hu,hdu⟩:=(uL (aW T.length)).1 (by rw[cg];exact hdf);have:=f2 u hu d hdu;rw[vg (aW _),aQ ((nY d).2 hd),ht] at this;injection this with this
 have:u=v:=by omega
 subst this;exact hdu
theorem P9 {n:af}{E:aa (af×af)}{V L:aa af}{T:aa (aa af)}(hp:j6 n E V L=0)(h:pZ n E L T):(nR n E V L T).2=0:=by
 obtain⟨hr,_,hL,_⟩:=kA hp;have hLn:=Nk hL;have OR:∀u,u<T.length->∀d∈T.getD u [],jr (Cq E L L.length) d=az (u:af):=λu hu d hd=>by
  obtain⟨h1,h2⟩:=(h.mem u hu d).1 hd;rw[vg (aW _),aQ ((nY d).2 h1),h2]
 obtain⟨P,hP⟩:=YD h.nd OR (aW T.length);obtain⟨f1,f2,f3,f4⟩:=BR (aW _) hP;rw[cg] at f1 f3;have hds:=zL hLn (aW L.length);have MU:∀d,ku L d->0<=j7 E d/\(j7 E d).toNat<T.length:=λd hd=>by
  obtain⟨e,he,q⟩:=AW.1 hd;obtain⟨r1,r2,r3,r4⟩:=l6 hr;have hb:=(jC.1 hL).2 e he;have p9:=r4 e.toNat (by omega);unfold P0 at p9;have hlen:=h.len;rcases q with rfl|rfl
  .have e0:j7 E (2*e)=(E.getD e.toNat (0,0)).1:=by unfold j7;rw[aQ (by omega),show 2*e/2=e by omega]
   rw[e0];omega
  have e0:j7 E (2*e+1)=(E.getD e.toNat (0,0)).2:=by unfold j7;rw[aP (by omega),show(2*e+1)/2=e by omega]
  rw[e0];omega
 have e1:P.length=(oO L L.length).length:=KC f4 hds λd=>by
  rw[f3];constructor
  .intro hd;have hd:=(nY d).1 hd;obtain⟨t0,t1⟩:=MU d hd;have:=(h.mem _ t1 d).2 ⟨hd,by omega⟩;have:=(uL (aW T.length)).2 ⟨_,t1,this⟩;rwa[cg] at this
  intro hd;obtain⟨u,hu,hdu⟩:=(uL (aW T.length)).1 (by rw[cg];exact hd);exact(nY d).2 ((h.mem u hu d).1 hdu).1
 have e2:=FV (E:=E) hLn;rw[RP hp h.len hP (by omega)]
abbrev S4:Type:=sB×(aa af×(aa af×af))
def BS (U:aa af):ah:=(bT U.length).countP λi:ah=>aE (jP U (i:af)=(i:af))
structure LV (s:S4):Prop where
 rep:AV s.1 s.2.1 s.2.2.1
 cnt:s.2.2.2=(BS s.2.2.1:af)
def Rl (s:S4)(x y:af):Prop:=∃i j,jr s.1 x=az i/\jr s.1 y=az j/\jP s.2.2.1 i=jP s.2.2.1 j
def ob (s:S4)(x:af):S4:=(lg s.1 s.2.1 x,l5 s.1 s.2.1 x,l9 s.1 s.2.1 s.2.2.1 x,uh s.1 s.2.2.2 x)
def UI (s:S4)(x y:af):S4:=(jnM s.1 s.2.1 x y,jnL s.1 s.2.1 x y,VS s.1 s.2.1 s.2.2.1 x y,UB s.1 s.2.1 s.2.2.1 s.2.2.2 x y)
def jnT (s:S4)(x y:af):ak:=Yp s.1 s.2.1 s.2.2.1 x y
section
variable {s:S4}{x y a b:af}
theorem acr (U:aa af):BS U<=U.length:=by
 grind [BS,List.countP_le_length,jP,bT,List.length_range]
theorem LV.nil:LV ([],[],[],0):=⟨AV.nil,rfl⟩
theorem LV.bd (h:LV s):0<=s.2.2.2/\s.2.2.2<=(s.2.1.length:af):=by
 have:=acr s.2.2.1;have:=h.rep.len;have:=h.cnt;omega
theorem Rl.symm (h:Rl s a b):Rl s b a:=let⟨i,j,h1,h2,h3⟩:=h;⟨j,i,h2,h1,h3.symm⟩
theorem Rl.trans {c:af}(h:Rl s a b)(k:Rl s b c):Rl s a c:=by
 have⟨i,j,h1,h2,h3⟩:=h;obtain⟨j',l,k1,k2,k3⟩:=k;rw[h2] at k1;cases k1;exact⟨i,l,h1,k2,h3.trans k3⟩
theorem yZ {p q:ah->ak}{l:aa ah}(h:∀x∈l,p x=q x):l.countP p=l.countP q:=by
 induction l with
 |nil=>rfl
 |cons x l ih=>
  grind
theorem Qa {p q:ah->ak}{n m:ah}(hm:m<n)(hp:p m=aC)(hq:q m=aD)(h:∀x,x<n->x≠m->p x=q x):(bT n).countP q+1=(bT n).countP p:=by
 induction n with
 |zero=>omega
 |succ n ih=>
  grind [aoA,yZ,bT]
theorem LV.add (h:LV s)(x:af):LV (ob s x)/\∀a b,Rl (ob s x) a b↔Rl s a b\/(a=x/\b=x):=by
 obtain⟨M,L,U,g⟩:=s;have⟨hr,hc⟩:=h;change AV M L U at hr;change g=(BS U:af) at hc;refine⟨⟨(hr.put x).1,?_⟩,λa b=>?_⟩
 .show uh M g x=(BS (l9 M L U x):af);unfold uh l9;split
  .exact hc
  have hlen:=hr.len;obtain⟨a1,a2,a3⟩:=PY hr.ok;rw[hlen] at a1 a2 a3;have e:BS (U++[(aM L:af)])=BS U+1:=by
   unfold BS;rw[bA,dS,aoA,List.countP_append];have h1:=yZ (p:=λi:ah=>aE (jP (U++[(aM L:af)]) (i:af)=(i:af))) (q:=λi:ah=>aE (jP U (i:af)=(i:af))) (l:=bT U.length) λz hz=>by
    have hz:=de.1 hz;rw[a2 z (by omega) (by omega)]
   rw[h1,hlen];have h2:[L.length].countP (λi:ah=>aE (jP (U++[(aM L:af)]) (i:af)=(i:af)))=1:=by
    rw[List.countP_cons];simp[a3]
   rw[h2]
  rw[e];omega
 show(∃i j,jr (lg M L x) a=az i/\jr (lg M L x) b=az j/\jP (l9 M L U x) i=jP (l9 M L U x) j)↔(∃i j,jr M a=az i/\jr M b=az j/\jP U i=jP U j)\/_;cases hx:jr M x with
 |some k=>
  have e1:lg M L x=M:=by unfold lg;rw[hx];rfl
  have e3:l9 M L U x=U:=by unfold l9;rw[hx];rfl
  rw[e1,e3];exact⟨.inl,λq=>q.elim id λ⟨q1,q2⟩=>by subst q1;subst q2;exact⟨k,k,hx,hx,rfl⟩⟩
 |none=>
  have e1:lg M L x=kZ M x (aM L:af):=by unfold lg;rw[hx];rfl
  have e3:l9 M L U x=U++[(aM L:af)]:=by unfold l9;rw[hx];rfl
  rw[e1,e3];have hlen:=hr.len;obtain⟨a1,a2,a3⟩:=PY hr.ok;rw[hlen] at a1 a2 a3;have key:∀z i,jr M z=az i->0<=i/\i<(aM L:af)/\jP U i<=i:=λz i hz=>by
   obtain⟨q1,q2,_⟩:=hr.at_ z i hz;exact⟨q1,q2,(tQ hr.ok q1 (by omega)).2.1⟩
  constructor
  .rintro⟨i,j,h1,h2,h3⟩;rw[lF] at h1 h2
   by_cases qa:x=a<;>by_cases qb:x=b
   .exact .inr ⟨qa.symm,qb.symm⟩
   .rw[aQ qa] at h1;rw[aP qb] at h2;cases h1;obtain⟨k1,k2,k3⟩:=key b j h2;rw[a3,a2 j k1 k2] at h3;omega
   .rw[aP qa] at h1;rw[aQ qb] at h2;cases h2;obtain⟨k1,k2,k3⟩:=key a i h1;rw[a3,a2 i k1 k2] at h3;omega
   rw[aP qa] at h1;rw[aP qb] at h2;obtain⟨k1,k2,_⟩:=key a i h1;obtain⟨l1,l2,_⟩:=key b j h2;rw[a2 i k1 k2,a2 j l1 l2] at h3;exact .inl ⟨i,j,h1,h2,h3⟩
  rintro(⟨i,j,h1,h2,h3⟩|⟨rfl,rfl⟩)
  .obtain⟨k1,k2,_⟩:=key a i h1;obtain⟨l1,l2,_⟩:=key b j h2;have qa:x≠a:=λe=>by rw[e,h1] at hx;cases hx
   have qb:x≠b:=λe=>by rw[e,h2] at hx;cases hx
   exact⟨i,j,by rw[lF,aP qa];exact h1,by rw[lF,aP qb];exact h2,by rw[a2 i k1 k2,a2 j l1 l2];exact h3⟩
  exact⟨_,_,by rw[lF,aQ rfl],by rw[lF,aQ rfl],rfl⟩
theorem LV.up (h:LV s){U':aa af}(h1:qX U')(h2:U'.length=s.2.2.1.length)(h3:∀j,0<=j->j<(s.2.2.1.length:af)->jP U' j=jP s.2.2.1 j):LV (s.1,s.2.1,U',s.2.2.2)/\∀a b,Rl (s.1,s.2.1,U',s.2.2.2) a b↔Rl s a b:=by
 have hlen:=h.rep.len;refine⟨⟨⟨h1,h2.trans h.rep.len,h.rep.at_,h.rep.Hw,h.rep.ex⟩,?_⟩,λa b=>?_⟩
 .show s.2.2.2=(BS U':af);rw[h.cnt]
  congr 1
  unfold BS;rw[h2];exact yZ λz hz=>by
   have hz:=de.1 hz;rw[h3 z (by omega) (by omega)]
 have key:∀z i,jr s.1 z=az i->jP U' i=jP s.2.2.1 i:=λz i hz=>by
  obtain⟨q1,q2,_⟩:=h.rep.at_ z i hz;exact h3 i q1 (by omega)
 constructor
 .rintro⟨i,j,k1,k2,k3⟩;have k3:jP U' i=jP U' j:=k3;exact⟨i,j,k1,k2,by rw[<-key a i k1,<-key b j k2];exact k3⟩
 rintro⟨i,j,k1,k2,k3⟩;exact⟨i,j,k1,k2,by show jP U' i=jP U' j;rw[key a i k1,key b j k2];exact k3⟩
theorem hv2 (h:LV s){i j:af}(hi:jr s.1 x=az i)(hj:jr s.1 y=az j):qX (td (td s.2.2.1 i) j)/\(td (td s.2.2.1 i) j).length=s.2.2.1.length/\(∀k,0<=k->k<(s.2.2.1.length:af)->jP (td (td s.2.2.1 i) j) k=jP s.2.2.1 k)/\FI s.2.2.1 i=jP s.2.2.1 i/\FI (td s.2.2.1 i) j=jP s.2.2.1 j:=by
 have hlen:=h.rep.len;obtain⟨i0,i1,_⟩:=h.rep.at_ x i hi;obtain⟨j0,j1,_⟩:=h.rep.at_ y j hj;obtain⟨a1,a2,a3,a4⟩:=FJ (i.toNat+1) s.2.2.1 i h.rep.ok i0 (by omega) (dU _);have a3:(td s.2.2.1 i).length=s.2.2.1.length:=a3;have a2:qX (td s.2.2.1 i):=a2;have a4:∀k,0<=k->k<(s.2.2.1.length:af)->jP (td s.2.2.1 i) k=jP s.2.2.1 k:=a4;obtain⟨b1,b2,b3,b4⟩:=FJ (j.toNat+1) (td s.2.2.1 i) j a2 j0 (by omega) (dU _);have b1:FI (td s.2.2.1 i) j=jP (td s.2.2.1 i) j:=b1;exact⟨b2,b3.trans a3,λk k0 k1=>(b4 k k0 (by omega)).trans (a4 k k0 k1),a1,by rw[b1,a4 j j0 (by omega)]⟩
theorem acs {M:sB}{L U:aa af}(h:AV M L U){z i:af}(hz:jr M z=az i)(x:af):jr (lg M L x) z=az i:=by
 grind [lg,lF]
theorem LV.jn (h:LV s)(x y:af):LV (UI s x y)/\(jnT s x y=aC↔¬(Rl s x y\/x=y))/\∀a b,Rl (UI s x y) a b↔(Rl (ob (ob s x) y) a b\/(Rl (ob (ob s x) y) a x/\Rl (ob (ob s x) y) y b)\/(Rl (ob (ob s x) y) a y/\Rl (ob (ob s x) y) x b)):=by
 obtain⟨h1,r1⟩:=h.add x;obtain⟨h2,r2⟩:=h1.add y;obtain⟨_,p0,p1,px⟩:=h.rep.put x;obtain⟨_,p2,p3,py⟩:=h1.rep.put y;have px:jr (ob (ob s x) y).1 x=az (mY s.1 s.2.1 x):=acs h1.rep px y;have py:jr (ob (ob s x) y).1 y=az (mY (ob s x).1 (ob s x).2.1 y):=py;obtain⟨a1,a2,a3,a4,a5⟩:=hv2 h2 px py;have QZ:AS s.1 s.2.1 s.2.2.1 x y=jP (ob (ob s x) y).2.2.1 (mY s.1 s.2.1 x):=a4;have hrj:AU s.1 s.2.1 s.2.2.1 x y=jP (ob (ob s x) y).2.2.1 (mY (ob s x).1 (ob s x).2.1 y):=a5;have hT:Rl (ob (ob s x) y) x y↔AS s.1 s.2.1 s.2.2.1 x y=AU s.1 s.2.1 s.2.2.1 x y:=by
  rw[QZ,hrj];constructor
  .rintro⟨i,j,k1,k2,k3⟩;rw[px] at k1;rw[py] at k2;cases k1;cases k2;exact k3
  exact λq=>⟨_,_,px,py,q⟩
 have hT2:Rl (ob (ob s x) y) x y↔Rl s x y\/x=y:=by
  rw[r2,r1];constructor
  .rintro((q|q)|q)
   .exact .inl q
   .exact .inr q.2.symm
   exact .inr q.1
  rintro(q|q)
  .exact .inl (.inl q)
  exact .inl (.inr ⟨rfl,q.symm⟩)
 have hS:∀U',VS s.1 s.2.1 s.2.2.1 x y=U'->UI s x y=((ob (ob s x) y).1,(ob (ob s x) y).2.1,U',UB s.1 s.2.1 s.2.2.1 s.2.2.2 x y):=λU' e=>by rw[<-e];rfl
 have hU2:Yo s.1 s.2.1 s.2.2.1 x y=td (td (ob (ob s x) y).2.2.1 (mY s.1 s.2.1 x)) (mY (ob s x).1 (ob s x).2.1 y):=rfl;have hb:jnT s x y=aC↔¬AS s.1 s.2.1 s.2.2.1 x y=AU s.1 s.2.1 s.2.2.1 x y:=by
  unfold jnT Yp;split
  .rename_i q;exact⟨(λz=>by cases z),λz=>(z q).elim⟩
  rename_i q;exact⟨λ_=>q,λ_=>rfl⟩
 rw[hb,<-hT,hT2];generalize hs2:ob (ob s x) y=s2 at*
 have am8:=h2.rep.len;obtain⟨i0,i1,_⟩:=h2.rep.at_ _ _ px;obtain⟨j0,j1,_⟩:=h2.rep.at_ _ _ py
 by_cases q:AS s.1 s.2.1 s.2.2.1 x y=AU s.1 s.2.1 s.2.2.1 x y
 .have eU:VS s.1 s.2.1 s.2.2.1 x y=Yo s.1 s.2.1 s.2.2.1 x y:=aQ q;have eG:UB s.1 s.2.1 s.2.2.1 s.2.2.2 x y=s2.2.2.2:=by
   unfold UB;rw[aQ q,<-hs2];rfl
  rw[hS _ (eU.trans hU2),eG];obtain⟨b1,b2⟩:=h2.up a1 a2 a3;refine⟨b1,Iff.rfl,λa b=>?_⟩;rw[b2];have hxy:=hT.2 q;exact⟨.inl,λz=>z.elim id λz=>z.elim (λ⟨z1,z2⟩=>z1.trans (hxy.trans z2)) λ⟨z1,z2⟩=>z1.trans (hxy.symm.trans z2)⟩
 obtain⟨b1,b2⟩:=h2.up a1 a2 a3;generalize hv:td (td s2.2.2.1 (mY s.1 s.2.1 x)) (mY (ob s x).1 (ob s x).2.1 y)=V at*
 have eU:VS s.1 s.2.1 s.2.2.1 x y=V.set (max (AS s.1 s.2.1 s.2.2.1 x y) (AU s.1 s.2.1 s.2.2.1 x y)).toNat (min (AS s.1 s.2.1 s.2.2.1 x y) (AU s.1 s.2.1 s.2.2.1 x y)):=by
  have:VS s.1 s.2.1 s.2.2.1 x y=(Yo s.1 s.2.1 s.2.2.1 x y).set (max (AS s.1 s.2.1 s.2.2.1 x y) (AU s.1 s.2.1 s.2.2.1 x y)).toNat (min (AS s.1 s.2.1 s.2.2.1 x y) (AU s.1 s.2.1 s.2.2.1 x y)):=aP q;rw[this,hU2]
 have eG:UB s.1 s.2.1 s.2.2.1 s.2.2.2 x y=s2.2.2.2-1:=by
  unfold UB;rw[aP q,<-hs2];rfl
 rw[hS _ eU,eG,QZ,hrj];rw[QZ,hrj] at q;generalize hpi:mY s.1 s.2.1 x=pi at*
 generalize hpj:mY (ob s x).1 (ob s x).2.1 y=pj at*
 obtain⟨u1,u2,u3⟩:=tQ h2.rep.ok i0 (show pi<(s2.2.2.1.length:af) by omega);obtain⟨v1,v2,v3⟩:=tQ h2.rep.ok j0 (show pj<(s2.2.2.1.length:af) by omega);have YE:=FG h2.rep.ok i0 (show pi<(s2.2.2.1.length:af) by omega);have YF:=FG h2.rep.ok j0 (show pj<(s2.2.2.1.length:af) by omega);generalize hr:jP s2.2.2.1 pi=r at*
 generalize ht:jP s2.2.2.1 pj=t at*
 have hrV:V.getD r.toNat 0=r:=by
  have e:=a3 r u1 (by omega);have:=(tQ a1 u1 (show r<(aM V:af) by omega)).2.2;rw[e,YE] at this;exact this
 have htV:V.getD t.toNat 0=t:=by
  have e:=a3 t v1 (by omega);have:=(tQ a1 v1 (show t<(aM V:af) by omega)).2.2;rw[e,YF] at this;exact this
 obtain⟨c1,c2⟩:=aci a1 u1 v1 (by omega) (by omega) hrV htV q;generalize hW:V.set (max r t).toNat (min r t)=Wn at*
 have hWl:Wn.length=s2.2.2.1.length:=by rw[<-hW,cq];exact a2
 have c3:∀k,0<=k->k<(s2.2.2.1.length:af)->jP Wn k=if jP s2.2.2.1 k=max r t then min r t else jP s2.2.2.1 k:=λk k0 k1=>by rw[c2 k k0 (by omega),a3 k k0 k1]
 have hmx:0<=max r t/\max r t<(s2.2.2.1.length:af)/\jP s2.2.2.1 (max r t)=max r t/\max r t≠min r t/\jP s2.2.2.1 (min r t)=min r t:=by
  rcases aoX r t with z|z
  .rw[apu z,apw z];exact⟨v1,by omega,YF,λe=>q e.symm,YE⟩
  rw[apv z,apx z];exact⟨u1,by omega,YE,q,YF⟩
 have⟨m1,m2,m3,m4,m5⟩:=hmx;refine⟨⟨⟨c1,hWl.trans h2.rep.len,h2.rep.at_,h2.rep.Hw,h2.rep.ex⟩,?_⟩,Iff.rfl,λa b=>?_⟩
 .show s2.2.2.2-1=(BS Wn:af);have alW:BS Wn+1=BS s2.2.2.1:=by
   unfold BS;rw[hWl];refine Qa (m:=(max r t).toNat) (by omega) ?_ ?_ λk hk qD=>?_
   .rw[decide_eq_true_iff,eM m1];exact m3
   .rw[decide_eq_false_iff_not,eM m1,c3 _ m1 m2,aQ m3];exact λe=>m4 e.symm
   rw[decide_eq_decide,c3 k (by omega) (by omega)]
   by_cases z:jP s2.2.2.1 (k:af)=max r t
   .rw[aQ z,z];constructor
    .intro e;omega
    intro e;have:jP s2.2.2.1 (k:af)=min r t:=by rw[<-e];exact m5
    omega
   rw[aP z]
  have:=h2.cnt;omega
 have key:∀z i,jr s2.1 z=az i->0<=i/\i<(s2.2.2.1.length:af):=λz i hz=>by
  obtain⟨q1,q2,_⟩:=h2.rep.at_ z i hz;exact⟨q1,by omega⟩
 constructor
 .rintro⟨i,j,k1,k2,k3⟩;have k3:jP Wn i=jP Wn j:=k3;obtain⟨e0,e1⟩:=key a i k1;obtain⟨f0,f1⟩:=key b j k2;rw[c3 i e0 e1,c3 j f0 f1] at k3;have Hj:(max r t=r/\min r t=t)\/(max r t=t/\min r t=r):=by
   rcases aoX r t with z|z
   .exact .inr ⟨apu z,apw z⟩
   exact .inl ⟨apv z,apx z⟩
  have O7:∀z i,jr s2.1 z=az i->jP s2.2.2.1 i=r->Rl s2 z x:=λz i hz e=>⟨i,pi,hz,px,by rw[e,hr]⟩;have hy':∀z i,jr s2.1 z=az i->jP s2.2.2.1 i=t->Rl s2 z y:=λz i hz e=>⟨i,pj,hz,py,by rw[e,ht]⟩;split at k3<;>split at k3
  .rename_i z1 z2;exact .inl ⟨i,j,k1,k2,z1.trans z2.symm⟩
  .rename_i z1 z2;rcases Hj with⟨n1,n2⟩|⟨n1,n2⟩
   .exact .inr (.inl ⟨O7 a i k1 (z1.trans n1),(hy' b j k2 (k3.symm.trans n2)).symm⟩)
   exact .inr (.inr ⟨hy' a i k1 (z1.trans n1),(O7 b j k2 (k3.symm.trans n2)).symm⟩)
  .rename_i z1 z2;rcases Hj with⟨n1,n2⟩|⟨n1,n2⟩
   .exact .inr (.inr ⟨hy' a i k1 (k3.trans n2),(O7 b j k2 (z2.trans n1)).symm⟩)
   exact .inr (.inl ⟨O7 a i k1 (k3.trans n2),(hy' b j k2 (z2.trans n1)).symm⟩)
  exact .inl ⟨i,j,k1,k2,k3⟩
 have am9:∀z i,jr s2.1 z=az i->jr (s2.1,s2.2.1,Wn,s2.2.2.2-1).1 z=az i:=λz i hz=>hz;have eqx:∀z,Rl s2 z x->∃i,jr s2.1 z=az i/\jP s2.2.2.1 i=r:=λz ⟨i,j,k1,k2,k3⟩=>by
  rw[px] at k2;cases k2;exact⟨i,k1,by rw[k3,hr]⟩
 have eqy:∀z,Rl s2 z y->∃i,jr s2.1 z=az i/\jP s2.2.2.1 i=t:=λz ⟨i,j,k1,k2,k3⟩=>by
  rw[py] at k2;cases k2;exact⟨i,k1,by rw[k3,ht]⟩
 have both:∀e,(e=r\/e=t)->(if e=max r t then min r t else e)=min r t:=λe he=>by
  rcases aoX r t with z|z
  .rw[apu z,apw z];rcases he with rfl|rfl
   .split<;>rfl
   rw[aQ rfl]
  rw[apv z,apx z];rcases he with rfl|rfl
  .rw[aQ rfl]
  split<;>rfl
 rintro(⟨i,j,k1,k2,k3⟩|⟨z1,z2⟩|⟨z1,z2⟩)
 .obtain⟨e0,e1⟩:=key a i k1;obtain⟨f0,f1⟩:=key b j k2;exact⟨i,j,k1,k2,by show jP Wn i=jP Wn j;rw[c3 i e0 e1,c3 j f0 f1,k3]⟩
 .obtain⟨i,k1,k2⟩:=eqx a z1;obtain⟨j,l1,l2⟩:=eqy b z2.symm;obtain⟨e0,e1⟩:=key a i k1;obtain⟨f0,f1⟩:=key b j l1;exact⟨i,j,k1,l1,by show jP Wn i=jP Wn j;rw[c3 i e0 e1,c3 j f0 f1,both _ (.inl k2),both _ (.inr l2)]⟩
 obtain⟨i,k1,k2⟩:=eqy a z1;obtain⟨j,l1,l2⟩:=eqx b z2.symm;obtain⟨e0,e1⟩:=key a i k1;obtain⟨f0,f1⟩:=key b j l1;exact⟨i,j,k1,l1,by show jP Wn i=jP Wn j;rw[c3 i e0 e1,c3 j f0 f1,both _ (.inr k2),both _ (.inl l2)]⟩
end
open Go.RowKit
section
variable {E:aa (af×af)}{M:aa (af×aa af)}{a shut v d:af}{k f:ah}{m:aa (af×af)}{q:aa af}{n:af}
theorem UJ (h:P8 E a v k m q)(hd:kF E d∈univ E a):P8 E a v k (nZ E v shut (m,q) d).1 (nZ E v shut (m,q) d).2:=by
 by_cases hn:(jr m (kF E d)).isSome=aC\/kF E d=shut
 .grind [nZ]
 have e:nZ E v shut (m,q) d=(kZ m (kF E d) ((jr m v).getD 0+1),q++[kF E d]):=by unfold nZ;rw[aP hn]
 rw[e];exact h.ajA hd hn
theorem IY:∀ {l:aa af} {m:aa (af×af)} {q:aa af},P8 E a v k m q->(∀d∈l,kF E d∈univ E a)->P8 E a v k (l.foldl (nZ E v shut) (m,q)).1 (l.foldl (nZ E v shut) (m,q)).2
 |[],m,q,h,_=>h
 |d::l,m,q,h,hd=>by
  rw[anH];exact IY (UJ h (hd d aZ)) λx hx=>hd x (bl _ hx)
theorem Qb {s:aa (af×af)×aa af}{x:af}(h:(jr s.1 x).isSome=aC):(jr (nZ E v shut s d).1 x).isSome=aC:=by
 grind [nZ,jr,kZ,lF]
theorem y5:∀ {l:aa af} {s:aa (af×af)×aa af} {x:af},(jr s.1 x).isSome=aC->(jr (l.foldl (nZ E v shut) s).1 x).isSome=aC
 |[],_,_,h=>h
 |d::l,s,x,h=>by rw[anH];exact y5 (Qb h)
theorem DL:∀ {l:aa af} {s:aa (af×af)×aa af},∀d∈l,kF E d≠shut->(jr (l.foldl (nZ E v shut) s).1 (kF E d)).isSome=aC
 |e::l,s,d,hd,hs=>by
  rw[anH];rcases bg.1 hd with rfl|hd
  .grind [y5,nZ,jr,kZ,lF]
  exact DL d hd hs
theorem BT:∀ {l:aa af} {s:aa (af×af)×aa af} {x:af},(jr (l.foldl (nZ E v shut) s).1 x).isSome=aC->(jr s.1 x).isSome=aC\/x∈(l.foldl (nZ E v shut) s).2
 |[],_,_,h=>.inl h
 |d::l,s,x,h=>by
  rw[anH] at h ⊢;rcases BT h with h1|h1
  .unfold nZ at h1;split at h1
   .exact .inl h1
   rename_i hn;have h1:(jr (kZ s.1 (kF E d) _) x).isSome=aC:=h1;rw[lF] at h1;split at h1
   .rename_i e;refine .inr ?_;have mono:∀ {l:aa af} {s:aa (af×af)×aa af} {y:af},y∈s.2->y∈(l.foldl (nZ E v shut) s).2:=by
     intro l
     induction l with
     |nil=>intro s y h;exact h
     |cons e l ih=>
      intro s y h;rw[anH];refine ih ?_;unfold nZ;split
      .exact h
      exact bU _ h
    refine mono ?_;unfold nZ;rw[aP hn];exact bV _ (by rw[e];exact aU.2 rfl)
   exact .inl h1
  exact .inr h1
theorem DM:∀ {l:aa af} {s:aa (af×af)×aa af} {y:af},y∈s.2->y∈(l.foldl (nZ E v shut) s).2
 |[],_,_,h=>h
 |d::l,s,y,h=>by
  rw[anH];refine DM ?_;unfold nZ
  grind
theorem YG (hD:∀v,∀d∈(jr M v).getD [],kF E d∈univ E a):∀(f:ah) (k:ah) (v:af) (m:aa (af×af)) (q:aa af),P8 E a v k m q->(∀p∈m,p.2<=(k:af))->f+k=2*E.length+2->
  (∀x,(jr m x).isSome=aC->x=v\/x∈q\/∀d∈(jr M x).getD [],kF E d≠shut->(jr m (kF E d)).isSome=aC)->
  UE (univ E a) (CZ E M shut f v (m,q),[])/\(∀x,(jr m x).isSome=aC->(jr (CZ E M shut f v (m,q)) x).isSome=aC)/\
   ∀x,(jr (CZ E M shut f v (m,q)) x).isSome=aC->∀d∈(jr M x).getD [],kF E d≠shut->(jr (CZ E M shut f v (m,q)) (kF E d)).isSome=aC
 |0,k,v,m,q,h,_,hf,_=>by have:=h.bd;omega
 |f+1,k,v,m,q,h,Hp,hf,hc=>by
  have h1:P8 E a v k (oG E M v shut (m,q)).1 (oG E M v shut (m,q)).2:=IY h (hD v);have YH:∀x,(jr m x).isSome=aC->(jr (oG E M v shut (m,q)).1 x).isSome=aC:=λx hx=>y5 (s:=(m,q)) hx;have ajC:∀x,(jr (oG E M v shut (m,q)).1 x).isSome=aC->x∈(oG E M v shut (m,q)).2\/∀d∈(jr M x).getD [],kF E d≠shut->(jr (oG E M v shut (m,q)).1 (kF E d)).isSome=aC:=λx hx=>by
   rcases BT (s:=(m,q)) hx with h2|h2
   .rcases hc x h2 with rfl|h3|h3
    .exact .inr λd hd hs=>DL d hd hs
    .exact .inl (DM (s:=(m,q)) h3)
    exact .inr λd hd hs=>YH _ (h3 d hd hs)
   exact .inl h2
  have kT:CZ E M shut (f+1) v (m,q)=(match(oG E M v shut (m,q)).2 with
   |[]=>(oG E M v shut (m,q)).1
   |x::t=>CZ E M shut f x ((oG E M v shut (m,q)).1,t)):=rfl
  rw[kT];generalize hs:oG E M v shut (m,q)=s at*
  obtain⟨m',q'⟩:=s;cases q' with
  |nil=>
   refine⟨⟨h1.s.nd,h1.s.sub⟩,YH,λx hx d hd hs=>?_⟩;rcases ajC x hx with h2|h2
   .cases h2
   exact h2 d hd hs
  |cons x t=>
   have hM:P8 E a x (k+1) m' t:=by
    refine⟨⟨h1.s.nd,h1.s.sub⟩,h1.qU x aZ,λy hy=>h1.qU y (bl _ hy),?_,λp hp=>?_,h1.qM x aZ,λy hy=>h1.qM y (bl _ hy),?_⟩
    .have:=h1.n;simp only[b7] at this;omega
    .have:=h1.b p hp;exact⟨this.1,by omega⟩
    exact xP (P:=λy=>0<=y/\y<=((k+1:ah):af)) ⟨by omega,by omega⟩ (λp hp=>by have:=h1.b p hp;exact⟨this.1,by omega⟩) x
   obtain⟨r1,r2,r3⟩:=YG hD f (k+1) x m' t hM (λp hp=>by have:=h1.b p hp;omega) (by omega) (λy hy=>by
    rcases ajC y hy with h2|h2
    .rcases bg.1 h2 with rfl|h2
     .exact .inl rfl
     exact .inr (.inl h2)
    exact .inr (.inr h2))
   exact⟨r1,λy hy=>r2 y (YH y hy),r3⟩
theorem Nl (hD:∀v,∀d∈(jr M v).getD [],kF E d∈univ E a):(nr E M a shut).length<=2*E.length+1/\(∀p∈nr E M a shut,p.1∈univ E a)/\(jr (nr E M a shut) a).isSome=aC/\
  ∀x,(jr (nr E M a shut) x).isSome=aC->∀d∈(jr M x).getD [],kF E d≠shut->(jr (nr E M a shut) (kF E d)).isSome=aC:=by
 obtain⟨h1,h2,_⟩:=(Kx.init E M a shut).go rfl;obtain⟨r1,r2,r3⟩:=YG (shut:=shut) hD (2*E.length+2) 0 a [(a,0)] [] h1 (λp hp=>by have:=h2 p hp;simpa using this) (by omega) (λx hx=>by
  left;cases hl:jr [(a,(0:af))] x with
  |none=>rw[hl] at hx;cases hx
  |some z=>have:=aU.1 (xB hl);cases this;rfl)
 have hlen:=r1.len;rw[Nb] at hlen;exact⟨hlen,r1.sub,r2 a (by rw[RN];rfl),r3⟩
theorem FX {V L:aa af}(hp:j6 n E V L=0):DOk E (kU E L):=λv d hd=>by
 rw[zK] at hd;obtain⟨h1,h2⟩:=rJ.1 hd;have:=(jC.1 (kA hp).2.2.1).2 _ h1
 grind
theorem Nn (hr:kz n E=0)(hD:DOk E M)(a:af):∀v,∀d∈(jr M v).getD [],kF E d∈univ E a:=λv d hd=>by
 obtain⟨h1,h2⟩:=hD v d hd;exact bl _ (Na hr h1 h2).2.2
theorem UK {V L:aa af}(hp:j6 n E V L=0){x:af}(h:(grE E L).Bg (· ≠-1) a x):(jr (nr E (kU E L) a (-1)) x).isSome=aC:=by
 have hr:=(kA hp).1;obtain⟨_,_,h1,h2⟩:=Nl (shut:= -1) (Nn hr (FX hp) a);have hdk:=M8 (E:=E) (kA hp).2.2.1;refine h.closed (Q:=λx=>(jr (nr E (kU E L) a (-1)) x).isSome=aC) (λx y hx ha hy=>?_) h1;have⟨f,hf,hj⟩:=ha;obtain⟨d,hd,hdf⟩:=hdk.all f x hf hj.left;obtain⟨_,Kf⟩:=hdk.mem x d hd;rw[hdf] at Kf;have hd2:d∈(jr (kU E L) x).getD []:=by rw[zK];exact hd
 by_cases e:kF E d=y
 .subst e;exact h2 x hx d hd2 hy
 have h3:=Kf.of (z:=y) hj.right;rcases h3 with rfl|h3
 .exact hx
 exact(e h3.symm).elim
end
def xR (pm m:aa (af×af))(c:af):aa (af×af):=m.foldl (λp q=>kZ p q.1 c) pm
open Classical in
theorem BU {c:af}:∀ {m pm:aa (af×af)} {x:af},jr (xR pm m c) x=if(jr m x).isSome=aC then az c else jr pm x:=by
 have key:∀(m pm:aa (af×af)) (x:af),jr (xR pm m c) x=if ∃v,(x,v)∈m then az c else jr pm x:=by
  intro m
  induction m with
  |nil=>intro pm x;show jr pm x=_;rw[aP (by rintro⟨v,h⟩;cases h)]
  |cons p m ih=>
   intro pm x;show jr (xR (kZ pm p.1 c) m c) x=_;rw[ih,lF]
   by_cases h1:∃v,(x,v)∈m
   .obtain⟨v,hv⟩:=h1;rw[aQ ⟨v,hv⟩,aQ ⟨v,bl _ hv⟩]
   rw[aP h1]
   by_cases h2:p.1=x
   .rw[aQ h2,aQ ⟨p.2,by rw[<-h2];exact aZ⟩]
   rw[aP h2,aP];rintro⟨v,hv⟩;rcases bg.1 hv with e|hv
   .rw[<-e] at h2;exact h2 rfl
   exact h1 ⟨v,hv⟩
 intro m pm x;rw[key]
 by_cases h:∃v,(x,v)∈m
 .rw[aQ h,aQ];cases hl:jr m x with
  |none=>have⟨v,hv⟩:=h;exact(wB.1 hl v hv).elim
  |some z=>rfl
 rw[aP h,aP];intro q;obtain⟨z,hz⟩:=bS.1 q;exact h ⟨z,xB hz⟩
abbrev xu:=aa (aa af×aa af)
def No (out:xu)(i v:af):xu:=out.set i.toNat ((out.getD i.toNat ([],[])).1++[v],(out.getD i.toNat ([],[])).2)
def YI (out:xu)(i e:af):xu:=out.set i.toNat ((out.getD i.toNat ([],[])).1,(out.getD i.toNat ([],[])).2++[e])
def o9 (E:aa (af×af))(M:aa (af×aa af))(s:aa (af×af)×xu)(v:af):aa (af×af)×xu:=
 if(jr s.1 v).isSome=aC then(s.1,No s.2 ((jr s.1 v).getD 0) v)
 else(xR s.1 (nr E M v (-1)) (s.2.length:af),No (s.2++[([],[])]) (s.2.length:af) v)
def FY (E:aa (af×af))(pm:aa (af×af))(out:xu)(e:af):xu:=YI out ((jr pm (E.getD e.toNat (0,0)).1).getD 0) e
def xT (E:aa (af×af))(V L:aa af):xu:=L.foldl (FY E (V.foldl (o9 E (kU E L)) ([],[])).1) (V.foldl (o9 E (kU E L)) ([],[])).2
structure ItI (R pm:aa (af×af))(c:af)(lf:af->ak)(cnt:ah)(xw:aa (af×af)):Prop where
 a:∀z,lf z=aC->(jr R z).isSome=aC
 b:∀z,jr xw z=if(jr R z).isSome=aC/\lf z=aD then az c else jr pm z
 n:xw.length+cnt<=pm.length+R.length
theorem ItI.start (R pm:aa (af×af))(c:af):ItI R pm c (λz=>(jr R z).isSome) R.length pm:=
 ⟨λz h=>h,λz=>by rw[aP (by rintro⟨h1,h2⟩;rw[h1] at h2;cases h2)],aW _⟩
theorem ItI.step {R pm xw:aa (af×af)}{c:af}{lf:af->ak}{cnt uA:ah}(h:ItI R pm c lf cnt xw){k v:af}(hl:lf k=aC)(hk:jr R k=az v)(hc:uA<cnt):
  ItI R pm c (λz=>lf z && !decide (z=k)) uA (kZ xw k c):=by
 refine⟨λz hz=>?_,λz=>?_,?_⟩
 .rw[bB] at hz;exact h.a z hz.1
 .rw[lF,h.b]
  grind
 have:=h.n;have:=qF xw k c;omega
theorem ItI.fin {R pm xw:aa (af×af)}{c:af}{lf:af->ak}{cnt:ah}(h:ItI R pm c lf cnt xw)(hl:∀z,lf z=aD):(∀z,jr xw z=if(jr R z).isSome=aC then az c else jr pm z)/\xw.length<=pm.length+R.length:=by
 refine⟨λz=>?_,by have:=h.n;omega⟩;rw[h.b]
 grind
structure yy (E:aa (af×af))(V L:aa af)(i:af)(pm:aa (af×af))(out:xu):Prop where
 f:∃p',(V.take i.toNat).foldl (o9 E (kU E L)) ([],[])=(p',out)/\∀x,jr pm x=jr p' x
 b:∀x c,jr pm x=az c->0<=c/\c<(aM out:af)
 n:pm.length<=i.toNat*3000
 o:out.length<=i.toNat
 r:∀x∈out,x.1.length<=i.toNat/\x.2=[]
 d:∀j:ah,(j:af)<i->(jr pm (V.getD j 0)).isSome=aC
theorem yy.zero (E:aa (af×af))(V L:aa af):yy E V L 0 [] []:=⟨⟨[],rfl,λ_=>rfl⟩,(λx c h=>by cases h),bQ _,bQ _,(λx h=>by cases h),λj h=>by omega⟩
theorem BV (out:xu)(i v:af):(No out i v).length=out.length:=cq
theorem YJ (out:xu)(i v:af):(YI out i v).length=out.length:=cq
theorem Np {out:xu}{i v:af}{k:ah}(h:∀x∈out,x.1.length<=k/\x.2=[]):∀x∈No out i v,x.1.length<=k+1/\x.2=[]:=λx hx=>by
 rcases aoT hx with q|rfl
 .grind
 grind
section
variable {E:aa (af×af)}{V L:aa af}{i:af}{pm xw:aa (af×af)}{out:xu}
theorem yy.met (h:yy E V L i pm out)(h0:0<=i)(h1:i<(aM V:af))(hm:(jr pm (V.getD i.toNat 0)).isSome=aC):yy E V L (i+1) pm (No out ((jr pm (V.getD i.toNat 0)).getD 0) (V.getD i.toNat 0)):=by
 have⟨p',f1,f2⟩:=h.f;have hi:(i+1).toNat=i.toNat+1:=by omega
 refine⟨⟨p',?_,f2⟩,λx c hx=>by rw[BV];exact h.b x c hx,bC h.n (Nat.mul_le_mul_right _ (by omega)),by rw[BV];have:=h.o;omega,by rw[hi];exact Np h.r,λj hj=>?_⟩
 .grind [ve,o9]
 by_cases e:(j:af)<i
 .exact h.d j e
 rw[show j=i.toNat by omega];exact hm
theorem yy.new (h:yy E V L i pm out)(h0:0<=i)(h1:i<(aM V:af))(hm:(jr pm (V.getD i.toNat 0)).isSome=aD)(hR:(jr (nr E (kU E L) (V.getD i.toNat 0) (-1)) (V.getD i.toNat 0)).isSome=aC)(hlen:(nr E (kU E L) (V.getD i.toNat 0) (-1)).length<=3000)
  (hp:(∀z,jr xw z=if(jr (nr E (kU E L) (V.getD i.toNat 0) (-1)) z).isSome=aC then az (aM out:af) else jr pm z)/\xw.length<=pm.length+(nr E (kU E L) (V.getD i.toNat 0) (-1)).length):
  yy E V L (i+1) xw (No (out++[([],[])]) ((jr xw (V.getD i.toNat 0)).getD 0) (V.getD i.toNat 0))/\jr xw (V.getD i.toNat 0)=az (aM out:af):=by
 have⟨p',f1,f2⟩:=h.f;have⟨p1,p2⟩:=hp;have hi:(i+1).toNat=i.toNat+1:=by omega
 have hv:jr xw (V.getD i.toNat 0)=az (aM out:af):=by rw[p1,aQ hR]
 refine⟨⟨⟨xR p' (nr E (kU E L) (V.getD i.toNat 0) (-1)) (aM out:af),?_,λx=>?_⟩,λx c hx=>?_,?_,?_,?_,λj hj=>?_⟩,hv⟩
 .rw[ve _ _ h0 h1,f1,hv];unfold o9;simp only;rw[<-f2,aP (by rw[hm];decide)];rfl
 .rw[p1,BU,f2]
 .rw[BV,bA];rw[p1] at hx;split at hx
  .cases hx;simp only[dS];omega
  have:=h.b x c hx;simp only[dS];omega
 .have:=h.n;rw[hi,cL];omega
 .rw[BV,bA];have:=h.o;simp only[dS];omega
 .rw[hi];refine Np λx hx=>?_;rcases bE.1 hx with hx|hx
  .exact h.r x hx
  rw[aU.1 hx];exact⟨by simp,rfl⟩
 rw[p1];split
 .rfl
 by_cases e:(j:af)<i
 .exact h.d j e
 rename_i q;rw[show j=i.toNat by omega] at q;exact(q hR).elim
theorem yy.at_ (h:yy E V L i pm out)(h0:0<=i)(h1:i<=(aM V:af)){x:af}(hm:(jr pm x).isSome=aC):(0<=(jr pm x).getD 0/\(jr pm x).getD 0<(aM out:af))/\(out.getD ((jr pm x).getD 0).toNat ([],[])).1.length<=V.length:=by
 obtain⟨c,hc⟩:=bS.1 hm;rw[hc];refine⟨h.b x c hc,?_⟩;rw[bD];cases hj:out[c.toNat]? with
 |none=>simp[hj]
 |some y=>
  have:=(h.r y (cn hj)).1;simp[hj];omega
structure Qc (E:aa (af×af))(V L:aa af)(j:af)(m:ah)(o2:xu):Prop where
 f:(L.take j.toNat).foldl (FY E (V.foldl (o9 E (kU E L)) ([],[])).1) (V.foldl (o9 E (kU E L)) ([],[])).2=o2
 n:o2.length=m
 r:∀x∈o2,x.2.length<=j.toNat
theorem yy.fin (h:yy E V L i pm out)(h1:¬i<(aM V:af)):(∀x,jr pm x=jr (V.foldl (o9 E (kU E L)) ([],[])).1 x)/\(V.foldl (o9 E (kU E L)) ([],[])).2=out/\Qc E V L 0 out.length out:=by
 have⟨p',f1,f2⟩:=h.f;rw[dI (by omega)] at f1;refine⟨λx=>by rw[f1];exact f2 x,by rw[f1],by rw[f1];rfl,rfl,λx hx=>by rw[(h.r x hx).2];simp⟩
theorem Qc.step {j:af}{m:ah}{o2:xu}(h:Qc E V L j m o2)(hp:∀x,jr pm x=jr (V.foldl (o9 E (kU E L)) ([],[])).1 x)(h0:0<=j)(h1:j<(aM L:af)):
  Qc E V L (j+1) m (YI o2 ((jr pm (E.getD (L.getD j.toNat 0).toNat (0,0)).1).getD 0) (L.getD j.toNat 0)):=by
 have hi:(j+1).toNat=j.toNat+1:=by omega
 refine⟨?_,by rw[YJ];exact h.n,λx hx=>?_⟩
 .rw[ve _ _ h0 h1,h.f,hp];rfl
 rw[hi];rcases aoT hx with q|rfl
 .exact Nat.le_succ_of_le (h.r x q)
 show(_++[_]).length<=_;rw[bA];have:∀k,(o2.getD k ([],[])).2.length<=j.toNat:=λk=>by
  rw[bD];cases hk:o2[k]? with
  |none=>simp
  |some y=>exact h.r y (cn hk)
 simp only[dS];exact apP (this _)
theorem Qc.at_ {j:af}{m:ah}{o2:xu}(h:Qc E V L j m o2)(k:ah):(o2.getD k ([],[])).2.length<=j.toNat:=by
 rw[bD];cases hk:o2[k]? with
 |none=>simp
 |some y=>exact h.r y (cn hk)
theorem yy.at2 {x:af}(h:jr xw x=az (aM out:af)):(0<=(jr xw x).getD 0/\(jr xw x).getD 0<((out++[([],[])]).length:af))/\((out++[([],[])]).getD ((jr xw x).getD 0).toNat ([],[])).1.length<=0:=by
 grind
theorem yy.all (h:yy E V L i pm out)(h1:¬i<(aM V:af)){x:af}(hx:x∈V):(jr pm x).isSome=aC:=by
 obtain⟨j,hj,rfl⟩:=qY.1 hx;exact h.d j (by omega)
theorem Qd {n:af}{o2:xu}(hp:j6 n E V L=0)(e:L.foldl (FY E (V.foldl (o9 E (kU E L)) ([],[])).1) (V.foldl (o9 E (kU E L)) ([],[])).2=o2):((o2,(0:af),()):xu×af×Unit)=(if j6 n E V L≠0 then[] else xT E V L,j6 n E V L,()):=by
 rw[aP (λq=>q hp),hp,<-e];rfl
theorem C2 {n j:af}(hp:j6 n E V L=0)(h0:0<=j)(h1:j<(aM L:af)):(E.getD (L.getD j.toNat 0).toNat (0,0)).1∈V/\(E.getD (L.getD j.toNat 0).toNat (0,0)).2∈V:=by
 obtain⟨hr,hV,hL,p9⟩:=kA hp;obtain⟨a,b⟩:=p9 j.toNat (by omega)
 grind [M7]
end
def alX (V l:aa af):aa af:=V.filter λv=>aE (v∈l)
def alY (E:aa (af×af))(L l:aa af):aa af:=L.filter λe=>aE ((E.getD e.toNat (0,0)).1∈l) && aE ((E.getD e.toNat (0,0)).2∈l)
theorem UL {l:aa af}{i:af}(h0:0<=i)(h1:i<=(aM l:af)):(ur l i).length=l.length:=by
 unfold ur;rw[bA,b9,bJ];omega
theorem FZ {l:aa af}{i:af}(h0:0<=i)(h1:i<=(aM l:af)){j:ah}(hj:j<l.length):(ur l i).getD j 0=l.getD ((j+i.toNat)%l.length) 0:=by
 unfold ur;have hi:i.toNat<=l.length:=by omega
 rw[bD,bD,List.getElem?_append];rw[b9];split
 .rename_i q;rw[List.getElem?_drop,aox (by omega),Nat.add_comm]
 rename_i q;rw[cE,aQ (by omega)];have e:(j+i.toNat)%l.length=j-(l.length-i.toNat):=by
  rw[show j+i.toNat=(j-(l.length-i.toNat))+l.length by omega,arl,aox (by omega)]
 rw[e]
def DN (l:aa af)(x y:af):Prop:=∃j,j<l.length/\l.getD j 0=x/\y=l.getD ((j+l.length-1)%l.length) 0
theorem UM {l:aa af}{i:af}(h0:0<=i)(h1:i<=(aM l:af)){x y:af}(h:DN (ur l i) x y):DN l x y:=by
 have⟨j,hj,e1,e2⟩:=h;rw[UL h0 h1] at hj e2;have hl:0<l.length:=by omega
 have hm:(j+l.length-1)%l.length<l.length:=anv _ hl;rw[FZ h0 h1 hj] at e1;rw[FZ h0 h1 hm] at e2;refine⟨(j+i.toNat)%l.length,anv _ hl,e1,?_⟩;rw[e2]
 congr 1
 rw[arn,show(j+i.toNat)%l.length+l.length-1=(j+i.toNat)%l.length+(l.length-1) by omega,arn]
 congr 1
 omega
theorem YK {l:aa af}(hn:l.Nodup){x y z:af}(h:DN l x y)(k:DN l x z):y=z:=by
 obtain⟨i,hi,e1,rfl⟩:=h;obtain⟨j,hj,e2,rfl⟩:=k
 grind [pQ]
theorem pred_inj {l:aa af}(hn:l.Nodup){x y z:af}(h:DN l x z)(k:DN l y z):x=y:=by
 obtain⟨i,hi,rfl,e1⟩:=h;obtain⟨j,hj,rfl,e2⟩:=k;have hl:0<l.length:=by omega
 have:=pQ hn (anv _ hl) (anv _ hl) (e1.symm.trans e2);have e:i=j:=by
  have key:∀a,a<l.length->(a+l.length-1)%l.length=if a=0 then l.length-1 else a-1:=λa ha=>by
   split
   .rename_i q;subst q;rw[cZ,aox (by omega)]
   rw[show a+l.length-1=(a-1)+l.length by omega,arl,aox (by omega)]
  rw[key i hi,key j hj] at this;split at this<;>split at this<;>omega
 rw[e]
theorem YL {l:aa af}{x y:af}(h:DN l x y):y∈l:=by
 obtain⟨i,hi,_,rfl⟩:=h;exact jJ.2 ⟨_,anv _ (by omega),rfl⟩
theorem IZ {t:aa af}(hn:t.Nodup){P:aa (af×af)}:∀ {k:ah},k<=t.length->(∀j,j<k->jr (C0 P t k) (t.getD j 0)=az (j:af))/\∀x,(∀j,j<k->t.getD j 0≠x)->jr (C0 P t k) x=jr P x
 |0,_=>⟨λj hj=>by omega,λx _=>rfl⟩
 |k+1,hk=>by
  obtain⟨h1,h2⟩:=IZ hn (P:=P) (k:=k) (by omega)
  grind [jr,kZ,C0,lF,pQ]
theorem Qe (l:aa af):∃i:af,0<=i/\i<=(aM l:af)/\ju l=ur l i:=by
 have:=wR l l.length;exact⟨o8 l l.length,this.1,by omega,rfl⟩
theorem tf {l:aa af}{x:af}:x∈ju l↔x∈l:=by
 constructor
 .exact vf
 grind [ju,ur,eW,o8]
theorem DO {l:aa af}(h:l.Nodup):(ju l).Nodup:=by
 grind [ju,ur,eW,o8]
theorem I0 {T:aa (aa af)}(hn:∀v,v<T.length->(T.getD v []).Nodup)(hd:∀u v,u<T.length->v<T.length->∀d,d∈T.getD u []->d∈T.getD v []->u=v):∀ {k:ah},k<=T.length->∀v,v<k->∀j,j<(T.getD v []).length->jr (tR T k) ((ju (T.getD v [])).getD j 0)=az (j:af)
 |0,_,v,hv,_,_=>by omega
 |k+1,hk,v,hv,j,hj=>by
  have hnk:=DO (hn k (by omega));obtain⟨h1,h2⟩:=IZ hnk (P:=tR T k) (aW _);show jr (C0 (tR T k) (ju (T.getD k [])) (ju (T.getD k [])).length) _=_
  by_cases q:v=k
  .subst q;exact h1 j (by rw[mG];exact hj)
  rw[h2 _ λi hi e=>?_]
  .exact I0 hn hd (k:=k) (by omega) v (by omega) j hj
  have m1:(ju (T.getD v [])).getD j 0∈T.getD v []:=tf.1 (jJ.2 ⟨j,by rw[mG];exact hj,rfl⟩);have m2:(ju (T.getD k [])).getD i 0∈T.getD k []:=tf.1 (jJ.2 ⟨i,hi,rfl⟩);rw[e] at m2;exact q (hd v k (by omega) (by omega) _ m1 m2)
theorem ae6 (d:af):lX (lX d)=d:=by grind [lX]
theorem UN (d:af):lX d/2=d/2:=by grind [lX]
theorem tT {L:aa af}{d:af}:ku L (lX d)↔ku L d:=by unfold ku;rw[UN]
theorem Qf {n:af}{E:aa (af×af)}{L:aa af}{T:aa (aa af)}(h:pZ n E L T):∀u v,u<T.length->v<T.length->∀d,d∈T.getD u []->d∈T.getD v []->u=v:=λu v hu hv d h1 h2=>by
 have e1:=((h.mem u hu d).1 h1).2;have e2:=((h.mem v hv d).1 h2).2;omega
theorem zM {n:af}{E:aa (af×af)}{V L:aa af}{T:aa (aa af)}(hp:j6 n E V L=0)(h:pZ n E L T){d:af}(hd:ku L d):0<=j7 E d/\(j7 E d).toNat<T.length/\d∈T.getD (j7 E d).toNat []:=by
 obtain⟨hr,_,hL,_⟩:=kA hp;obtain⟨r1,r2,r3,r4⟩:=l6 hr;obtain⟨e,he,q⟩:=AW.1 hd;have hb:=(jC.1 hL).2 e he;have p9:=r4 e.toNat (by omega);unfold P0 at p9;have hlen:=h.len;have key:0<=j7 E d/\(j7 E d).toNat<T.length:=by
  rcases q with rfl|rfl
  .have e0:j7 E (2*e)=(E.getD e.toNat (0,0)).1:=by unfold j7;rw[aQ (by omega),show 2*e/2=e by omega]
   rw[e0];omega
  have e0:j7 E (2*e+1)=(E.getD e.toNat (0,0)).2:=by unfold j7;rw[aP (by omega),show(2*e+1)/2=e by omega]
  rw[e0];omega
 exact⟨key.1,key.2,(h.mem _ key.2 d).2 ⟨hd,by omega⟩⟩
def YM (E:aa (af×af))(L:aa af)(T:aa (aa af)):ai xQ:=az (T.map ju,Cq E L L.length,tR T T.length,oO L L.length)
def F1 (E:aa (af×af))(L:aa af)(T:aa (aa af))(d:af):af:=(mM (YM E L T) (lX d) (-1)).1
theorem F3 {α β:Type}{f:α->β}{l:aa α}{k:ah}(h:k<l.length)(z:α)(y:β):(l.map f).getD k y=f (l.getD k z):=by
 grind
theorem I1 {n:af}{E:aa (af×af)}{V L:aa af}{T:aa (aa af)}(hp:j6 n E V L=0)(h:pZ n E L T){t:af}(ht:ku L t):
  ∃j:ah,j<(T.getD (j7 E t).toNat []).length/\jr (Cq E L L.length) t=az (j7 E t)/\jr (tR T T.length) t=az (j:af)/\(ju (T.getD (j7 E t).toNat [])).getD j 0=t:=by
 obtain⟨h0,h1,h2⟩:=zM hp h ht;obtain⟨j,hj,e⟩:=jJ (z:=0).1 (tf.2 h2);rw[mG] at hj;refine⟨j,hj,?_,?_,e⟩
 .rw[vg (aW _),aQ ((nY t).2 ht)]
 have:=I0 h.nd (Qf h) (aW _) _ h1 j hj;rwa[e] at this
theorem zO {n:af}{E:aa (af×af)}{V L:aa af}{T:aa (aa af)}(hp:j6 n E V L=0)(h:pZ n E L T){d:af}(hd:ku L d):DN (T.getD (j7 E (lX d)).toNat []) (lX d) (F1 E L T d):=by
 have ht:=tT.2 hd;obtain⟨h0,h1,h2⟩:=zM hp h ht;obtain⟨j,hj,e1,e2,e3⟩:=I1 hp h ht;obtain⟨i,i0,i1,ei⟩:=Qe (T.getD (j7 E (lX d)).toNat []);refine UM i0 i1 ?_;rw[<-ei];refine⟨j,by rw[mG];exact hj,e3,?_⟩;have eT:(T.map ju).getD (j7 E (lX d)).toNat []=ju (T.getD (j7 E (lX d)).toNat []):=F3 h1 _ _;unfold F1 mM YM;simp only[e1,e2,eT,mG,eV]
 congr 1
 have:((j:af)+ -1+((T.getD (j7 E (lX d)).toNat []).length:af))=((j+(T.getD (j7 E (lX d)).toNat []).length-1:ah):af):=by omega
 rw[this,<-Int.natCast_emod];rfl
theorem BW {n:af}{E:aa (af×af)}{V L:aa af}{T:aa (aa af)}(hp:j6 n E V L=0)(h:pZ n E L T)(hs:kK T){d:af}(hd:ku L d):FR (YM E L T) (lX d)/\0<=d/\d<=1000000:=by
 have ht:=tT.2 hd;obtain⟨h0,h1,h2⟩:=zM hp h ht;obtain⟨j,hj,e1,e2,e3⟩:=I1 hp h ht;obtain⟨hr,_,hL,_⟩:=kA hp;obtain⟨r1,r2,r3,r4⟩:=l6 hr;obtain⟨e,he,q⟩:=AW.1 hd;have hb:=(jC.1 hL).2 e he;refine⟨λv hv=>?_,by omega,by omega⟩;have hv:jr (Cq E L L.length) (lX d)=az v:=hv;rw[e1] at hv;injection hv with hv
 subst hv;have eT:(T.map ju).getD (j7 E (lX d)).toNat []=ju (T.getD (j7 E (lX d)).toNat []):=F3 h1 _ _;have hz:=hs.2 _ (jJ (z:=[]).2 ⟨_,h1,rfl⟩);refine⟨h0,by rw[bH];omega,?_,?_,?_⟩
 .rw[eT,mG];exact hz
 .show 0<=(jr (tR T T.length) (lX d)).getD 0;rw[e2];exact dB _
 show(jr (tR T T.length) (lX d)).getD 0<_;rw[e2,eT,mG];show(j:af)<_;omega
theorem wT {n:af}{E:aa (af×af)}{V L:aa af}{T:aa (aa af)}(hp:j6 n E V L=0)(h:pZ n E L T){d:af}(hd:ku L d):ku L (F1 E L T d)/\j7 E (F1 E L T d)=j7 E (lX d):=by
 obtain⟨h0,h1,h2⟩:=zM hp h (tT.2 hd);have:=(h.mem _ h1 _).1 (YL (zO hp h hd))
 grind
theorem Nq {n:af}{E:aa (af×af)}{V L:aa af}{T:aa (aa af)}(hp:j6 n E V L=0)(h:pZ n E L T){d e:af}(hd:ku L d)(he:ku L e)(q:F1 E L T d=F1 E L T e):d=e:=by
 have p1:=zO hp h hd;have p2:=zO hp h he;have t1:=(wT hp h hd).2;have t2:=(wT hp h he).2;rw[q] at t1 p1;rw[<-t1,t2] at p1;have:=pred_inj (h.nd _ (zM hp h (tT.2 he)).2.1) p1 p2;rw[<-ae6 d,this,ae6]
def DP (V:aa af)(T:aa (aa af)):ah->aa (af×aa af)
 |0=>[]
 |k+1=>if(T.getD (V.getD (V.length-1-k) 0).toNat []).length=0 then DP V T k++[(-1-V.getD (V.length-1-k) 0,[])] else DP V T k
theorem Ew (V:aa af)(T:aa (aa af)):∀k,(DP V T k).length<=k
 |0=>aW _
 |k+1=>by
  have:=Ew V T k;unfold DP
  grind
def r9 (r:ai xQ):ah->aa (af×af)->af->aa af->aa (af×af)×aa af
 |0,m,_,acc=>(m,acc)
 |k+1,m,x,acc=>if(jr (EZ m x) (mM r (lX x) (-1)).1).isSome=aC then r9 r k (EZ m x) (mM r (lX x) (-1)).1 (acc++[x]) else(EZ m x,acc++[x])
def uu (r:ai xQ)(s:aa (af×af)×aa (af×aa af))(d:af):aa (af×af)×aa (af×aa af):=
 if(jr s.1 d).isSome=aC then((r9 r s.1.length s.1 d []).1,s.2++[(d,(r9 r s.1.length s.1 d []).2)]) else s
def YN (ds:aa af):ah->aa (af×af)
 |0=>[]
 |k+1=>kZ (YN ds k) (ds.getD k 0) (ds.getD k 0)
def nt (r:ai xQ)(ds:aa af)(out:aa (af×aa af)):ah->aa (af×af)×aa (af×aa af)
 |0=>(YN ds ds.length,out)
 |k+1=>uu r (nt r ds out k) (ds.getD k 0)
def jm (n:af)(E:aa (af×af))(V L:aa af)(T:aa (aa af)):aa (af×aa af)×af:=
 if(nR n E V L T).2≠0 then([],(nR n E V L T).2) else((nt (nR n E V L T).1 (oO L L.length) (DP V T V.length) (oO L L.length).length).2,0)
theorem ae7 (ds:aa af):∀k,KN (YN ds k)
 |0=>KB
 |k+1=>Nj (ae7 ds k) _ _
theorem Ex {ds:aa af}:∀ {k:ah},k<=ds.length->∀x,(jr (YN ds k) x).isSome=aC↔x∈ds.take k
 |0,_,x=>by simp[YN];rfl
 |k+1,h,x=>by
  show(jr (kZ (YN ds k) (ds.getD k 0) (ds.getD k 0)) x).isSome=aC↔_;rw[lF,pR (by omega) 0,bE,aU];split
  .grind
  rename_i e;rw[Ex (k:=k) (by omega)]
  grind
theorem KD (ds:aa af):∀k,(YN ds k).length<=k
 |0=>aW _
 |k+1=>by
  have:=KD ds k
  grind [qF,YN,kZ]
theorem Nr {V:aa af}{T:aa (aa af)}{i:af}(h0:0<=i)(h1:i<(aM V:af)):DP V T (V.length-(i-1+1).toNat)=if(T.getD (V.getD i.toNat 0).toNat []).length=0 then DP V T (V.length-(i+1).toNat)++[(-1-V.getD i.toNat 0,[])] else DP V T (V.length-(i+1).toNat):=by
 rw[show V.length-(i-1+1).toNat=(V.length-(i+1).toNat)+1 by omega];show(if(T.getD (V.getD (V.length-1-(V.length-(i+1).toNat)) 0).toNat []).length=0 then _ else _)=_
 grind
theorem acu {r:ai xQ}{m:aa (af×af)}{x:af}{acc:aa af}{R:aa (af×af)×aa af}(hk:KN m)(hs:(jr m x).isSome=aC)(ho:r9 r m.length m x acc=R):
  ((jr (EZ m x) (mM r (lX x) (-1)).1).isSome=aC/\(jr (EZ m x) (mM r (lX x) (-1)).1).isSome=aC/\r9 r (EZ m x).length (EZ m x) (mM r (lX x) (-1)).1 (acc++[x])=R)\/((jr (EZ m x) (mM r (lX x) (-1)).1).isSome=aD/\(EZ m x,acc++[x])=R):=by
 grind [IX,r9]
theorem Ey {L:aa af}{m:aa (af×af)}(h:∀y,(jr m y).isSome=aC->ku L y)(x:af):∀y,(jr (EZ m x) y).isSome=aC->ku L y:=by grind [E0]
def F5 (L:aa af)(r:ai xQ)(ds:aa af)(out:aa (af×aa af))(k:ah)(m2:aa (af×af))(o2:aa (af×aa af)):Prop:=
 m2=(nt r ds out k).1/\o2=(nt r ds out k).2/\KN m2/\(∀y,(jr m2 y).isSome=aC->ku L y)/\o2.length<=out.length+k
theorem acv {L:aa af}{r:ai xQ}{ds:aa af}{out:aa (af×aa af)}{k:ah}{m2:aa (af×af)}{o2:aa (af×aa af)}(h:(jr (nt r ds out k).1 (ds.getD k 0)).isSome=aD)(hI:F5 L r ds out k m2 o2):F5 L r ds out (k+1) m2 o2:=by
 have⟨h1,h2,h3,h4,h5⟩:=hI;have e:nt r ds out (k+1)=nt r ds out k:=by
  show uu r (nt r ds out k) (ds.getD k 0)=_
  grind [uu]
 exact⟨by rw[e];exact h1,by rw[e];exact h2,h3,h4,by omega⟩
theorem YO {L:aa af}{r:ai xQ}{ds:aa af}{out:aa (af×aa af)}{k:ah}{m2 mm:aa (af×af)}{o2:aa (af×aa af)}{acc:aa af}(hk:k<ds.length)(h:(jr (nt r ds out k).1 (ds.getD k 0)).isSome=aC)
  (hR:(mm,acc)=r9 r (nt r ds out k).1.length (nt r ds out k).1 (ds.getD k 0) []) (kk:KN mm) (kd:∀y,(jr mm y).isSome=aC->ku L y) (hI:F5 L r ds out k m2 o2):F5 L r ds out (k+1) mm (o2++[(ds.getD k 0,acc)]):=by
 have⟨h1,h2,h3,h4,h5⟩:=hI;have e:nt r ds out (k+1)=(mm,(nt r ds out k).2++[(ds.getD k 0,acc)]):=by
  show uu r (nt r ds out k) (ds.getD k 0)=_
  grind [uu]
 exact⟨by rw[e],by rw[e,h2],kk,kd,by rw[bA];simp;omega⟩
theorem YP {L:aa af}{m:aa (af×af)}(h:KN m)(hd:∀y,(jr m y).isSome=aC->ku L y):m.length<=(oO L L.length).length:=by
 have:=h.length_le_of_subset (l₂:=oO L L.length) λx hx=>(nY x).2 (hd x (mem_keys.1 hx))
 grind
theorem wU {n:af}{E:aa (af×af)}{V L:aa af}{T:aa (aa af)}(h:(nR n E V L T).2=0):jm n E V L T=((nt (nR n E V L T).1 (oO L L.length) (DP V T V.length) (oO L L.length).length).2,0):=by
 grind [jm]
attribute [local instance 10] Classical.propDecidable
section
variable {E:aa (af×af)}{M:aa (af×aa af)}{V L:aa af}{a shut:af}{n:af}
theorem F6 {Q:af->Prop}{v:af}:∀ {l:aa af} {s:aa (af×af)×aa af},(∀d∈l,kF E d≠shut->Q (kF E d))->(∀x,(jr s.1 x).isSome=aC->Q x)->(∀x∈s.2,Q x)->
  (∀x,(jr (l.foldl (nZ E v shut) s).1 x).isSome=aC->Q x)/\∀x∈(l.foldl (nZ E v shut) s).2,Q x
 |[],s,_,h1,h2=>⟨h1,h2⟩
 |d::l,s,hd,h1,h2=>by
  rw[anH];refine F6 (λe he=>hd e (bl _ he)) (λx hx=>?_) λx hx=>?_
  .grind [nZ,jr,kZ,kF,lF,aZ]
  unfold nZ at hx
  grind
theorem RQ {Q:af->Prop}(hQ:∀v,Q v->∀d∈(jr M v).getD [],kF E d≠shut->Q (kF E d)):∀(f:ah) (v:af) (m:aa (af×af)) (q:aa af),Q v->(∀x,(jr m x).isSome=aC->Q x)->(∀x∈q,Q x)->∀x,(jr (CZ E M shut f v (m,q)) x).isSome=aC->Q x
 |0,v,m,q,_,h1,_,x,hx=>h1 x hx
 |f+1,v,m,q,hv,h1,h2,x,hx=>by
  obtain⟨k1,k2⟩:=F6 (Q:=Q) (v:=v) (s:=(m,q)) (hQ v hv) h1 h2;have kT:CZ E M shut (f+1) v (m,q)=(match(oG E M v shut (m,q)).2 with
   |[]=>(oG E M v shut (m,q)).1
   |x::t=>CZ E M shut f x ((oG E M v shut (m,q)).1,t)):=rfl
  rw[kT] at hx;have k1:∀x,(jr (oG E M v shut (m,q)).1 x).isSome=aC->Q x:=k1;have k2:∀x∈(oG E M v shut (m,q)).2,Q x:=k2;generalize oG E M v shut (m,q)=s at*
  obtain⟨m',q'⟩:=s;cases q' with
  |nil=>exact k1 x hx
  |cons y t=>exact RQ hQ f y m' t (k2 y aZ) k1 (λz hz=>k2 z (bl _ hz)) x hx
def Cn (E:aa (af×af))(L:aa af)(x y:af):Prop:=(grE E L).Bg (· ≠-1) x y
theorem C3 (hp:j6 n E V L=0)(ha:a≠-1){x:af}:(jr (nr E (kU E L) a (-1)) x).isSome=aC↔Cn E L a x:=by
 refine⟨λh=>?_,UK hp⟩;have hdk:=M8 (E:=E) (kA hp).2.2.1;refine RQ (Q:=λx=>Cn E L a x) (λv hv d hd hs=>?_) _ a [(a,0)] [] (.refl ha) (λx hx=>?_) (λx hx=>by cases hx) x h
 .rw[zK] at hd;obtain⟨h1,h2⟩:=hdk.mem v d hd;exact .step hv ⟨_,h1,h2⟩ hs
 cases hl:jr [(a,(0:af))] x with
 |none=>rw[hl] at hx;cases hx
 |some z=>
  have:=aU.1 (xB hl);cases this;exact .refl ha
noncomputable def lD (E:aa (af×af)) (L:aa af):aa af->aa af:=λV=>V.foldl (λr v=>if ∃a∈r,Cn E L a v then r else r++[v]) []
theorem I2 (V:aa af)(v:af):lD E L (V++[v])=if ∃a∈lD E L V,Cn E L a v then lD E L V else lD E L V++[v]:=by
 unfold lD;rw[eO];rfl
theorem KE {P:aa af->Prop}(h0:P [])(h1:∀l x,P l->P (l++[x])):∀l,P l:=λl=>by
 have key:∀l:aa af,P l.reverse:=by
  intro l
  induction l with
  |nil=>exact h0
  |cons x l ih=>rw[List.reverse_cons];exact h1 _ _ ih
 have:=key l.reverse
 grind
theorem KF:∀V:aa af,(∀v∈V,v≠-1)->(∀a∈lD E L V,a∈V)/\(∀v∈V,∃a∈lD E L V,Cn E L a v)/\(lD E L V).Nodup/\∀a∈lD E L V,∀b∈lD E L V,Cn E L a b->a=b:=by
 refine KE (λ_=>⟨λa h=>(by cases h),λa h=>(by cases h),anI,λa h=>(by cases h)⟩) λV v ih hV=>?_;obtain⟨h1,h2,h3,h4⟩:=ih λx hx=>hV x (bU _ hx);have hv:=hV v (bV _ (aU.2 rfl));rw[I2];split
 .rename_i q;refine⟨λa ha=>bU _ (h1 a ha),λx hx=>?_,h3,h4⟩;rcases bE.1 hx with hx|hx
  .exact h2 x hx
  rw[aU.1 hx];exact q
 rename_i q;refine⟨λa ha=>?_,λx hx=>?_,?_,λa ha b hb P4=>?_⟩
 .rcases bE.1 ha with ha|ha
  .exact bU _ (h1 a ha)
  exact bV _ ha
 .rcases bE.1 hx with hx|hx
  .obtain⟨a,ha,hc⟩:=h2 x hx;exact⟨a,bU _ ha,hc⟩
  rw[aU.1 hx];exact⟨v,bV _ (aU.2 rfl),.refl hv⟩
 .rw[an5];exact⟨h3,by simp,λx hx y hy e=>by subst e;rw[aU.1 hy] at hx;exact q ⟨v,hx,.refl hv⟩⟩
 rcases bE.1 ha with ha|ha<;>rcases bE.1 hb with hb|hb
 .exact h4 a ha b hb P4
 .rw[aU.1 hb] at P4;exact(q ⟨a,ha,P4⟩).elim
 .rw[aU.1 ha] at P4;exact(q ⟨b,hb,Gr.Bg.symm P4⟩).elim
 rw[aU.1 ha,aU.1 hb]
noncomputable def qx (E:aa (af×af)) (L V:aa af) (a:af):aa af:=V.filter λv=>aE (Cn E L a v)
noncomputable def ajD (E:aa (af×af)) (L:aa af) (a:af):aa af:=L.filter λe=>aE (Cn E L a (eA E e))
theorem BX {v:af}:v∈qx E L V a↔v∈V/\Cn E L a v:=by unfold qx;rw[bX];simp
theorem F7 {α:Type}{r:aa α}{f g:α->aa af×aa af}{i:ah}(hi:i<r.length)(z:α)(h:∀j,j<r.length->j≠i->f (r.getD j z)=g (r.getD j z)):(r.map f).set i (g (r.getD i z))=r.map g:=by
 apply List.ext_getElem?
 grind
theorem F8 {α:Type}{r:aa α}{f:α->aa af×aa af}{i:ah}(hi:i<r.length)(z:α):(r.map f).getD i ([],[])=f (r.getD i z):=F3 hi z _
theorem ajE (hp:j6 n E V L=0):∀W:aa af,(∀v∈W,v≠-1)->
  (W.foldl (o9 E (kU E L)) ([],[])).2=(lD E L W).map (λa=>(qx E L W a,[]))/\
  (∀x,(∀i,i<(lD E L W).length->Cn E L ((lD E L W).getD i 0) x->jr (W.foldl (o9 E (kU E L)) ([],[])).1 x=az (i:af))/\((¬ ∃a∈lD E L W,Cn E L a x)->jr (W.foldl (o9 E (kU E L)) ([],[])).1 x=aA)):=by
 refine KE (λ_=>⟨rfl,λx=>⟨λi hi=>by simp[lD] at hi,λ_=>rfl⟩⟩) λW v ih hW=>?_;have hW':∀x∈W,x≠-1:=λx hx=>hW x (bU _ hx);obtain⟨h1,h2⟩:=ih hW';have hv:=hW v (bV _ (aU.2 rfl));obtain⟨r1,r2,r3,r4⟩:=KF (E:=E) (L:=L) W hW';rw[eO];show(o9 E (kU E L) (W.foldl (o9 E (kU E L)) ([],[])) v).2=_/\∀x,(∀i,i<_->_->jr (o9 E (kU E L) (W.foldl (o9 E (kU E L)) ([],[])) v).1 x=_)/\(_->jr (o9 E (kU E L) (W.foldl (o9 E (kU E L)) ([],[])) v).1 x=aA);generalize W.foldl (o9 E (kU E L)) ([],[])=s at*
 obtain⟨pm,out⟩:=s;dsimp only at h1 h2;subst h1;rw[I2];have acw:∀a,qx E L (W++[v]) a=if Cn E L a v then qx E L W a++[v] else qx E L W a:=λa=>by
  unfold qx;rw[aqe];split
  .rename_i q;rw[arp (by simpa using q)];rfl
  rename_i q;rw[aqf (by simpa using q)];simp
 by_cases hc:∃a∈lD E L W,Cn E L a v
 .rw[aQ hc];have⟨a,ha,hav⟩:=hc;obtain⟨i,hi,rfl⟩:=jJ (z:=0).1 ha;have OR:=(h2 v).1 i hi hav;have e:o9 E (kU E L) (pm,(lD E L W).map λa=>(qx E L W a,[])) v=(pm,No ((lD E L W).map λa=>(qx E L W a,[])) (i:af) v):=by
   unfold o9;dsimp only;rw[aQ (by rw[OR];rfl),OR];rfl
  rw[e];refine⟨?_,h2⟩;show((lD E L W).map λa=>(qx E L W a,[])).set (i:af).toNat _=_;rw[dw,F8 hi 0];have:(qx E L W ((lD E L W).getD i 0)++[v],([]:aa af))=(λa=>(qx E L (W++[v]) a,([]:aa af))) ((lD E L W).getD i 0):=by
   show _=(qx E L (W++[v]) _,[]);rw[acw,aQ hav]
  show((lD E L W).map λa=>(qx E L W a,[])).set i (qx E L W ((lD E L W).getD i 0)++[v],[])=_;rw[this];refine F7 (f:=λa=>(qx E L W a,[])) (g:=λa=>(qx E L (W++[v]) a,[])) hi 0 λj hj qD=>?_;rw[acw,aP];intro q;have:=r4 _ (jJ.2 ⟨j,hj,rfl⟩) _ ha ((Gr.Bg.trans q (Gr.Bg.symm hav)));exact qD (pQ r3 hj hi this)
 rw[aP hc];have OR:=(h2 v).2 hc;have e:o9 E (kU E L) (pm,(lD E L W).map λa=>(qx E L W a,[])) v=(xR pm (nr E (kU E L) v (-1)) ((lD E L W).length:af),No (((lD E L W).map λa=>(qx E L W a,[]))++[([],[])]) ((lD E L W).length:af) v):=by
  unfold o9;dsimp only;rw[aP (by rw[OR];decide),bH]
 rw[e];have wq:∀x,jr (xR pm (nr E (kU E L) v (-1)) ((lD E L W).length:af)) x=if(jr (nr E (kU E L) v (-1)) x).isSome=aC then az ((lD E L W).length:af) else jr pm x:=λx=>BU;refine⟨?_,λx=>⟨λi hi hx=>?_,λhx=>?_⟩⟩
 .have Be:∀a∈lD E L W,qx E L (W++[v]) a=qx E L W a:=λa ha=>by rw[acw,aP λq=>hc ⟨a,ha,q⟩]
  have yB:qx E L W v=[]:=by
   unfold qx;rw[List.filter_eq_nil_iff];intro x hx q;have q:Cn E L v x:=by simpa using q
   obtain⟨a,ha,hax⟩:=r2 x hx;exact hc ⟨a,ha,Gr.Bg.trans hax (Gr.Bg.symm q)⟩
  show(((lD E L W).map λa=>(qx E L W a,[]))++[([],[])]).set ((lD E L W).length:af).toNat _=_;rw[dw];have hlen:((lD E L W).map λa=>(qx E L W a,([]:aa af))).length=(lD E L W).length:=bH ..;have eg:(((lD E L W).map λa=>(qx E L W a,([]:aa af)))++[([],[])]).getD (lD E L W).length ([],[])=([],[]):=by
   rw[bD,dP (by omega),hlen,dx];rfl
  rw[eg,List.set_append_right _ _ (by omega),hlen,dx,cA]
  congr 1
  .exact dm λa ha=>by rw[Be a ha]
  show[(([]:aa af)++[v],([]:aa af))]=[(qx E L (W++[v]) v,[])];rw[acw,aQ (.refl hv),yB]
 .rw[wq];rw[bA] at hi
  by_cases q:i<(lD E L W).length
  .have eg:(lD E L W++[v]).getD i 0=(lD E L W).getD i 0:=Yt q;rw[eg] at hx;rw[aP,(h2 x).1 i q hx];intro z;exact hc ⟨_,jJ.2 ⟨i,q,rfl⟩,Gr.Bg.trans hx (Gr.Bg.symm ((C3 hp hv).1 z))⟩
  have rR:i=(lD E L W).length:=by simp at hi;omega
  subst rR;have eg:(lD E L W++[v]).getD (lD E L W).length 0=v:=by
   rw[bD,dP (aW _),dx];rfl
  rw[eg] at hx;rw[aQ ((C3 hp hv).2 hx)]
 rw[wq,aP,(h2 x).2]
 .rintro⟨a,ha,q⟩;exact hx ⟨a,bU _ ha,q⟩
 intro z;exact hx ⟨v,bV _ (aU.2 rfl),(C3 hp hv).1 z⟩
noncomputable def zP (E:aa (af×af)) (V L:aa af):xu:=(lD E L V).map λa=>(qx E L V a,ajD E L a)
theorem Ns {V:aa af}(h:mC V n):∀v∈V,v≠-1:=by grind [jC]
theorem pieces_eq (hp:j6 n E V L=0):xT E V L=zP E V L:=by
 obtain⟨hr,hV,hL,p9⟩:=kA hp;have hV1:=Ns hV;obtain⟨h1,h2⟩:=ajE hp V hV1;obtain⟨r1,r2,r3,r4⟩:=KF (E:=E) (L:=L) V hV1;unfold xT;generalize V.foldl (o9 E (kU E L)) ([],[])=s at*
 obtain⟨pm,out⟩:=s;dsimp only at h1 h2 ⊢;subst h1;have key:∀W:aa af,(∀e∈W,e∈L)->W.foldl (FY E pm) ((lD E L V).map λa=>(qx E L V a,[]))=(lD E L V).map λa=>(qx E L V a,W.filter λe=>aE (Cn E L a (eA E e))):=by
  refine KE (λ_=>rfl) λW e ih hW=>?_;rw[eO,ih λx hx=>hW x (bU _ hx)];show FY E pm _ e=_;have he:=hW e (bV _ (aU.2 rfl));obtain⟨j,hj,rfl⟩:=qY.1 he;obtain⟨ka,kb⟩:=C2 (j:=(j:af)) hp (by omega) (by omega);rw[dw] at ka;have ka:eA E (L.getD j 0)∈V:=ka;generalize L.getD j 0=e at*
  obtain⟨a,ha,hax⟩:=r2 _ ka;obtain⟨i,hi,rfl⟩:=jJ (z:=0).1 ha;have OR:=(h2 (eA E e)).1 i hi hax;have ee:FY E pm ((lD E L V).map λa=>(qx E L V a,W.filter λe=>aE (Cn E L a (eA E e)))) e=YI ((lD E L V).map λa=>(qx E L V a,W.filter λe=>aE (Cn E L a (eA E e)))) (i:af) e:=by
   unfold FY;rw[show(E.getD e.toNat (0,0)).1=eA E e from rfl,OR];rfl
  rw[ee];unfold YI;rw[dw,F8 hi 0];have hf:∀a,(W++[e]).filter (λe=>aE (Cn E L a (eA E e)))=if Cn E L a (eA E e) then W.filter (λe=>aE (Cn E L a (eA E e)))++[e] else W.filter (λe=>aE (Cn E L a (eA E e))):=λa=>by
   rw[aqe];split
   .rename_i q;rw[arp (by simpa using q)];rfl
   rename_i q;rw[aqf (by simpa using q)];simp
  have:=F7 (f:=λa=>(qx E L V a,W.filter λe=>aE (Cn E L a (eA E e)))) (g:=λa=>(qx E L V a,(W++[e]).filter λe=>aE (Cn E L a (eA E e)))) hi 0 λj hj qD=>by
   rw[hf,aP];intro q;have:=r4 _ (jJ.2 ⟨j,hj,rfl⟩) _ ha ((Gr.Bg.trans q (Gr.Bg.symm hax)));exact qD (pQ r3 hj hi this)
  rw[<-this];dsimp only;rw[hf,aQ hax]
 exact key L λ_ h=>h
end
def LW (m:aa (af×af))(vs:aa af)(c:af):ah->aa (af×af)
 |0=>m
 |k+1=>kZ (LW m vs c k) (vs.getD k 0) c
def F9 (P:xu):ah->aa (af×af)
 |0=>[]
 |k+1=>LW (F9 P k) (P.getD k ([],[])).1 (k:af) (P.getD k ([],[])).1.length
theorem Nt {m:aa (af×af)}{vs:aa af}{c i:af}(h:0<=i):LW m vs c (i+1).toNat=kZ (LW m vs c i.toNat) (vs.getD i.toNat 0) c:=by
 rw[show(i+1).toNat=i.toNat+1 by omega];rfl
theorem Nu {P:xu}{i:af}(h:0<=i):F9 P (i+1).toNat=LW (F9 P i.toNat) (P.getD i.toNat ([],[])).1 i (P.getD i.toNat ([],[])).1.length:=by
 rw[show(i+1).toNat=i.toNat+1 by omega];show LW _ _ ((i.toNat:ah):af) _=_
 grind
theorem Ez {m:aa (af×af)}{vs:aa af}{c:af}:∀k,(LW m vs c k).length<=m.length+k
 |0=>aW _
 |k+1=>by
  have h:=Ez (m:=m) (vs:=vs) (c:=c) k
  grind [qF,LW,kZ]
theorem EA {P:xu}{N:ah}(hP:∀k,(P.getD k ([],[])).1.length<=N):∀k,(F9 P k).length<=k*N
 |0=>by simp[F9]
 |k+1=>by
  have h:=EA hP k
  grind [Ez,F9,LW,cL]
theorem Nv {m:aa (af×af)}{vs:aa af}{c:af}:∀ {k:ah},k<=vs.length->∀x,jr (LW m vs c k) x=if x∈vs.take k then az c else jr m x
 |0,_,x=>by simp[LW]
 |k+1,h,x=>by
  show jr (kZ (LW m vs c k) (vs.getD k 0) c) x=_;rw[lF,Nv (k:=k) (by omega),pR (by omega) 0]
  grind
structure Nw (E:aa (af×af))(V L:aa af)(P:xu):Prop where
 len:P.length<=V.length
 bd:∀k,(P.getD k ([],[])).1.length<=V.length/\(P.getD k ([],[])).2.length<=L.length
 sub:∀k,∀v∈(P.getD k ([],[])).1,v∈V
 cov:∀v∈V,∃i,i<P.length/\v∈(P.getD i ([],[])).1
 uq:∀i j,i<P.length->j<P.length->∀v,v∈(P.getD i ([],[])).1->v∈(P.getD j ([],[])).1->i=j
theorem Nx {E:aa (af×af)}{V L:aa af}{P:xu}(h:Nw E V L P):∀ {k:ah},k<=P.length->∀i,i<k->∀x∈(P.getD i ([],[])).1,jr (F9 P k) x=az (i:af)
 |k+1,hk,i,hi,x,hx=>by
  show jr (LW (F9 P k) (P.getD k ([],[])).1 (k:af) (P.getD k ([],[])).1.length) x=_;rw[Nv (aW _),cg]
  by_cases q:i=k
  .grind
  rw[aP λz=>q (h.uq i k (by omega) (by omega) x hx z)];exact Nx h (k:=k) (by omega) i (by omega) x hx
theorem YQ {E:aa (af×af)}{V L:aa af}{P:xu}(h:Nw E V L P){v:af}(hv:v∈V):∃i:ah,i<P.length/\v∈(P.getD i ([],[])).1/\jr (F9 P P.length) v=az (i:af):=by
 obtain⟨i,hi,hx⟩:=h.cov v hv;exact⟨i,hi,hx,Nx h (aW _) i hi v hx⟩
theorem Ny {α:Type}{l:aa α}{k:ah}{z:α}(h:l.length<=k):l.getD k z=z:=by
 grind
theorem UO {n:af}{E:aa (af×af)}{V L:aa af}(hp:j6 n E V L=0):Nw E V L (xT E V L):=by
 obtain⟨hr,hV,hL,p9⟩:=kA hp;obtain⟨r1,r2,r3,r4⟩:=KF (E:=E) (L:=L) V (Ns hV);rw[pieces_eq hp];have hlen:(zP E V L).length=(lD E L V).length:=bH ..;have wC:∀k,k<(zP E V L).length->(zP E V L).getD k ([],[])=(qx E L V ((lD E L V).getD k 0),ajD E L ((lD E L V).getD k 0)):=λk hk=>F8 (by omega) 0;refine⟨?_,λk=>?_,λk v hv=>?_,λv hv=>?_,λi j hi hj v h1 h2=>?_⟩
 .rw[hlen];exact r3.length_le_of_subset r1
 .by_cases hk:k<(zP E V L).length
  .rw[wC k hk];exact⟨apj _ _,apj _ _⟩
  rw[Ny (by omega)];exact⟨bQ _,bQ _⟩
 .by_cases hk:k<(zP E V L).length
  .rw[wC k hk] at hv;exact(BX.1 hv).1
  rw[Ny (by omega)] at hv;cases hv
 .obtain⟨a,ha,hc⟩:=r2 v hv;obtain⟨i,hi,rfl⟩:=jJ (z:=0).1 ha;exact⟨i,by omega,by rw[wC i (by omega)];exact BX.2 ⟨hv,hc⟩⟩
 rw[wC i hi] at h1;rw[wC j hj] at h2;have h1:=(BX.1 h1).2;have h2:=(BX.1 h2).2;exact pQ r3 (by omega) (by omega) (r4 _ (jJ.2 ⟨i,by omega,rfl⟩) _ (jJ.2 ⟨j,by omega,rfl⟩) ((Gr.Bg.trans h1 (Gr.Bg.symm h2))))
def jy (n:af)(E:aa (af×af))(V L:aa af):xu:=if j6 n E V L≠0 then[] else xT E V L
theorem acy {n:af}{E:aa (af×af)}{V L:aa af}(hp:j6 n E V L=0):jy n E V L=xT E V L:=aP (by rw[hp];exact λq=>q rfl)
theorem EB {n:af}{E:aa (af×af)}{V L:aa af}(hp:j6 n E V L=0):Nw E V L (jy n E V L):=by grind [acy,UO]
def sN (E:aa (af×af))(w:af×aa af):af:=if w.2.length=0 then -1-w.1 else j7 E w.1
theorem BY {V:aa af}{T:aa (aa af)}:∀ {k:ah},k<=V.length->∀w∈DP V T k,w.2.length=0/\-1-w.1∈V
 |0,_,w,h=>by cases h
 |k+1,hk,w,h=>by
  unfold DP at h;split at h
  .rcases bE.1 h with h|h
   .exact BY (by omega) w h
   grind
  exact BY (by omega) w h
theorem RR {r:ai xQ}:∀ {k:ah} {m:aa (af×af)} {x:af} {acc:aa af},acc.length<=(r9 r k m x acc).2.length/\(0<k->acc.length<(r9 r k m x acc).2.length)/\(r9 r k m x acc).2.length<=acc.length+k
 |0,m,x,acc=>⟨aW _,λh=>(by omega),aW _⟩
 |k+1,m,x,acc=>by
  unfold r9;split
  .obtain⟨h1,_,h2⟩:=RR (r:=r) (k:=k) (m:=EZ m x) (x:=(mM r (lX x) (-1)).1) (acc:=acc++[x])
   grind
  grind
theorem RT {r:ai xQ}{L:aa af}{ds:aa af}{out:aa (af×aa af)}(hd:∀d∈ds,ku L d):∀ {k:ah},k<=ds.length->∀w∈(nt r ds out k).2,w∈out\/(w.2.length≠0/\ku L w.1)
 |0,_,w,h=>.inl h
 |k+1,hk,w,h=>by
  have ih:=RT (r:=r) (out:=out) hd (k:=k) (by omega);have h:w∈(uu r (nt r ds out k) (ds.getD k 0)).2:=h;unfold uu at h;split at h
  .rename_i hs;rcases bE.1 h with h|h
   .exact ih w h
   rw[aU.1 h];refine .inr ⟨?_,hd _ (jJ.2 ⟨k,by omega,rfl⟩)⟩;have abA:0<(nt r ds out k).1.length:=by
    cases hm:(nt r ds out k).1 with
    |nil=>rw[hm] at hs;cases hs
    |cons _ _=>simp
   have:=RR (r:=r) (k:=(nt r ds out k).1.length) (m:=(nt r ds out k).1) (x:=ds.getD k 0) (acc:=[]);have:=this.2.1 abA;simp only[cK] at this;show(r9 r _ _ _ []).2.length≠0;omega
  exact ih w h
theorem RU {r:ai xQ}{ds:aa af}{out:aa (af×aa af)}:∀k,(nt r ds out k).2.length<=out.length+k
 |0=>aW _
 |k+1=>by
  have ih:=RU (r:=r) (ds:=ds) (out:=out) k
  grind [uu,nt,bA,dS]
theorem uD {n:af}{E:aa (af×af)}{V L:aa af}{T:aa (aa af)}:(jm n E V L T).2=(nR n E V L T).2:=by
 grind [jm,nR]
structure Nz (E:aa (af×af))(V L:aa af)(W:aa (af×aa af)):Prop where
 len:W.length<=V.length+2*L.length
 key:∀w∈W,(w.2.length=0/\-1-w.1∈V)\/(w.2.length≠0/\ku L w.1)
theorem si {n:af}{E:aa (af×af)}{V L:aa af}{T:aa (aa af)}(h:(jm n E V L T).2=0):j6 n E V L=0/\pZ n E L T/\Nz E V L (jm n E V L T).1:=by
 rw[uD] at h;obtain⟨h1,h2,h3⟩:=C1 h;refine⟨h1,h2,?_⟩;rw[wU h];have hl:=Ew V T V.length;have hr:=RU (r:=(nR n E V L T).1) (ds:=oO L L.length) (out:=DP V T V.length) (oO L L.length).length;have hd:=BQ L L.length;refine⟨by show(nt _ _ _ _).2.length<=_;omega,λw hw=>?_⟩;rcases RT (λd hd=>(nY d).1 hd) (aW _) w hw with q|q
 .exact .inl (BY (aW _) w q)
 exact .inr q
theorem wV {n:af}{E:aa (af×af)}{V L:aa af}(hp:j6 n E V L=0){d:af}(hd:ku L d):j7 E d∈V/\0<=d/\d/2<(aM E:af)/\d<=1000000:=by
 obtain⟨hr,hV,hL,p9⟩:=kA hp;obtain⟨r1,r2,r3,r4⟩:=l6 hr;have hb:=(jC.1 hL).2 _ hd;obtain⟨j,hj,e⟩:=qY.1 hd;obtain⟨ka,kb⟩:=C2 (j:=(j:af)) hp (by omega) (by omega);rw[dw,e] at ka kb;refine⟨?_,by omega,by omega,by omega⟩;unfold j7;split
 .exact ka
 exact kb
theorem KG {n:af}{E:aa (af×af)}{V L:aa af}(hp:j6 n E V L=0){W:aa (af×aa af)}(h:Nz E V L W){w:af×aa af}(hw:w∈W):sN E w∈V:=by
 unfold sN;rcases h.key w hw with⟨q,z⟩|⟨q,z⟩
 .grind
 grind [wV]
theorem ae8 {n:af}{E:aa (af×af)}{V L:aa af}(hp:j6 n E V L=0){W:aa (af×aa af)}(h:Nz E V L W){w:af×aa af}(hw:w∈W): -1024<=w.1/\w.1<=1000000:=by
 obtain⟨hr,hV,hL,p9⟩:=kA hp;obtain⟨r1,r2,r3,r4⟩:=l6 hr;rcases h.key w hw with⟨q,z⟩|⟨q,z⟩
 .grind [jC]
 have:=wV hp z;omega
def C4 (E:aa (af×af))(P:xu)(W:aa (af×aa af)):ah->aa af
 |0=>dA P.length 0
 |k+1=>(C4 E P W k).set ((jr (F9 P P.length) (sN E (W.getD k (0,[])))).getD 0).toNat ((C4 E P W k).getD ((jr (F9 P P.length) (sN E (W.getD k (0,[])))).getD 0).toNat 0+1)
theorem KH {E:aa (af×af)}{P:xu}{W:aa (af×aa af)}:∀k,(C4 E P W k).length=P.length
 |0=>List.length_replicate
 |k+1=>by unfold C4;rw[cq];exact KH k
theorem YR {E:aa (af×af)}{P:xu}{W:aa (af×aa af)}:∀k j,0<=(C4 E P W k).getD j 0/\(C4 E P W k).getD j 0<=(k:af)
 |0,j=>by
  unfold C4;rw[bD,List.getElem?_replicate];split<;>simp
 |k+1,j=>by
  have h1:=YR (E:=E) (P:=P) (W:=W) k;unfold C4;rw[bD,List.getElem?_set];split
  .grind
  have:=h1 j;rw[bD] at this;omega
theorem I3 {E:aa (af×af)}{P:xu}{W:aa (af×aa af)}{i:af}(h:0<=i):C4 E P W (i+1).toNat=(C4 E P W i.toNat).set ((jr (F9 P P.length) (sN E (W.getD i.toNat (0,[])))).getD 0).toNat ((C4 E P W i.toNat).getD ((jr (F9 P P.length) (sN E (W.getD i.toNat (0,[])))).getD 0).toNat 0+1):=by
 rw[show(i+1).toNat=i.toNat+1 by omega];rfl
def NA (P:xu)(fs:aa af):ah->aa af
 |0=>[]
 |k+1=>NA P fs k++[Int.tdiv (2-((P.getD k ([],[])).1.length:af)+((P.getD k ([],[])).2.length:af)-fs.getD k 0) 2]
theorem KI {P:xu}{fs:aa af}:∀k,(NA P fs k).length=k
 |0=>rfl
 |k+1=>by unfold NA;rw[bA,KI k];rfl
theorem UP {P:xu}{fs:aa af}{i:af}(h:0<=i):NA P fs (i+1).toNat=NA P fs i.toNat++[Int.tdiv (2-((P.getD i.toNat ([],[])).1.length:af)+((P.getD i.toNat ([],[])).2.length:af)-fs.getD i.toNat 0) 2]:=by
 rw[show(i+1).toNat=i.toNat+1 by omega];rfl
def m6 (n:af)(E:aa (af×af))(V L:aa af)(T:aa (aa af)):aa af×af:=
 if(jm n E V L T).2≠0 then([],(jm n E V L T).2) else(NA (jy n E V L) (C4 E (jy n E V L) (jm n E V L T).1 (jm n E V L T).1.length) (jy n E V L).length,0)
def sO (n:af)(E:aa (af×af))(V L:aa af)(T:aa (aa af)):af:=
 if(m6 n E V L T).2≠0 then(m6 n E V L T).2 else if(m6 n E V L T).1.all (λg=>aE (g=0)) then 0 else 6
theorem KJ {n:af}{E:aa (af×af)}{V L:aa af}{T:aa (aa af)}:(m6 n E V L T).2=(nR n E V L T).2:=by
 grind [m6,uD]
theorem UQ {n:af}{E:aa (af×af)}{V L:aa af}{T:aa (aa af)}(h:(m6 n E V L T).2=0):(m6 n E V L T).1.length<=V.length:=by
 rw[KJ,<-uD] at h;obtain⟨hp,_,_⟩:=si h;unfold m6;rw[aP (by rw[h];exact λq=>q rfl)];show(NA _ _ _).length<=_;rw[KI];exact(EB hp).len
theorem Qg {n:af}{E:aa (af×af)}{V L:aa af}{T:aa (aa af)}(h:(m6 n E V L T).2=0):V.length<=1024:=by
 rw[KJ,<-uD] at h;obtain⟨hp,_,_⟩:=si h;obtain⟨hr,hV,hL,p9⟩:=kA hp;obtain⟨r1,r2,r3,r4⟩:=l6 hr;have:=nk hV r1;omega
theorem YS {n:af}{E:aa (af×af)}{V L:aa af}{T:aa (aa af)}{i:af}(h:(m6 n E V L T).2=0)(h0:0<=i)(h1:i<((m6 n E V L T).1.length:af))(h2:¬(m6 n E V L T).1.getD i.toNat 0=0):sO n E V L T=6:=by
 unfold sO;rw[aP (by rw[h];exact λq=>q rfl),aP];intro q;exact h2 (bq (bG.1 q _ (jJ.2 ⟨i.toNat,by omega,rfl⟩)))
theorem acz {n:af}{E:aa (af×af)}{V L:aa af}{T:aa (aa af)}(h:(m6 n E V L T).2=0)(h1:∀j,j<(m6 n E V L T).1.length->(m6 n E V L T).1.getD j 0=0):sO n E V L T=0:=by
 unfold sO;rw[aP (by rw[h];exact λq=>q rfl),aQ];rw[bG];intro x hx;obtain⟨j,hj,rfl⟩:=jJ (z:=0).1 hx;exact cT (h1 j hj)
def kM (E:aa (af×af))(P:xu)(W:aa (af×aa af)):ah->aa (af×af)
 |0=>[]
 |k+1=>kZ (kM E P W k) (W.getD k (0,[])).1 ((jr (F9 P P.length) (sN E (W.getD k (0,[])))).getD 0)
theorem UR {E:aa (af×af)}{P:xu}{W:aa (af×aa af)}{i:af}(h:0<=i):kM E P W (i+1).toNat=kZ (kM E P W i.toNat) (W.getD i.toNat (0,[])).1 ((jr (F9 P P.length) (sN E (W.getD i.toNat (0,[])))).getD 0):=by
 rw[show(i+1).toNat=i.toNat+1 by omega];rfl
theorem KK {E:aa (af×af)}{P:xu}{W:aa (af×aa af)}:∀k,(kM E P W k).length<=k
 |0=>aW _
 |k+1=>by
  have:=KK (E:=E) (P:=P) (W:=W) k
  grind [qF,kM,jr,F9,sN,kZ]
def xU:ah->S4
 |0=>([],[],[],0)
 |k+1=>ob (xU k) (k:af)
theorem US {i:af}(h:0<=i):xU (i+1).toNat=ob (xU i.toNat) i:=by
 rw[show(i+1).toNat=i.toNat+1 by omega];show ob _ ((i.toNat:ah):af)=_;rw[eM h]
theorem KL:∀k,LV (xU k)/\(xU k).2.1.length=k/\(∀x,(jr (xU k).1 x).isSome=aC↔0<=x/\x<(k:af))/\∀a b,Rl (xU k) a b↔0<=a/\a<(k:af)/\a=b
 |0=>⟨LV.nil,rfl,λx=>⟨(λh=>by cases h),λh=>by omega⟩,λa b=>⟨(λ⟨i,_,h,_⟩=>by cases h),λh=>by omega⟩⟩
 |k+1=>by
  obtain⟨h1,h2,h3,h4⟩:=KL k;obtain⟨k1,k2⟩:=h1.add (k:af);have hn:jr (xU k).1 (k:af)=aA:=by
   cases hq:jr (xU k).1 (k:af) with
   |none=>rfl
   |some _=>have:=(h3 (k:af)).1 (by rw[hq];rfl);omega
  refine⟨k1,?_,λx=>?_,λa b=>?_⟩
  .show(l5 (xU k).1 (xU k).2.1 (k:af)).length=_;unfold l5;rw[hn];simp[h2]
  .show(jr (lg (xU k).1 (xU k).2.1 (k:af)) x).isSome=aC↔_;unfold lg;rw[hn];simp only[Option.isSome_none,Bool.false_eq_true,if_false];rw[lF];split
   .exact⟨λ_=>by omega,λ_=>rfl⟩
   rw[h3];omega
  show Rl (ob (xU k) (k:af)) a b↔_;rw[k2,h4];omega
def y6 (ow:sB)(l:aa af)(i:af)(s:S4×sB)(k:ah):ai (S4×sB):=
 if(jr ow (l.getD k 0)).isSome=aD\/(jr s.2 (l.getD k 0)).isSome=aC\/(0<k/\l.getD k 0<=l.getD (k-1) 0) then aA
 else if k=0 then az (s.1,kZ s.2 (l.getD k 0) i)
 else if jnT s.1 ((jr ow (l.getD 0 0)).getD 0) ((jr ow (l.getD k 0)).getD 0)=aC then az (UI s.1 ((jr ow (l.getD 0 0)).getD 0) ((jr ow (l.getD k 0)).getD 0),kZ s.2 (l.getD k 0) i) else aA
def runK (ow:sB)(l:aa af)(i:af)(s:S4×sB):ah->ai (S4×sB)
 |0=>az s
 |k+1=>(runK ow l i s k).bind λz=>y6 ow l i z k
def y7 (ow:sB)(S:aa (aa af))(s:S4×sB)(i:ah):ai (S4×sB):=
 if(S.getD i []).length<2\/(0<i/\(S.getD i []).getD 0 0<=(S.getD (i-1) []).getD 0 0) then aA else runK ow (S.getD i []) (i:af) s (S.getD i []).length
def tg (ow:sB)(S:aa (aa af))(N:ah):ah->ai (S4×sB)
 |0=>az (xU N,[])
 |i+1=>(tg ow S N i).bind λs=>y7 ow S s i
def vN (n:af)(E:aa (af×af))(V L:aa af)(T S:aa (aa af)):af:=
 if sO n E V L T≠0 then sO n E V L T
 else match tg (kM E (jy n E V L) (jm n E V L T).1 (jm n E V L T).1.length) S (jy n E V L).length S.length with
  |none=>7
  |some s=>if 1<s.1.2.2.2 then 7 else 0
structure YT (ow:sB)(N:ah):Prop where
 v:∀x c,jr ow x=az c->0<=c/\c<(N:af)
 len:ow.length<=100000
structure I4 (ow:sB)(N:ah)(s:S4×sB):Prop where
 ok:LV s.1
 len:s.1.2.1.length=N
 all:∀x,0<=x->x<(N:af)->(jr s.1.1 x).isSome=aC
 kn:KN s.2
 sub:∀x,(jr s.2 x).isSome=aC->(jr ow x).isSome=aC
section
variable {ow:sB}{N:ah}{s:S4×sB}{l:aa af}{S:aa (aa af)}
theorem I4.start:I4 ow N (xU N,[]):=by
 obtain⟨h1,h2,h3,_⟩:=KL N;exact⟨h1,h2,λx h h'=>(h3 x).2 ⟨h,h'⟩,KB,λx h=>by cases h⟩
theorem I4.Hw (h:I4 ow N s)(ho:YT ow N):s.2.length<=100000:=by
 have:=h.kn.length_le_of_subset (l₂:=ow.map (·.1)) λx hx=>mem_keys.2 (h.sub x (mem_keys.1 hx));rw[bH,bH] at this;exact bC this ho.len
theorem RV {M:sB}{L:aa af}{x:af}(h:(jr M x).isSome=aC):l5 M L x=L:=aQ h
theorem RW {M:sB}{L:aa af}{x:af}(h:(jr M x).isSome=aC):lg M L x=M:=aQ h
theorem I4.jn (h:I4 ow N s){x y:af}(x0:0<=x)(x1:x<(N:af))(y0:0<=y)(y1:y<(N:af)):LV (UI s.1 x y)/\(UI s.1 x y).2.1.length=N/\(UI s.1 x y).1=s.1.1:=by
 have hx:=h.all x x0 x1;have hy:=h.all y y0 y1;have e1:(UI s.1 x y).1=s.1.1:=by
  show lg (lg s.1.1 s.1.2.1 x) (l5 s.1.1 s.1.2.1 x) y=_
  grind [RW]
 have e2:(UI s.1 x y).2.1=s.1.2.1:=by
  show l5 (lg s.1.1 s.1.2.1 x) (l5 s.1.1 s.1.2.1 x) y=_;rw[RW hx,RV hx,RV hy]
 exact⟨(h.ok.jn x y).1,by rw[e2];exact h.len,e1⟩
theorem I4.met (h:I4 ow N s){x i:af}(hx:(jr ow x).isSome=aC):I4 ow N (s.1,kZ s.2 x i):=
 ⟨h.ok,h.len,h.all,Nj h.kn _ _,λz hz=>by
  have hz:(jr (kZ s.2 x i) z).isSome=aC:=hz;rw[lF] at hz;split at hz
  .grind
  exact h.sub z hz⟩
theorem EC (ho:YT ow N){i:af}{k:ah}(hl:0<k->(jr ow (l.getD 0 0)).isSome=aC){z:S4×sB}(h:I4 ow N s)(e:y6 ow l i s k=az z):I4 ow N z:=by
 unfold y6 at e;split at e
 .cases e
 rename_i q;have hx:(jr ow (l.getD k 0)).isSome=aC:=by
  cases hq:(jr ow (l.getD k 0)).isSome with
  |true=>rfl
  |false=>exact(q (.inl hq)).elim
 split at e
 .cases e;exact h.met hx
 rename_i hk0;split at e
 .cases e;obtain⟨c0,hc0⟩:=bS.1 (hl (by omega));obtain⟨c1,Ho⟩:=bS.1 hx;have b0:=ho.v _ _ hc0;have b1:=ho.v _ _ Ho;have hj:=h.jn b0.1 b0.2 b1.1 b1.2;rw[hc0,Ho];have h':I4 ow N (UI s.1 c0 c1,s.2):=⟨hj.1,hj.2.1,λx h0 h1=>by show(jr (UI s.1 c0 c1).1 x).isSome=aC;rw[hj.2.2];exact h.all x h0 h1,h.kn,h.sub⟩;exact h'.met hx
 cases e
theorem wW {i:af}{k:ah}(h:runK ow l i s k=aA):∀ {m:ah},k<=m->runK ow l i s m=aA
 |0,hm=>by grind
 |m+1,hm=>by
  by_cases q:k=m+1
  .grind
  show(runK ow l i s m).bind _=aA;rw[wW h (m:=m) (by omega)];rfl
theorem I5 {k:ah}(h:tg ow S N k=aA):∀ {m:ah},k<=m->tg ow S N m=aA
 |0,hm=>by grind
 |m+1,hm=>by
  by_cases q:k=m+1
  .grind
  show(tg ow S N m).bind _=aA;rw[I5 h (m:=m) (by omega)];rfl
theorem AX {i:af}:∀ {k:ah} {z:S4×sB},0<k->runK ow l i s k=az z->(jr ow (l.getD 0 0)).isSome=aC
 |1,z,_,h=>by
  have h:(az s).bind (λz=>y6 ow l i z 0)=az z:=h
  grind [y6,jr]
 |k+2,z,_,h=>by
  have h:(runK ow l i s (k+1)).bind (λz=>y6 ow l i z (k+1))=az z:=h;cases hq:runK ow l i s (k+1) with
  |none=>rw[hq] at h;cases h
  |some y=>exact AX (k:=k+1) (by omega) hq
theorem zQ {i:af}{k:af}{z:S4×sB}(h0:0<=k)(h:runK ow l i s k.toNat=az z):runK ow l i s (k+1).toNat=y6 ow l i z k.toNat:=by
 rw[show(k+1).toNat=k.toNat+1 by omega]
 grind [runK]
theorem C5 {i:af}{z:S4×sB}(h0:0<=i)(h:tg ow S N i.toNat=az z):tg ow S N (i+1).toNat=y7 ow S z i.toNat:=by
 rw[show(i+1).toNat=i.toNat+1 by omega]
 grind [tg]
theorem wX {i:af}{z:S4×sB}(h0:0<=i)(hi:i<(aM S:af))(h:tg ow S N i.toNat=az z)(hb:y7 ow S z i.toNat=aA):tg ow S N S.length=aA:=
 I5 (k:=(i+1).toNat) (by rw[C5 h0 h];exact hb) (by omega)
theorem I6 {i:af}{z:S4×sB}(h0:0<=i)(h:((S.getD i.toNat []).length:af)<2\/(0<i/\(S.getD i.toNat []).getD 0 0<=(S.getD (i-1).toNat []).getD 0 0)):y7 ow S z i.toNat=aA:=by
 unfold y7;rw[aQ];rcases h with h|⟨h1,h2⟩
 .grind
 exact .inr ⟨by omega,by rw[show i.toNat-1=(i-1).toNat by omega];exact h2⟩
theorem zR {i:af}{z:S4×sB}(h0:0<=i)(h:¬(((S.getD i.toNat []).length:af)<2)/\(¬(0<i)\/¬((S.getD i.toNat []).getD 0 0<=(S.getD (i-1).toNat []).getD 0 0))):y7 ow S z i.toNat=runK ow (S.getD i.toNat []) i z (S.getD i.toNat []).length:=by
 unfold y7;rw[aP,eM h0];rintro(q|⟨q1,q2⟩)
 .grind
 rw[show i.toNat-1=(i-1).toNat by omega] at q2
 grind
theorem NB {i k:af}{z:S4×sB}(h0:0<=k)(h:((jr ow (l.getD k.toNat 0)).isSome=aD\/(jr z.2 (l.getD k.toNat 0)).isSome=aC)\/(0<k/\l.getD k.toNat 0<=l.getD (k-1).toNat 0)):y6 ow l i z k.toNat=aA:=by
 unfold y6;rw[aQ];rcases h with(h|h)|⟨h1,h2⟩
 .exact .inl h
 .grind
 exact .inr (.inr ⟨by omega,by rw[show k.toNat-1=(k-1).toNat by omega];exact h2⟩)
theorem I7 {i k:af}{z:S4×sB}(h0:0<=k)(h:((jr ow (l.getD k.toNat 0)).isSome=aC/\(jr z.2 (l.getD k.toNat 0)).isSome=aD)/\(¬(0<k)\/¬(l.getD k.toNat 0<=l.getD (k-1).toNat 0))):
  y6 ow l i z k.toNat=if k=0 then az (z.1,kZ z.2 (l.getD k.toNat 0) i) else if jnT z.1 ((jr ow (l.getD 0 0)).getD 0) ((jr ow (l.getD k.toNat 0)).getD 0)=aC then az (UI z.1 ((jr ow (l.getD 0 0)).getD 0) ((jr ow (l.getD k.toNat 0)).getD 0),kZ z.2 (l.getD k.toNat 0) i) else aA:=by
 unfold y6;rw[aP]
 .by_cases q:k=0
  .rw[aQ (by omega),aQ q]
  rw[aP (by omega),aP q]
 rintro(q|q|⟨q1,q2⟩)
 .grind
 .rw[h.1.2] at q;cases q
 rw[show k.toNat-1=(k-1).toNat by omega] at q2
 grind
end
theorem YU {n:af}{E:aa (af×af)}{V L:aa af}{P:xu}{W:aa (af×aa af)}(hp:j6 n E V L=0)(hP:Nw E V L P)(hW:Nz E V L W):∀ {k:ah},k<=W.length->∀x c,jr (kM E P W k) x=az c->0<=c/\c<(aM P:af)
 |0,_,x,c,h=>by cases h
 |k+1,hk,x,c,h=>by
  have h:jr (kZ (kM E P W k) (W.getD k (0,[])).1 ((jr (F9 P P.length) (sN E (W.getD k (0,[])))).getD 0)) x=az c:=h;rw[lF] at h;split at h
  .have hm:W.getD k (0,[])∈W:=jJ.2 ⟨k,by omega,rfl⟩;obtain⟨i,hi,_,e⟩:=YQ hP (KG hp hW hm);rw[e] at h;have h:(i:af)=c:=by injection h
   omega
  exact YU hp hP hW (k:=k) (by omega) x c h
theorem YT.at_ {ow:sB}{N:ah}(h:YT ow N){x:af}(hx:(jr ow x).isSome=aC):0<=(jr ow x).getD 0/\(jr ow x).getD 0<(N:af):=by
 obtain⟨c,hc⟩:=bS.1 hx;rw[hc];exact h.v _ _ hc
theorem BZ {ow:sB}{S:aa (aa af)}{N:ah}:∀ {i:ah} {z:S4×sB},tg ow S N i=az z->∀j,j<i->2<=(S.getD j []).length
 |0,z,_,j,hj=>by omega
 |i+1,z,h,j,hj=>by
  have h:(tg ow S N i).bind (λs=>y7 ow S s i)=az z:=h;cases hq:tg ow S N i with
  |none=>rw[hq] at h;cases h
  |some y=>
   by_cases e:j=i
   .subst e;rw[hq] at h;have h:y7 ow S y j=az z:=h;unfold y7 at h;split at h
    .cases h
    rename_i q;exact aon λz=>q (.inl z)
   exact BZ hq j (by omega)
theorem YV {n:af}{E:aa (af×af)}{V L:aa af}(hp:j6 n E V L=0){W:aa (af×aa af)}(h:Nz E V L W){w:af×aa af}(hw:w∈W):(w.2.length=0/\-1<=-1-w.1/\-1-w.1<=1000000)\/(w.2.length≠0/\0<=w.1/\w.1/2<(aM E:af)/\w.1<=1000000):=by
 obtain⟨hr,hV,hL,p9⟩:=kA hp;obtain⟨r1,r2,r3,r4⟩:=l6 hr;rcases h.key w hw with⟨q,z⟩|⟨q,z⟩
 .grind [jC]
 have:=wV hp z;exact .inr ⟨q,by omega,by omega,by omega⟩
theorem vh {n:af}{E:aa (af×af)}{V L:aa af}{T:aa (aa af)}(h:sO n E V L T=0):(jm n E V L T).2=0:=by
 grind [uD,KJ,sO]
section
variable {n:af}{E:aa (af×af)}{V L:aa af}{T S:aa (aa af)}
theorem Ga (h:sO n E V L T≠0):vN n E V L T S=sO n E V L T:=aQ h
theorem rK (h:sO n E V L T=0)(hb:tg (kM E (jy n E V L) (jm n E V L T).1 (jm n E V L T).1.length) S (jy n E V L).length S.length=aA):vN n E V L T S=7:=by
 grind [vN]
theorem AY {s:S4×sB}(h:sO n E V L T=0)(hb:tg (kM E (jy n E V L) (jm n E V L T).1 (jm n E V L T).1.length) S (jy n E V L).length S.length=az s):vN n E V L T S=if 1<s.1.2.2.2 then 7 else 0:=by
 grind [vN]
end
def Av (n:af)(E:aa (af×af))(V L:aa af)(T S:aa (aa af)):af:=if j6 n E V L≠0 then j6 n E V L else vN n E V L T S
abbrev mK:mS:=fe
def DQ (E:aa mS):aa (af×af):=E.map λl=>(l.2.1,l.2.2.1)
abbrev ae9:Type:=(af×aa (af×af))×((aa af×aa af)×(aa (aa af)×aa (aa af)))
abbrev RX:ae9:=((0,[]),(([],[]),([],[])))
def Gb (E:aa mS):Prop:=∀j:ah,(j:af)<(aM E:af)->(E.getD j mK).2.2.2=0
noncomputable def kX (K:af) (W:aa aj) (E:aa mS) (V L:aa af) (T S:aa (aa af)):ae9×af:=
 open Classical in if K=0 then if Gb E then((((aM W:af),DQ E),((V,L),(T,S))),0) else(RX,1) else(RX,16)
theorem uE {α:Type}{E:aa α}{d:α}{i:af}(h0:0<=i)(h1:i<(aM E:af)):E.take (i+1).toNat=E.take i.toNat++[E.getD i.toNat d]:=by
 rw[show(i+1).toNat=i.toNat+1 by omega,apz,bD,bN (show i.toNat<E.length by omega)];rfl
theorem NC {E:aa mS}{i:af}(h0:0<=i)(h1:i<(aM E:af)):DQ (E.take (i+1).toNat)=DQ (E.take i.toNat)++[((E.getD i.toNat mK).2.1,(E.getD i.toNat mK).2.2.1)]:=by
 rw[uE (d:=mK) h0 h1];unfold DQ;rw[cA];rfl
abbrev B0:Type:=aa (af×af)×(aa (af×af)×aa af)
def qZ (z:B0)(l:mS):B0:=
 if l.2.2.2=0 then(z.1++[(l.2.1,l.2.2.1)],(z.2.1++[(l.2.1,l.2.2.1)],z.2.2++[(z.2.1.length:af)]))
 else if l.2.2.2=1 then(z.1++[(l.2.1,l.2.2.1)],(z.2.1,z.2.2++[-1])) else(z.1,(z.2.1++[(l.2.1,l.2.2.1)],z.2.2))
def B3 (E:aa mS):B0:=E.foldl qZ ([],([],[]))
theorem nh {E:aa mS}{i:af}(h0:0<=i)(h1:i<(aM E:af)):B3 (E.take (i+1).toNat)=qZ (B3 (E.take i.toNat)) (E.getD i.toNat mK):=by
 rw[uE (d:=mK) h0 h1];unfold B3;rw[eO];rfl
theorem RY (E:aa mS):(B3 E).1.length<=E.length/\(B3 E).2.1.length<=E.length/\(B3 E).2.2.length<=E.length:=by
 have key:∀(E:aa mS) (z:B0),(E.foldl qZ z).1.length<=z.1.length+E.length/\(E.foldl qZ z).2.1.length<=z.2.1.length+E.length/\(E.foldl qZ z).2.2.length<=z.2.2.length+E.length:=by
  intro E
  induction E with
  |nil=>intro z;simp
  |cons l E ih=>
   grind [qZ,b7]
 have:=key E ([],([],[]));simpa[B3] using this
def YW (x:af):Prop:=0<=x/\x<=2
def YX (E:aa mS):Prop:=∀j:ah,(j:af)<(aM E:af)->YW (E.getD j mK).2.2.2
abbrev afa:Type:=(af×aa (af×af))×((af×aa (af×af))×aa af)
abbrev I8:afa:=((0,[]),((0,[]),[]))
noncomputable def kS (K:af) (W:aa aj) (E:aa mS) (V L:aa af) (T S:aa (aa af)):afa×af:=
 open Classical in if K=1 then if(aM V:af)+L.length+T.length+S.length>0 then(I8,1) else
  if YX E then((((aM W:af),(B3 E).1),(((aM W:af),(B3 E).2.1),(B3 E).2.2)),0) else(I8,1) else(I8,16)
theorem Gc {K:af}{W:aa aj}{E:aa mS}{V L:aa af}{T S:aa (aa af)}(h:¬K=0):kX K W E V L T S=(RX,16):=by grind [kX]
theorem ND {K:af}{W:aa aj}{E:aa mS}{V L:aa af}{T S:aa (aa af)}{i:af}(h:K=0)(h0:0<=i)(h1:i<(aM E:af))(h2:¬(E.getD i.toNat mK).2.2.2=0):kX K W E V L T S=(RX,1):=by
 unfold kX;rw[aQ h,aP (λz=>h2 (z i.toNat (by omega)))]
theorem NF {K:af}{W:aa aj}{E:aa mS}{V L:aa af}{T S:aa (aa af)}{i:af}(h:K=0)(h1:¬i<(aM E:af))(h2:∀j:ah,(j:af)<i->(E.getD j mK).2.2.2=0):kX K W E V L T S=((((aM W:af),DQ E),((V,L),(T,S))),0):=by
 grind [kX,Gb]
theorem xV {α:Type}{E:aa α}{i:af}(h:¬i<(aM E:af)):E.take i.toNat=E:=dI (by omega)
def HA (l:aa (aa af))(k:ah):aa (aa af):=l.take k++dA (l.length-k) []
theorem agE (l:aa (aa af)):dA ((aM l:af)).toNat []=HA l ((0:af)).toNat:=by simp[HA]
theorem YY {l:aa (aa af)}{i:af}(h0:0<=i)(h:i<=(aM l:af)):(HA l i.toNat).length=l.length:=by simp[HA];omega
theorem YZ {l:aa (aa af)}{i:af}(h0:0<=i)(h:i<(aM l:af)):(HA l i.toNat).set i.toNat (l.getD i.toNat [])=HA l (i+1).toNat:=by
 have hi:i.toNat<l.length:=by omega
 unfold HA;rw[uE (d:=[]) h0 h,arq,aP (by rw[bJ];omega),bJ,Nat.min_eq_left (by omega),dx,show l.length-i.toNat=(l.length-(i+1).toNat)+1 by omega,List.replicate_succ,List.set_cons_zero];simp
theorem Y0 {l:aa (aa af)}{i:af}(h:¬i<(aM l:af)):HA l i.toNat=l:=by
 unfold HA;rw[dI (by omega),show l.length-i.toNat=0 by omega];simp
theorem zS {z:B0}{l:mS}(h:l.2.2.2=0):qZ z l=(z.1++[(l.2.1,l.2.2.1)],(z.2.1++[(l.2.1,l.2.2.1)],z.2.2++[(z.2.1.length:af)])):=aQ h
theorem zT {z:B0}{l:mS}(h:l.2.2.2=1):qZ z l=(z.1++[(l.2.1,l.2.2.1)],(z.2.1,z.2.2++[-1])):=by grind [qZ]
theorem zU {z:B0}{l:mS}(h0:¬l.2.2.2=0)(h1:¬l.2.2.2=1):qZ z l=(z.1,(z.2.1++[(l.2.1,l.2.2.1)],z.2.2)):=by grind [qZ]
theorem NG (E:aa mS)(i:af):(B3 (E.take i.toNat)).1.length<=E.length/\(B3 (E.take i.toNat)).2.1.length<=E.length/\(B3 (E.take i.toNat)).2.2.length<=E.length:=by
 grind [RY,bJ]
theorem Y1 (l:aa af)(x b:af):(l++[x]).set (((l++[x]).length:af)-1).toNat b=l++[b]:=by
 rw[show(((l++[x]).length:af)-1).toNat=l.length by simp,arq,aP (by omega),dx];rfl
section
variable {K:af}{W:aa aj}{E:aa mS}{V L:aa af}{T S:aa (aa af)}{i:af}
theorem Ge (h:¬K=1):kS K W E V L T S=(I8,16):=by grind [kS]
theorem Gf (h:K=1)(h1:0<(aM V:af)+(aM L:af)+(aM T:af)+(aM S:af)):kS K W E V L T S=(I8,1):=by grind [kS]
theorem NH (h:K=1)(h0:0<=i)(h1:i<(aM E:af))(h2:¬YW (E.getD i.toNat mK).2.2.2):kS K W E V L T S=(I8,1):=by
 unfold kS;rw[aQ h];split
 .rfl
 rw[aP (λz=>h2 (z i.toNat (by omega)))]
theorem NI (h:K=1)(h1:¬0<(aM V:af)+(aM L:af)+(aM T:af)+(aM S:af))(h2:¬i<(aM E:af))(h3:∀j:ah,(j:af)<i->YW (E.getD j mK).2.2.2):kS K W E V L T S=((((aM W:af),(B3 E).1),(((aM W:af),(B3 E).2.1),(B3 E).2.2)),0):=by
 grind [kS,YX]
end
theorem wks {s:aj}(h:s.size<=1000000:=by omega):nv .str s:=bC (show ByteArray.size s<=1000000 from h) (by decide)
def afb (T:aa (aa af))(N:ah):ak:=aE (∃j,j<T.length/\N<(T.getD j []).length)
theorem ajF {T:aa (aa af)}{N:ah}(h:afb T N=aD):∀l∈T,l.length<=N:=λl hl=>by
 obtain⟨j,hj,e⟩:=jJ (z:=([]:aa af)).1 hl
 grind [aon,afb]
section
variable {W:aa aj}{E:aa mS}{V L:aa af}{T S:aa (aa af)}{N:ah}{i:af}
end
theorem acA {l m:aa (aa af)}{i:af}(h0:0<=i)(h:¬l.getD i.toNat []=m.getD i.toNat []):aE (l=m)=aD:=by grind
theorem Y2 {l m:aa (aa af)}{i:af}(h:l.length=m.length)(h1:¬i<(aM l:af))(h2:∀j:ah,(j:af)<i->l.getD j []=m.getD j []):aE (l=m)=aC:=by
 refine cT (anG h λj q1 q2=>?_)
 grind
theorem alZ {l m:aa af}(h1:(aM l:af)=(aM m:af)){i:af}(hi:(aM l:af)<=i)(h:∀j:ah,(j:af)<i->l.getD j 0=m.getD j 0):aC=aE (l=m):=by
 grind [anG,bN]
def acB (l:aa af)(x:af):af:=if l.findIdx (λy=>aE (y=x))<l.length then((l.findIdx λy=>aE (y=x):ah):af) else -1
section
variable {l:aa af}{x:af}
theorem getD_eq {α:Type}{l:aa α}{j:ah}(h:j<l.length)(d:α):l.getD j d=l[j]:=by grind
theorem alk {i:af}(h0:0<=i)(h1:i<(aM l:af))(h2:l.getD i.toNat 0=x)(h3:∀j:ah,(j:af)<i->¬l.getD j 0=x):acB l x=i:=by
 grind [List.findIdx_eq,getD_eq,acB]
theorem agF {j:ah}(hj:j<l.length)(e:l.getD j 0=x):∃i:ah,acB l x=(i:af)/\i<=j/\l.getD i 0=x:=by
 have hx:x∈l:=e▸(by rw[getD_eq hj];exact dY hj);have rG:l.findIdx (λy=>aE (y=x))<l.length:=ars ⟨x,hx,by simp⟩;refine⟨l.findIdx λy=>aE (y=x),aQ rG,?_,?_⟩
 .grind
 grind
def ajG (l:aa af)(a:af):ah->aa af
 |0=>[]
 |k+1=>ajG l a k++[l.getD ((a+(k:af))%(aM l:af)).toNat 0]
end
def afc (a b:aa af):Prop:=a.length=b.length/\(a.length=0\/∃i,i<b.length/\a=ajG b (i:af) b.length)
instance (a b:aa af):ax (afc a b):=by unfold afc;infer_instance
def xW (r:af):Prop:=(97<=r/\r<=122)\/(65<=r/\r<=90)\/(192<=r/\r<=591/\r≠215/\r≠247)\/(913<=r/\r<=969/\r≠930)\/(1040<=r/\r<=1103)
instance (r:af):ax (xW r):=by unfold xW;infer_instance
def KM (r:af):ak:=aE (xW r)
theorem vi {r:af}:KM r=aC↔xW r:=by grind [KM]
theorem I9 {r:af}:KM r=aD↔¬xW r:=by grind [KM]
def cls (r:af):af:=if xW r then 1 else if 48<=r/\r<=57 then 2 else if r=95\/(8242<=r/\r<=8244) then 3 else if r=32 then 4 else 0
def yh (r:af):ak:=aE (r=10\/(43<=r/\r<=47)\/r=58\/r=124)
theorem vO {x y:ak}{w w':aN}(h:x=y)(hb:Below w.heap.size w w'):VL (.bool y) w (.returned (.bool x)) w':=⟨by rw[h],hb⟩
theorem Ja {k:IntKind}{x y:af}{w w':aN}(h:x=y)(hb:Below w.heap.size w w'):VL (.int k y) w (.returned (.int k x)) w':=⟨by rw[h],hb⟩
def vj (s:aj):ah->ah->aa (ah×af)
 |0,_=>[]
 |f+1,pos=>if pos<s.size then(pos,((bn s pos).1:af))::vj s f (pos+(bn s pos).2) else[]
def kY (s:aj)(pos:ah):aa (ah×af):=vj s (s.size-pos) pos
theorem vl (s:aj)(f pos:ah)(h:¬pos<s.size):vj s f pos=[]:=by cases f<;>simp[vj,h]
theorem DR (s:aj):∀(f g pos:ah),s.size<=pos+f->s.size<=pos+g->vj s f pos=vj s g pos
 |0,g,pos,h1,h2=>by rw[vl s g pos (by omega)];rfl
 |f+1,0,pos,h1,h2=>by rw[vl s (f+1) pos (by omega)];rfl
 |f+1,g+1,pos,h1,h2=>by
  by_cases hp:pos<s.size
  .simp only[vj,aQ hp];have hw:=oS s pos hp;rw[DR s f g _ (by omega) (by omega)]
  rw[vl s _ pos hp,vl s _ pos hp]
theorem jN (s:aj)(pos:ah)(h:pos<s.size):kY s pos=(pos,((bn s pos).1:af))::kY s (pos+(bn s pos).2):=by
 unfold kY;obtain⟨f,hf⟩:∃f,s.size-pos=f+1:=⟨s.size-pos-1,by omega⟩
 grind [vj,oS,DR]
theorem lB (s:aj)(pos:ah)(h:¬pos<s.size):kY s pos=[]:=vl s _ pos h
def mP:aa (ah×af)->af->af->ak
 |[],n,_=>aE (0<n)
 |(_,r)::l,n,k=>
  if cls r=1 then(if 0<k then aD else if 16<n+1 then aD else if 3<k then aD else mP l (n+1) k)
  else if cls r=2 then(if n+1=1 then aD else if 0<k then aD else if 16<n+1 then aD else if 3<k then aD else mP l (n+1) k)
  else if cls r=3 then(if n+1=1 then aD else if 16<n+1 then aD else if 3<k+1 then aD else mP l (n+1) (k+1))
  else aD
def kN (s:aj):ak:=mP (kY s 0) 0 0
def Aw:aa (ah×af)->af×ak
 |[]=>(0,aD)
 |(p,r)::l=>if cls r=0/\yh r=aD then((p:af),aC) else Aw l
def B4 (s:aj):af×ak:=Aw (kY s 0)
theorem Qh {s:aj}:s=⟨#[]⟩↔s.size=0:=by
 constructor
 .rintro rfl;rfl
 intro h;cases s with
 |mk d=>
  congr 1
  exact Array.eq_empty_of_size_eq_zero h
def sI (s:aj):aa (ah×af)->af->aa (af×aj)->aa (af×aj)
 |[],b,l=>if 0<=b then l++[(b,s.extract b.toNat s.size)] else l
 |(p,r)::t,b,l=>
  if cls r=4 then(if 0<=b then sI s t (-1) (l++[(b,s.extract b.toNat ((p:af)).toNat)]) else sI s t b l)
  else(if b<0 then sI s t (p:af) l else sI s t b l)
def mc (s:aj):aa (af×aj):=sI s (kY s 0) (-1) []
theorem Qi (s:aj)(i:af):0<=pE s i/\pE s i<=255:=by
 unfold pE;have:=(s.data.getD i.toNat 0).toNat_lt;omega
theorem Y3 {k:IntKind}{x y:af}{b c:ak}{w w':aN}(h:x=y/\b=c)(hb:Below w.heap.size w w'):VL (.tuple #[.int k y,.bool c]) w (.returned (.tuple #[.int k x,.bool b])) w':=⟨by rw[h.1,h.2],hb⟩
def al0 (l:aa aj)(x:aj):af:=if l.findIdx (λy=>aE (y=x))<l.length then((l.findIdx λy=>aE (y=x):ah):af) else -1
abbrev b0:aj:=⟨#[]⟩
section
variable {l:aa aj}{x:aj}
theorem alm {j:ah}(hj:j<l.length)(e:l.getD j b0=x):∃i:ah,al0 l x=(i:af)/\i<=j/\l.getD i b0=x:=by
 have hx:x∈l:=e▸(by rw[getD_eq hj];exact dY hj);have rG:l.findIdx (λy=>aE (y=x))<l.length:=ars ⟨x,hx,by simp⟩;refine⟨l.findIdx λy=>aE (y=x),aQ rG,?_,?_⟩
 .grind
 grind
end
abbrev mZ:Type:=aa (aj×af)
def p6 (m:mZ)(x:aj):ai af:=jo (k:=.str) m x
def vZ (m:mZ)(x:aj)(v:af):mZ:=nG (k:=.str) m x v
theorem y8 (m:mZ)(y x:aj)(v:af):p6 (vZ m y v) x=if y=x then az v else p6 m x:=Cy (k:=.str) m y x v
theorem Gg (m:mZ)(x:aj)(v:af):(vZ m x v).length<=m.length+1:=uQ (k:=.str) m x v
theorem UT {m:mZ}{x:aj}{v:af}(h:p6 m x=aA):(vZ m x v).length=m.length+1:=(H7 (k:=.str) h).length_eq
structure NJ (vs:aa aj)(mt:mZ)(i:af):Prop where
 mem:∀x,(p6 mt x).isSome=aC↔x∈vs.take i.toNat
 le:(vs.take i.toNat).Nodup->(aM mt:af)=i
 lt:¬(vs.take i.toNat).Nodup->(aM mt:af)<i
 val:∀x,0<=(p6 mt x).getD 0/\(p6 mt x).getD 0<=i
theorem ajH (vs:aa aj):NJ vs [] 0:=⟨λx=>⟨λh=>(by cases h),λh=>(by cases h)⟩,λ_=>rfl,λh=>ay anI h,λx=>⟨bM _,bM _⟩⟩
theorem AZ {α:Type}{l:aa α}{x:α}:(l++[x]).Nodup↔l.Nodup/\x∉l:=by
 grind
theorem UU {mt:mZ}{x:aj}{v:af}(h:(p6 mt x).isSome=aC):(vZ mt x v).length<=mt.length:=by
 obtain⟨u,hu⟩:=bS.1 h;have hm:(x,u)∈mt:=qE (k:=.str) hu;have h1:(vZ mt x v).length=(rP (k:=.str) mt x).length+1:=by unfold vZ nG;exact EW ..
 rw[h1];have h2:(rP (k:=.str) mt x).length<=mt.length:=Md (k:=.str) mt x;refine Nat.succ_le_of_lt (Nat.lt_of_le_of_ne h2 λe=>?_);have h3:=List.length_filter_eq_length_iff.1 e _ hm;exact ay (show x=x from rfl) (bL (Eq.mp (aoQ _) h3))
theorem acC {vs:aa aj}{mt:mZ}{i:af}(h:NJ vs mt i)(h0:0<=i)(h1:i<(aM vs:af)):NJ vs (vZ mt (vs.getD i.toNat b0) ((p6 mt (vs.getD i.toNat b0)).getD 0+1)) (i+1):=by
 have ht:=uE (d:=b0) h0 h1;generalize hx:vs.getD i.toNat b0=x at*
 have hv:=h.val x;refine⟨λy=>?_,λhn=>?_,λhn=>?_,λy=>?_⟩
 .rw[y8,ht,bE,aU,<-h.mem y]
  by_cases e:x=y
  .rw[aQ e];simp[e]
  rw[aP e];exact⟨.inl,λq=>q.resolve_right λz=>e z.symm⟩
 .rw[ht,AZ] at hn;have Be:p6 mt x=aA:=by
   cases hq:p6 mt x with
   |none=>rfl
   |some u=>exact ay ((h.mem x).1 (by rw[hq];rfl)) hn.2
  rw[UT Be];have:=h.le hn.1;omega
 .rw[ht,AZ] at hn
  by_cases e:(vs.take i.toNat).Nodup
  .have hm:x∈vs.take i.toNat:=dg λz=>hn ⟨e,z⟩;have:=UU (v:=(p6 mt x).getD 0+1) ((h.mem x).2 hm);have:=h.le e;omega
  have:=h.lt e;have:=Gg mt x ((p6 mt x).getD 0+1);omega
 rw[y8];have:=h.val y
 by_cases e:x=y
 .rw[aQ e];simp only[eV];omega
 rw[aP e];omega
theorem acD {vs:aa aj}{mt:mZ}{i:af}(h:NJ vs mt i)(hi:i=(aM vs:af)):(aM mt:af)<(aM vs:af)↔¬vs.Nodup:=by
 have e:vs.take i.toNat=vs:=dI (by omega);constructor
 .intro q hn;have:=h.le (by rw[e];exact hn);omega
 intro hn;have:=h.lt (by rw[e];exact hn);omega
def Qj (a b:aa (af×af))(s:aa af)(i:ah):Prop:=s.getD i 0= -1\/(0<=s.getD i 0/\s.getD i 0<(aM b:af)/\a.getD i (0,0)=b.getD (s.getD i 0).toNat (0,0)/\∀k:ah,k<i->s.getD k 0≠s.getD i 0)
noncomputable def yj (m:af) (a:aa (af×af)) (n:af) (b:aa (af×af)) (s:aa af):af:=
 open Classical in if ¬kz m a=0 then kz m a else if ¬kz n b=0 then kz n b else if ¬m=n\/¬(aM s:af)=(aM a:af) then 1 else if ∀i:ah,(i:af)<(aM s:af)->Qj a b s i then 0 else 4
section
variable {m n i:af}{a b:aa (af×af)}{s:aa af}
theorem Jb (h1:kz m a=0)(h2:kz n b=0)(h3:¬(¬m=n\/¬(aM s:af)=(aM a:af)))(h0:0<=i)(hi:i<(aM s:af))(h:¬Qj a b s i.toNat):yj m a n b s=4:=by
 grind [yj]
theorem Y4 (h1:kz m a=0)(h2:kz n b=0)(h3:¬(¬m=n\/¬(aM s:af)=(aM a:af)))(hi:¬i<(aM s:af))(h:∀j:ah,(j:af)<i->Qj a b s j):yj m a n b s=0:=by
 grind [yj]
abbrev Jc:Type:=aa (af×Unit)
def Gh (s:aa af)(mt:Jc)(i:af):Prop:=∀x,(jr mt x).isSome=aC↔x≠-1/\∃k:ah,(k:af)<i/\s.getD k 0=x
theorem al1:Gh s [] 0:=λx=>⟨λh=>(by cases h),λ⟨_,k,hk,_⟩=>by omega⟩
theorem acE {mt:Jc}(h0:0<=i)(hi:s.getD i.toNat 0= -1)(h:Gh s mt i):Gh s mt (i+1):=λx=>by
 rw[h x]
 grind
theorem agG {mt:Jc}(h0:0<=i)(hi:¬s.getD i.toNat 0= -1)(h:Gh s mt i):Gh s (kZ mt (s.getD i.toNat 0) ()) (i+1):=λx=>by
 rw[lF]
 by_cases e:s.getD i.toNat 0=x
 .grind
 rw[aP e,h x]
 grind
theorem agH {mt:Jc}(h0:0<=i)(hn:¬s.getD i.toNat 0= -1)(h:Gh s mt i)(hs:(jr mt (s.getD i.toNat 0)).isSome=aC):¬Qj a b s i.toNat:=λq=>by
 obtain⟨_,k,h1,h2⟩:=(h _).1 hs;rcases q with q|⟨_,_,_,q⟩
 .exact hn q
 grind
theorem agI (hn:¬s.getD i.toNat 0= -1)(h:(s.getD i.toNat 0<0\/(aM b:af)<=s.getD i.toNat 0)\/(¬(a.getD i.toNat (0,0)).1=(b.getD (s.getD i.toNat 0).toNat (0,0)).1\/¬(a.getD i.toNat (0,0)).2=(b.getD (s.getD i.toNat 0).toNat (0,0)).2)):¬Qj a b s i.toNat:=λq=>by
 rcases q with q|⟨q1,q2,q3,_⟩
 .exact hn q
 grind
theorem ajI (h:(¬s.getD i.toNat 0<0/\¬(aM b:af)<=s.getD i.toNat 0)/\((a.getD i.toNat (0,0)).1=(b.getD (s.getD i.toNat 0).toNat (0,0)).1/\(a.getD i.toNat (0,0)).2=(b.getD (s.getD i.toNat 0).toNat (0,0)).2))(hk:∀k:ah,(k:af)<i->¬s.getD k 0=s.getD i.toNat 0)(h0:0<=i):Qj a b s i.toNat:=
 .inr ⟨by omega,by omega,apy h.2.1 h.2.2,λk hk'=>hk k (by omega)⟩
end
abbrev yz (W:aa aj)(E:aa mS):aa aj:=W++E.map (·.1)
noncomputable def nS (K:af) (W:aa aj) (E:aa mS) (V L:aa af) (T S:aa (aa af)):af:=
 open Classical in if ¬K=0/\¬K=1 then 16 else if ∃j:ah,j<(yz W E).length/\kN ((yz W E).getD j b0)=aD then 11 else if ¬(yz W E).Nodup then 12 else
  if K=1 then(if ¬(kS K W E V L T S).2=0 then(kS K W E V L T S).2 else yj (kS K W E V L T S).1.1.1 (kS K W E V L T S).1.1.2 (kS K W E V L T S).1.2.1.1 (kS K W E V L T S).1.2.1.2 (kS K W E V L T S).1.2.2)
  else if ¬(kX K W E V L T S).2=0 then(kX K W E V L T S).2 else Av (kX K W E V L T S).1.1.1 (kX K W E V L T S).1.1.2 (kX K W E V L T S).1.2.1.1 (kX K W E V L T S).1.2.1.2 (kX K W E V L T S).1.2.2.1 (kX K W E V L T S).1.2.2.2
section
variable {K:af}{W:aa aj}{E:aa mS}{V L:aa af}{T S:aa (aa af)}{i:af}{vs:aa aj}
theorem UW (h:¬K=0/\¬K=1):nS K W E V L T S=16:=by grind [nS]
theorem UX (h:¬(¬K=0/\¬K=1))(h0:0<=i)(hi:i<((yz W E).length:af))(hn:kN ((yz W E).getD i.toNat b0)=aD):nS K W E V L T S=11:=by
 unfold nS;rw[aP h,aQ ⟨i.toNat,by omega,hn⟩]
theorem Qk (h:¬(¬K=0/\¬K=1))(hi:¬i<((yz W E).length:af))(hn:∀j:ah,(j:af)<i->kN ((yz W E).getD j b0)=aC)(ht:¬(yz W E).Nodup):nS K W E V L T S=12:=by
 grind [nS]
theorem B5 (h:¬(¬K=0/\¬K=1))(hi:¬i<((yz W E).length:af))(hn:∀j:ah,(j:af)<i->kN ((yz W E).getD j b0)=aC)(ht:(yz W E).Nodup):nS K W E V L T S=
  if K=1 then(if ¬(kS K W E V L T S).2=0 then(kS K W E V L T S).2 else yj (kS K W E V L T S).1.1.1 (kS K W E V L T S).1.1.2 (kS K W E V L T S).1.2.1.1 (kS K W E V L T S).1.2.1.2 (kS K W E V L T S).1.2.2)
  else if ¬(kX K W E V L T S).2=0 then(kX K W E V L T S).2 else Av (kX K W E V L T S).1.1.1 (kX K W E V L T S).1.1.2 (kX K W E V L T S).1.2.1.1 (kX K W E V L T S).1.2.1.2 (kX K W E V L T S).1.2.2.1 (kX K W E V L T S).1.2.2.2:=by
 grind [nS]
theorem acF (h0:0<=i)(h1:i<(aM E:af)):yz W (E.take (i+1).toNat)=yz W (E.take i.toNat)++[(E.getD i.toNat mK).1]:=by
 rw[uE (d:=mK) h0 h1];simp[yz]
theorem agJ (h:¬i<(aM E:af)):yz W (E.take i.toNat)=yz W E:=by rw[xV h]
theorem acG (hW:∀j:ah,j<W.length->(W.getD j b0).size<=200)(hE:∀j:ah,j<E.length->(E.getD j mK).1.size<=200){j:ah}(hj:j<(yz W E).length):((yz W E).getD j b0).size<=200:=by
 grind
theorem Jd (h:(kX K W E V L T S).2=0):kX K W E V L T S=((((aM W:af),DQ E),((V,L),(T,S))),0):=by
 grind [kX]
theorem acH:((kS K W E V L T S).1.1.1=0\/(kS K W E V L T S).1.1.1=(aM W:af))/\((kS K W E V L T S).1.2.1.1=0\/(kS K W E V L T S).1.2.1.1=(aM W:af)):=by
 grind [kS]
end
theorem ajJ (E:aa mS):∀d∈(B3 E).2.2,-1<=d/\d<=(aM E:af):=by
 have key:∀(E:aa mS) (z:B0) (n:af),(z.2.1.length:af)<=n->(∀d∈z.2.2,-1<=d/\d<=n)->∀d∈(E.foldl qZ z).2.2,-1<=d/\d<=n+E.length:=by
  intro E
  induction E with
  |nil=>intro z n _ h d hd;have:=h d hd;simp;omega
  |cons l E ih=>
   intro z n hn h d hd;have h1:((qZ z l).2.1.length:af)<=n+1/\∀d∈(qZ z l).2.2,-1<=d/\d<=n+1:=by
    unfold qZ
    grind
   have:=ih (qZ z l) (n+1) h1.1 h1.2 d hd
   grind
 have:=key E ([],([],[])) 0 (by simp) (λd hd=>by cases hd);simpa[B3] using this
theorem acI {K:af}{W:aa aj}{E:aa mS}{V L:aa af}{T S:aa (aa af)}(h:E.length<=1000000):∀d∈(kS K W E V L T S).1.2.2,-9223372036854775808<=d/\d<=9223372036854775807:=by
 unfold kS;split
 .split
  .intro d hd;cases hd
  split
  .intro d hd;have:=ajJ E d hd;omega
  intro d hd;cases hd
 intro d hd;cases hd
theorem Y5 {K:af}{W:aa aj}{E:aa mS}{V L:aa af}{T S:aa (aa af)}(h:E.length<=1000000):(kS K W E V L T S).1.2.2.length<=1000000:=by
 grind [kS,RY,bC]
def sj (W:aa aj)(E:aa mS)(d:af):aj:=
 if d<0 then(if -1-d<(aM W:af) then W.getD (-1-d).toNat b0 else b0) else if(aM E:af)<=d/2 then b0 else if d%2=0 then(E.getD (d/2).toNat mK).1++fB else(E.getD (d/2).toNat mK).1++fy
end Go.Proofs.YtnfdimfepbbbpaaGreatDoor
namespace Go.Proofs
open Go.Shelf
def Tryz.y9:Go.Shelf.Ren:=⟨fun|156=>52|165=>81|166=>51|169=>31|240=>80|241=>114|276=>113|277=>149|n=>n,fun|31=>22|9=>9|3=>3|4=>4|0=>0|20=>20|72=>80|76=>121|70=>77|37=>78|75=>120|127=>127|164=>189|5=>5|80=>87|n=>n,fun|n=>n⟩
theorem Tryz.KO:Go.Proofs.Lays.n156 aR Tryz.y9:={
 mixed:=by kernel_rfl
 f156:=func52.trans (bh az (by kernel_rfl))
 f165:=func81.trans (bh az (by kernel_rfl))
 f166:=func51.trans (bh az (by kernel_rfl))
 f169:=func31.trans (bh az (by kernel_rfl))
 f240:=func80.trans (bh az (by kernel_rfl))
 f241:=func114.trans (bh az (by kernel_rfl))
 f276:=func113.trans (bh az (by kernel_rfl))
 f277:=func149.trans (bh az (by kernel_rfl))
 t0:=Tryz.underlying0
 a0:=Tryz.isAgg0
 z0:=Tryz.sizeOf0
 v0:=Tryz.zeroValue0
 t3:=Tryz.underlying3
 a3:=Tryz.isAgg3
 z3:=Tryz.sizeOf3
 v3:=Tryz.zeroValue3
 t4:=Tryz.underlying4
 a4:=Tryz.isAgg4
 z4:=Tryz.sizeOf4
 v4:=Tryz.zeroValue4
 t9:=Tryz.underlying9
 a9:=Tryz.isAgg9
 z9:=Tryz.sizeOf9
 v9:=Tryz.zeroValue9
 t20:=Tryz.underlying20
 a20:=Tryz.isAgg20
 z20:=Tryz.sizeOf20
 v20:=Tryz.zeroValue20
 t31:=Tryz.underlying22
 a31:=Tryz.isAgg22
 z31:=Tryz.sizeOf22
 v31:=Tryz.zeroValue22
 t37:=Tryz.underlying78
 a37:=Tryz.isAgg78
 z37:=Tryz.sizeOf78
 v37:=Tryz.zeroValue78
 t70:=Tryz.underlying77
 a70:=Tryz.isAgg77
 z70:=Tryz.sizeOf77
 v70:=Tryz.zeroValue77
 t72:=Tryz.underlying80
 a72:=Tryz.isAgg80
 z72:=Tryz.sizeOf80
 v72:=Tryz.zeroValue80
 t75:=Tryz.underlying120
 a75:=Tryz.isAgg120
 z75:=Tryz.sizeOf120
 v75:=Tryz.zeroValue120
 t76:=Tryz.underlying121
 a76:=Tryz.isAgg121
 z76:=Tryz.sizeOf121
 v76:=Tryz.zeroValue121
 t127:=Tryz.underlying127
 a127:=Tryz.isAgg127
 z127:=Tryz.sizeOf127
 v127:=Tryz.zeroValue127
 t164:=Tryz.underlying189
 a164:=Tryz.isAgg189
 z164:=Tryz.sizeOf189
 v164:=Tryz.zeroValue189}
theorem Tryz.sk:Builder.Extra aR Tryz.y9:={
 sizeBuilder:=by kernel_rfl
 liesBuilder:=by kernel_rfl
 t5:=Tryz.underlying5
 a5:=Tryz.isAgg5
 z5:=Tryz.sizeOf5
 v5:=Tryz.zeroValue5
 infoByte:=by kernel_rfl
 cellsByte:=by kernel_rfl
 sizeByte:=by kernel_rfl
 neB5:=by decide}
open Go.RowKit in
theorem Tryz.strings_Join_none (a:ai Addr)(c:ah)(sep:aj)(w:aN):
 aI aR 52 #[.slice a 0 c,.string sep] w λe w'=>e= .returned (.string ⟨#[]⟩)/\w'=w:=Any.strings_Join_none Tryz.KO Tryz.sk a c sep w
open Go.RowKit in
theorem Tryz.strings_Join (bk o c:ah)(xs:aa aj)(sep:aj)(w:aN)(AJ:∀(j:ah) x,xs[j]?=az x->w.cell? ⟨bk,o+j,aA⟩=az (.string x))(NK:bk<w.heap.size)(hN:xs.length<=140737488355328)(al2:xs.length<=c)(hlen:(anJ (xs.map (·.data.toList)) sep.data.toList).length<=140737488355328):
 aI aR 52 #[.slice (az ⟨bk,o,aA⟩) xs.length c,.string sep] w λe w'=>e= .returned (.string ⟨(anJ (xs.map (·.data.toList)) sep.data.toList).toArray⟩)/\Below w.heap.size w w':=Any.strings_Join Tryz.KO Tryz.sk bk o c xs sep w AJ NK hN al2 hlen
open Go.RowKit in
theorem Tryz.Gi (b:ah)(w:aN)(h0:w.cell? ⟨b,0,aA⟩=az (.pointer (az ⟨b,0,aA⟩))):aI aR 80 #[.pointer (az ⟨b,0,aA⟩)] w λe w'=>e= .returned (.tuple #[])/\w'=w:=Any.Builder_copyCheck_used (ρ:=Tryz.y9) {Tryz.KO with} Tryz.sk.toX72 b w h0
def Tryz.HB:Go.Shelf.Ren:=⟨fun|15=>48|n=>n,fun|22=>24|3=>3|4=>4|n=>n,fun|n=>n⟩
theorem Tryz.C6:Go.Proofs.Lays2.n15 aR Tryz.HB:={
 mixed:=by kernel_rfl
 f15:=func48.trans (bh az (by kernel_rfl))
 t3:=Tryz.underlying3
 a3:=Tryz.isAgg3
 z3:=Tryz.sizeOf3
 v3:=Tryz.zeroValue3
 t4:=Tryz.underlying4
 a4:=Tryz.isAgg4
 z4:=Tryz.sizeOf4
 v4:=Tryz.zeroValue4
 t22:=Tryz.underlying24
 a22:=Tryz.isAgg24
 z22:=Tryz.sizeOf24
 v22:=Tryz.zeroValue24
 i3:=by kernel_rfl}
open Go.RowKit Go.Lib in
theorem Tryz.slices_Clone_int (b off n c:ah)(zs:aa af)(w:aN)(hz:n<=zs.length)(agK:n*8<=140737488355328)(hc:∀j,j<zs.length->w.cell? ⟨b,off+j,aA⟩=az (.int .i64 (zs.getD j 0))):
 aI aR 48 #[.slice (az ⟨b,off,aA⟩) n c] w λe w'=> ∃v',e= .returned v'/\w'.ownsRow w.heap.size 3 1 v' n ((zs.take n).map (cj .i64))/\v'≠.slice aA 0 0/\Below w.heap.size w w':=Any.slices_Clone_int Tryz.C6 b off n c zs w hz agK hc
open Go.RowKit Go.Lib in
theorem Tryz.slices_Clone_int_nil (n c:ah)(w:aN):
 aI aR 48 #[.slice aA n c] w λe w'=>e= .returned (.slice aA 0 0)/\w'=w:=Any.slices_Clone_int_nil Tryz.C6 n c w
def Tryz.HC:Go.Shelf.Ren:=⟨fun|16=>39|n=>n,fun|24=>22|9=>9|4=>4|n=>n,fun|n=>n⟩
theorem Tryz.C7:Go.Proofs.Lays2.n16 aR Tryz.HC:={
 mixed:=by kernel_rfl
 f16:=func39.trans (bh az (by kernel_rfl))
 t4:=Tryz.underlying4
 a4:=Tryz.isAgg4
 z4:=Tryz.sizeOf4
 v4:=Tryz.zeroValue4
 t9:=Tryz.underlying9
 a9:=Tryz.isAgg9
 z9:=Tryz.sizeOf9
 v9:=Tryz.zeroValue9
 t24:=Tryz.underlying22
 a24:=Tryz.isAgg22
 z24:=Tryz.sizeOf22
 v24:=Tryz.zeroValue22
 i9:=by kernel_rfl}
open Go.RowKit Go.Lib in
theorem Tryz.slices_Clone_string (b off n c:ah)(zs:aa aj)(w:aN)(hz:n<=zs.length)(agK:n*16<=140737488355328)(hc:∀j,j<zs.length->w.cell? ⟨b,off+j,aA⟩=az (.string (zs.getD j ByteArray.empty))):
 aI aR 39 #[.slice (az ⟨b,off,aA⟩) n c] w λe w'=> ∃v',e= .returned v'/\w'.ownsRow w.heap.size 9 1 v' n ((zs.take n).map (Value.string))/\v'≠.slice aA 0 0/\Below w.heap.size w w':=Any.slices_Clone_string Tryz.C7 b off n c zs w hz agK hc
open Go.RowKit Go.Lib in
theorem Tryz.slices_Clone_string_nil (n c:ah)(w:aN):
 aI aR 39 #[.slice aA n c] w λe w'=>e= .returned (.slice aA 0 0)/\w'=w:=Any.slices_Clone_string_nil Tryz.C7 n c w
open Go.RowKit Go.Lib in
theorem Tryz.slices_Clone_int_zero (a:Addr)(c:ah)(w:aN):
 aI aR 48 #[.slice (az a) 0 c] w λe w'=> ∃v',e= .returned v'/\w'.ownsRow w.heap.size 3 1 v' 0 []/\v'≠.slice aA 0 0/\Below w.heap.size w w':=Any.slices_Clone_int_zero Tryz.C6 a c w
open Go.RowKit Go.Lib in
theorem Tryz.slices_Clone_string_zero (a:Addr)(c:ah)(w:aN):
 aI aR 39 #[.slice (az a) 0 c] w λe w'=> ∃v',e= .returned v'/\w'.ownsRow w.heap.size 9 1 v' 0 []/\v'≠.slice aA 0 0/\Below w.heap.size w w':=Any.slices_Clone_string_zero Tryz.C7 a c w
def Tryz.NL:Go.Shelf.Ren:=⟨fun|189=>69|125=>93|257=>92|128=>130|129=>131|294=>121|295=>122|296=>123|297=>124|298=>125|299=>126|216=>127|300=>128|301=>129|328=>155|329=>156|330=>157|331=>158|332=>159|215=>160|343=>175|n=>n,fun|28=>24|3=>3|46=>170|0=>0|51=>206|53=>208|4=>4|183=>200|182=>199|131=>91|5=>5|9=>9|218=>234|222=>238|228=>249|229=>158|n=>n,fun|n=>n⟩
theorem Tryz.RZ:Go.Proofs.Lays.n189 aR Tryz.NL:={
 mixed:=by kernel_rfl
 f125:=func93.trans (bh az (by kernel_rfl))
 f128:=func130.trans (bh az (by kernel_rfl))
 f129:=func131.trans (bh az (by kernel_rfl))
 f189:=func69.trans (bh az (by kernel_rfl))
 f215:=func160.trans (bh az (by kernel_rfl))
 f216:=func127.trans (bh az (by kernel_rfl))
 f257:=func92.trans (bh az (by kernel_rfl))
 f294:=func121.trans (bh az (by kernel_rfl))
 f295:=func122.trans (bh az (by kernel_rfl))
 f296:=func123.trans (bh az (by kernel_rfl))
 f297:=func124.trans (bh az (by kernel_rfl))
 f298:=func125.trans (bh az (by kernel_rfl))
 f299:=func126.trans (bh az (by kernel_rfl))
 f300:=func128.trans (bh az (by kernel_rfl))
 f301:=func129.trans (bh az (by kernel_rfl))
 f328:=func155.trans (bh az (by kernel_rfl))
 f329:=func156.trans (bh az (by kernel_rfl))
 f330:=func157.trans (bh az (by kernel_rfl))
 f331:=func158.trans (bh az (by kernel_rfl))
 f332:=func159.trans (bh az (by kernel_rfl))
 f343:=func175.trans (bh az (by kernel_rfl))
 t0:=Tryz.underlying0
 a0:=Tryz.isAgg0
 z0:=Tryz.sizeOf0
 v0:=Tryz.zeroValue0
 t3:=Tryz.underlying3
 a3:=Tryz.isAgg3
 z3:=Tryz.sizeOf3
 v3:=Tryz.zeroValue3
 t4:=Tryz.underlying4
 a4:=Tryz.isAgg4
 z4:=Tryz.sizeOf4
 v4:=Tryz.zeroValue4
 t5:=Tryz.underlying5
 a5:=Tryz.isAgg5
 z5:=Tryz.sizeOf5
 v5:=Tryz.zeroValue5
 t9:=Tryz.underlying9
 a9:=Tryz.isAgg9
 z9:=Tryz.sizeOf9
 v9:=Tryz.zeroValue9
 t28:=Tryz.underlying24
 a28:=Tryz.isAgg24
 z28:=Tryz.sizeOf24
 v28:=Tryz.zeroValue24
 t46:=Tryz.underlying170
 a46:=Tryz.isAgg170
 z46:=Tryz.sizeOf170
 v46:=Tryz.zeroValue170
 t51:=Tryz.underlying206
 a51:=Tryz.isAgg206
 z51:=Tryz.sizeOf206
 v51:=Tryz.zeroValue206
 t53:=Tryz.underlying208
 a53:=Tryz.isAgg208
 z53:=Tryz.sizeOf208
 v53:=Tryz.zeroValue208
 t131:=Tryz.underlying91
 a131:=Tryz.isAgg91
 z131:=Tryz.sizeOf91
 v131:=Tryz.zeroValue91
 t182:=Tryz.underlying199
 a182:=Tryz.isAgg199
 z182:=Tryz.sizeOf199
 v182:=Tryz.zeroValue199
 t183:=Tryz.underlying200
 a183:=Tryz.isAgg200
 z183:=Tryz.sizeOf200
 v183:=Tryz.zeroValue200
 t218:=Tryz.underlying234
 a218:=Tryz.isAgg234
 z218:=Tryz.sizeOf234
 v218:=Tryz.zeroValue234
 t222:=Tryz.underlying238
 a222:=Tryz.isAgg238
 z222:=Tryz.sizeOf238
 v222:=Tryz.zeroValue238
 t228:=Tryz.underlying249
 a228:=Tryz.isAgg249
 z228:=Tryz.sizeOf249
 v228:=Tryz.zeroValue249
 t229:=Tryz.underlying158
 a229:=Tryz.isAgg158
 z229:=Tryz.sizeOf158
 v229:=Tryz.zeroValue158}
open Go.Sort Go.RowKit in
theorem Tryz.slices_Sort_int (oN off cap:ah)(zs:aa af)(w:aN)(hH:Holds (cj .i64) w oN off zs.toArray)(W4:oN<w.heap.size)(oC:zs.length<4611686018427387904):
 aI aR 69 #[.slice (az ⟨oN,off,aA⟩) zs.length cap] w λe w'=>
  e= .returned (.tuple #[])/\∃n os,w'=grow (putRow (cj .i64) (Sort.ahead w n) oN off (zs.mergeSort λx y=>aE (x<=y)).toArray) os:=Any.slices_Sort_int Tryz.RZ oN off cap zs w hH W4 oC
open Go.RowKit Go.Sort in
theorem Tryz.slices_Sort_int_none (p:ai Addr)(cap:ah)(w:aN):
 aI aR 69 #[.slice p 0 cap] w λe w'=>e= .returned (.tuple #[])/\w'=w:=Any.slices_Sort_int_none Tryz.RZ p cap w
def Tryz.Je:Go.Shelf.Ren:=⟨fun|7=>67|10=>88|n=>n,fun|23=>95|26=>3|3=>124|28=>138|0=>0|27=>137|33=>162|4=>4|n=>n,fun|n=>n⟩
theorem Tryz.ajK:Go.Proofs.SlLaysZI.n7 aR Tryz.Je:={
 mixed:=by kernel_rfl
 f7:=⟨f67.name,by decide,func67.trans (bh az (by kernel_rfl))⟩
 f10:=⟨f88.name,by decide,func88.trans (bh az (by kernel_rfl))⟩
 t0:=Tryz.underlying0
 a0:=Tryz.isAgg0
 z0:=Tryz.sizeOf0
 v0:=Tryz.zeroValue0
 t4:=Tryz.underlying4
 a4:=Tryz.isAgg4
 z4:=Tryz.sizeOf4
 v4:=Tryz.zeroValue4
 t23:=Tryz.underlying95
 a23:=Tryz.isAgg95
 z23:=Tryz.sizeOf95
 v23:=Tryz.zeroValue95
 t26:=Tryz.underlying3
 a26:=Tryz.isAgg3
 z26:=Tryz.sizeOf3
 v26:=Tryz.zeroValue3
 t27:=Tryz.underlying137
 a27:=Tryz.isAgg137
 z27:=Tryz.sizeOf137
 v27:=Tryz.zeroValue137
 t28:=Tryz.underlying138
 a28:=Tryz.isAgg138
 z28:=Tryz.sizeOf138
 v28:=Tryz.zeroValue138
 t33:=Tryz.underlying162
 a33:=Tryz.isAgg162
 z33:=Tryz.sizeOf162
 v33:=Tryz.zeroValue162}
def Tryz.DS:Go.Shelf.Ren:=⟨fun|6=>66|8=>87|9=>69|11=>117|13=>93|12=>92|23=>130|24=>131|14=>121|15=>122|16=>123|17=>124|18=>125|19=>126|20=>127|21=>128|22=>129|25=>155|26=>156|27=>157|28=>158|29=>159|30=>160|31=>175|n=>n,fun|26=>3|28=>138|24=>24|0=>0|3=>3|37=>170|48=>206|50=>208|4=>4|40=>200|39=>199|45=>91|5=>5|9=>9|51=>234|55=>238|57=>249|58=>158|33=>162|n=>n,fun|n=>n⟩
theorem Tryz.acJ:Go.Proofs.SlLaysZI.n6 aR Tryz.DS:={
 mixed:=by kernel_rfl
 f6:=⟨f66.name,by decide,func66.trans (bh az (by kernel_rfl))⟩
 f8:=⟨f87.name,by decide,func87.trans (bh az (by kernel_rfl))⟩
 f11:=⟨f117.name,by decide,func117.trans (bh az (by kernel_rfl))⟩
 t0:=Tryz.underlying0
 a0:=Tryz.isAgg0
 z0:=Tryz.sizeOf0
 v0:=Tryz.zeroValue0
 t24:=Tryz.underlying24
 a24:=Tryz.isAgg24
 z24:=Tryz.sizeOf24
 v24:=Tryz.zeroValue24
 t26:=Tryz.underlying3
 a26:=Tryz.isAgg3
 z26:=Tryz.sizeOf3
 v26:=Tryz.zeroValue3
 t28:=Tryz.underlying138
 a28:=Tryz.isAgg138
 z28:=Tryz.sizeOf138
 v28:=Tryz.zeroValue138
 i26:=by kernel_rfl}
def Tryz.NM:Go.Shelf.Ren:=⟨fun|162=>115|232=>150|227=>151|234=>152|236=>153|228=>172|271=>173|151=>174|120=>179|197=>180|152=>181|260=>184|137=>185|119=>186|224=>187|225=>188|217=>189|266=>190|n=>n,fun|9=>9|4=>4|3=>3|5=>5|117=>230|116=>229|0=>0|124=>233|21=>21|105=>246|46=>170|119=>257|139=>260|138=>259|n=>n,fun|3=>1|4=>2|n=>n⟩
theorem Tryz.acK:Go.Proofs.Lays.n162 aR Tryz.NM:={
 mixed:=by kernel_rfl
 f119:=func186.trans (bh az (by kernel_rfl))
 f120:=func179.trans (bh az (by kernel_rfl))
 f137:=func185.trans (bh az (by kernel_rfl))
 f151:=func174.trans (bh az (by kernel_rfl))
 f152:=func181.trans (bh az (by kernel_rfl))
 f162:=func115.trans (bh az (by kernel_rfl))
 f197:=func180.trans (bh az (by kernel_rfl))
 f217:=func189.trans (bh az (by kernel_rfl))
 f224:=func187.trans (bh az (by kernel_rfl))
 f225:=func188.trans (bh az (by kernel_rfl))
 f227:=func151.trans (bh az (by kernel_rfl))
 f228:=func172.trans (bh az (by kernel_rfl))
 f232:=func150.trans (bh az (by kernel_rfl))
 f234:=func152.trans (bh az (by kernel_rfl))
 f236:=func153.trans (bh az (by kernel_rfl))
 f260:=func184.trans (bh az (by kernel_rfl))
 f266:=func190.trans (bh az (by kernel_rfl))
 f271:=func173.trans (bh az (by kernel_rfl))
 t0:=Tryz.underlying0
 a0:=Tryz.isAgg0
 z0:=Tryz.sizeOf0
 v0:=Tryz.zeroValue0
 t3:=Tryz.underlying3
 a3:=Tryz.isAgg3
 z3:=Tryz.sizeOf3
 v3:=Tryz.zeroValue3
 t4:=Tryz.underlying4
 a4:=Tryz.isAgg4
 z4:=Tryz.sizeOf4
 v4:=Tryz.zeroValue4
 t5:=Tryz.underlying5
 a5:=Tryz.isAgg5
 z5:=Tryz.sizeOf5
 v5:=Tryz.zeroValue5
 t9:=Tryz.underlying9
 a9:=Tryz.isAgg9
 z9:=Tryz.sizeOf9
 v9:=Tryz.zeroValue9
 t21:=Tryz.underlying21
 a21:=Tryz.isAgg21
 z21:=Tryz.sizeOf21
 v21:=Tryz.zeroValue21
 t46:=Tryz.underlying170
 a46:=Tryz.isAgg170
 z46:=Tryz.sizeOf170
 v46:=Tryz.zeroValue170
 t105:=Tryz.underlying246
 a105:=Tryz.isAgg246
 z105:=Tryz.sizeOf246
 v105:=Tryz.zeroValue246
 t116:=Tryz.underlying229
 a116:=Tryz.isAgg229
 z116:=Tryz.sizeOf229
 t117:=Tryz.underlying230
 a117:=Tryz.isAgg230
 z117:=Tryz.sizeOf230
 v117:=Tryz.zeroValue230
 t119:=Tryz.underlying257
 a119:=Tryz.isAgg257
 z119:=Tryz.sizeOf257
 t124:=Tryz.underlying233
 a124:=Tryz.isAgg233
 z124:=Tryz.sizeOf233
 v124:=Tryz.zeroValue233
 t138:=Tryz.underlying259
 a138:=Tryz.isAgg259
 z138:=Tryz.sizeOf259
 v138:=Tryz.zeroValue259
 t139:=Tryz.underlying260
 a139:=Tryz.isAgg260
 z139:=Tryz.sizeOf260
 v139:=Tryz.zeroValue260
 g3:=by kernel_rfl
 g4:=by kernel_rfl}
open Go.RowKit Go.Lib in
theorem Tryz.B6 (s:aj)(w:aN)(hs:s.size<=9223372036854775807):
 aI aR 115 #[.string s,.string ase] w λe w'=>e= .returned (.string ⟨(Lib.trimRightS s.data.toList [43,45]).toArray⟩)/\Below w.heap.size w w':=Any.strings_TrimRight_laid Tryz.acK (by kernel_rfl) s ase w hs (by decide) (ascii_of_all (by decide))
def Tryz.NN:Go.Shelf.Ren:=⟨fun|100=>116|207=>154|n=>n,fun|9=>9|4=>4|3=>3|n=>n,fun|n=>n⟩
theorem Tryz.acL:Go.Proofs.Lays.n100 aR Tryz.NN:={
 mixed:=by kernel_rfl
 f100:=func116.trans (bh az (by kernel_rfl))
 f207:=func154.trans (bh az (by kernel_rfl))
 t3:=Tryz.underlying3
 a3:=Tryz.isAgg3
 z3:=Tryz.sizeOf3
 v3:=Tryz.zeroValue3
 t4:=Tryz.underlying4
 a4:=Tryz.isAgg4
 z4:=Tryz.sizeOf4
 v4:=Tryz.zeroValue4
 t9:=Tryz.underlying9
 a9:=Tryz.isAgg9
 z9:=Tryz.sizeOf9
 v9:=Tryz.zeroValue9}
open Go.RowKit Go.Lib in
theorem Tryz.strings_HasSuffix (s p:aj)(w:aN)(hs:s.size<=9223372036854775807):
 aI aR 116 #[.string s,.string p] w λe w'=>e= .returned (.bool (Lib.hasSuffix s.data.toList p.data.toList))/\w'=w:=Any.strings_HasSuffix Tryz.acL s p w hs
end Go.Proofs
namespace Go.Proofs.YtnfdimfepbbbpaaGreatDoor
open Go.RowKit Go.Lib
abbrev bdT:aV:=80
def BdT (T:aV):Prop:=liesAt aR Tryz.prog.depth T (2/Tryz.prog.cellsOf T) 0 bdT 1=aC
theorem agL:BdT 82:=by unfold BdT;kernel_rfl
theorem acM:(Tryz.prog.info? bdT).map (·.size)=az 2:=by kernel_rfl
theorem acN:(Tryz.prog.info? 5).map (λi=>(i.zero,i.size,i.bytes))=az (az (.int .u8 0),1,1):=by kernel_rfl
section
variable {P:aY}
theorem acO (w:aN)(t u ty e:aV)(i:TypeInfo)(ht:P.underlying t=az (.slice e))(hu:P.underlying u=az .string)(hi:P.info? e=az i)(hz:i.zero=az (.int .u8 0))
  (tG:i.size=1) (G4:i.bytes=1) (v:aO) (n:ah) (xs:aa aO) (lU:w.ownsRow 0 e 1 v n xs) (s:aj) (VI:n+s.size<=1000000):
  ∃v' w',(anz #[t,u] ty #[v,.string s]).run P w= .ok v' w'/\w'.ownsRow 0 e 1 v' (n+s.size) (xs++strCells s)/\w.grownBy w' v.ownBlock/\(∀k,v'.ownBlock=az k->v.ownBlock=az k\/w.heap.size<=k):=by
 have hm:n+s.size<=maxLen:=bC VI (by decide);obtain⟨v',w',hr,h2,h3,h4⟩:=run_append_own_string (P:=P) w 0 t u ty e i ht hu hi hz tG G4 v n xs lU s hm (by omega) (bQ _);refine⟨v',w',hr,h2,h3,?_⟩;rcases lU.2 with⟨rfl,rfl⟩|⟨g,cap,cur,rfl,hbg,hg,O0,vR,kO,rW⟩
 .obtain⟨v2,w2,UY,k2,_,_⟩:=run_append_own_string (P:=P) w w.heap.size t u ty e i ht hu hi hz tG G4 (.slice aA 0 0) 0 xs ⟨lU.1,.inl ⟨rfl,rfl⟩⟩ s hm (by omega) (aW _);rw[hr] at UY;cases UY;exact λk hk=>.inr (k2.lt k hk).1
 by_cases Bh:n+s.size<=cap
 .have Fl:cur.size=cap:=by simpa using kO
  have UY:=run_append_room_string (P:=P) w t u ty e i ht hu hi tG g n cap cur hg s Bh (by omega);rw[hr] at UY;cases UY;exact λk hk=>.inl hk
 have holds:∀j u,xs[j]?=az u->w.cell? ((⟨g,0,aA⟩:Addr).add j)=az u:=lU.cells (g:=g) rfl;have UY:=run_append_grow_string (P:=P) w t u ty e i (.int .u8 0) ht hu hi hz ⟨g,0,aA⟩ n cap xs (by rw[tG];simpa using lU.1) holds s (by omega) (by omega) (by rw[G4];exact growslice_fits (by omega) (by omega));rw[hr] at UY;cases UY;exact λk hk=>by cases hk;exact .inr (aW _)
theorem Gj {ops:aq bf}{rest:aa bf}{o:bf}{a:Act}{w:aN}{Q:Exit->Act->aN->Prop}(hgd:o.guard=aA)(sl x:Operand)(t u:aV)
  (ho:o.op= .call {callee:=.builtin .append,args:= #[sl,x],argTypes:= #[t,u]}) (e:aV) (i:TypeInfo) (ht:P.underlying t=az (.slice e)) (hu:P.underlying u=az .string) (hi:P.info? e=az i) (hz:i.zero=az (.int .u8 0))
  (tG:i.size=1) (G4:i.bytes=1) (v:aO) (n:ah) (xs:aa aO) (hs:a.eval sl=v) (lU:w.ownsRow 0 e 1 v n xs) (s:aj) (hx:a.eval x= .string s) (VI:n+s.size<=1000000)
  (h:∀v' w',w'.ownsRow 0 e 1 v' (n+s.size) (xs++strCells s)->w.grownBy w' v.ownBlock->(∀k,v'.ownBlock=az k->v.ownBlock=az k\/w.heap.size<=k)->wpList P ops Q rest (a.put o.dst v') w'):wpList P ops Q (o::rest) a w:=by
 refine wpList_plain hgd λK hK=>?_;obtain⟨v',w',hr,h2,h3,h4⟩:=acO (P:=P) w t u o.type e i ht hu hi hz tG G4 v n xs lU s VI;unfold Oper.wp aG;simp only[ho,resolve,invoke,builtin,Sem.run_bind,Sem.run_pure,cG,List.map_toArray,bO,cC,hs,hx,hr];exact hK _ _ (h v' w' h2 h3 h4)
end
theorem Y6 {T:aV}(hT:BdT T)(b:ah)(w:aN)(h0:w.cell? ⟨b,0,aA⟩=az (.pointer aA))(hsh:w.shape? b=az (T,2))(hfz:w.frozen? ⟨b,0,aA⟩=aD):
  aI aR 80 #[.pointer (az ⟨b,0,aA⟩)] w λe w'=>e= .returned (.tuple #[])/\w'=w.setCell ⟨b,0,aA⟩ (.pointer (az ⟨b,0,aA⟩)):=by
 obtain⟨j,hj,hjs⟩:=bF.1 acM
 go_enter func80,Tryz.ntmps80
 go_wp2
 rw[run_to_unsafe w ⟨b,0,aA⟩ Tryz.underlying77 Tryz.underlying189 hj (by rw[hjs];decide) hsh (Nat.zero_lt_succ 1)];simp only[cy];rw[aob]
 go_wp2
 rw[run_callFunc_extern func113 (by kernel_rfl) (by kernel_rfl) (by kernel_rfl) (e:=ar5) (by kernel_rfl)];rw[run_noEscape];simp only[cy];rw[aob]
 go_wp2
 rw[run_from_unsafe w ⟨b,0,aA⟩ Tryz.underlying189 Tryz.underlying77 hj hsh hT];simp only[cy];rw[aob]
 go_wp2
 go_end0
 exact⟨rfl,rfl⟩
theorem C8 {w:aN}{b:ah}{T:aV}{p v:aO}(NK:w.heap[b]?=az (.cells #[p,v] T (0,0))):w.cell? ⟨b,0,aA⟩=az p/\w.cell? ⟨b,1,aA⟩=az v/\w.shape? b=az (T,2)/\w.frozen? ⟨b,0,aA⟩=aD/\w.frozen? ⟨b,1,aA⟩=aD/\b<w.heap.size:=by
 refine⟨by rw[cell_of_heap NK];rfl,by rw[cell_of_heap NK];rfl,by simp[art,NK],frozen_of_heap NK 0,frozen_of_heap NK 1,(di.1 NK).1⟩
theorem DT (w:aN)(b i:ah)(u:aO):rE w (w.setCell ⟨b,i,aA⟩ u) (· =b):=⟨rfl,rfl,rfl,by simp,λk _ hn=>heap_setCell_other w _ k u hn⟩
theorem agM {T:aV}(hT:BdT T)(b:ah)(p v:aO)(w:aN)(NK:w.heap[b]?=az (.cells #[p,v] T (0,0)))(hp:p= .pointer aA\/p= .pointer (az ⟨b,0,aA⟩)):
  aI aR 80 #[.pointer (az ⟨b,0,aA⟩)] w λe w'=>e= .returned (.tuple #[])/\w'.heap[b]?=az (.cells #[.pointer (az ⟨b,0,aA⟩),v] T (0,0))/\rE w w' (· =b)/\w'.heap.size=w.heap.size:=by
 obtain⟨c0,c1,hsh,f0,f1,rG⟩:=C8 NK;rcases hp with rfl|rfl
 .refine(Y6 hT b w c0 hsh f0).mono ?_;rintro e w' ⟨rfl,rfl⟩;exact⟨rfl,by rw[heap_setCell_same w b 0 _ _ _ NK];rfl,DT _ _ _ _,by simp⟩
 refine(Tryz.Gi b w c0).mono ?_;rintro e w' ⟨rfl,rfl⟩;exact⟨rfl,NK,rE.refl _ _,rfl⟩
theorem Y7 (s t:aj):Bu (s++t)=Bu s++strCells t:=by
 unfold Bu strCells;rw[show(s++t).data.toList=s.data.toList++t.data.toList by rw[dD,Array.toList_append],cA]
theorem Y8 (s t:aj):(s++t).size=s.size+t.size:=apB
theorem agN {T:aV}(hT:BdT T)(hTe:T≠5)(b:ah)(p v:aO)(s t:aj)(w:aN)(NK:w.heap[b]?=az (.cells #[p,v] T (0,0)))(hp:p= .pointer aA\/p= .pointer (az ⟨b,0,aA⟩))
  (lU:w.ownsRow 0 5 1 v s.size (Bu s)) (hlen:s.size+t.size<=1000000):
  aI aR 51 #[.pointer (az ⟨b,0,aA⟩),.string t] w λe w'=>e= .returned (.tuple #[.int .i64 t.size,.nilIface])/\∃v',w'.heap[b]?=az (.cells #[.pointer (az ⟨b,0,aA⟩),v'] T (0,0))/\
   w'.ownsRow 0 5 1 v' (s++t).size (Bu (s++t))/\v'.ownBlock≠az b/\rE w w' (λk=>k=b\/v.ownBlock=az k)/\(∀k,v'.ownBlock=az k->v.ownBlock=az k\/w.heap.size<=k):=by
 obtain⟨i0,hi,LO,Af,NO⟩:=info_parts acN;have qD:v.ownBlock≠az b:=ownBlock_ne lU NK hTe
 go_enter func51,Tryz.ntmps51
 go_wp2_with (go_at_call 80;refine(agM hT b p v _ NK hp).mono ?_)
 rintro e w1 ⟨rfl,ajL,Ho,hz⟩;have ajM:w1.ownsRow 0 5 1 v s.size (Bu s):=xF lU λk hk=>Ho.block k (lU.lt k hk).2 λe=>qD (e▸hk);obtain⟨c0,c1,hsh,f0,f1,rG⟩:=C8 ajL
 go_wp2_with (at_builtin;refine Gj rfl _ _ 78 9 rfl 5 i0 Tryz.underlying78 Tryz.underlying9 hi LO Af NO _ _ _ rfl ajM t rfl hlen ?_)
 intro v' w2 Y9 Jf yB;have G3:w2.heap[b]?=az (.cells #[.pointer (az ⟨b,0,aA⟩),v] T (0,0)):=by
  rw[Jf.block b rG (λe=>qD e.symm)];exact ajL
 obtain⟨d0,d1,anl,g0,g1,anm⟩:=C8 G3;have D3:v'.ownBlock≠az b:=ownBlock_ne Y9 G3 hTe;obtain⟨ao,n',cap,rfl⟩:∃ao n' cap,v'= .slice ao n' cap:=by
  rcases Y9.2 with⟨hv,_⟩|⟨g,cap,cur,hv,_⟩
  .exact⟨_,_,_,hv⟩
  exact⟨_,_,_,hv⟩
 go_wp2
 go_ret2
 refine⟨rfl,.slice ao n' cap,?_,?_,D3,?_,λk hk=>(yB k hk).imp id λq=>by omega⟩
 .rw[heap_setCell_same w2 b 1 _ _ _ G3];rfl
 .rw[Y8,Y7];exact xF Y9 λk hk=>heap_setCell_other w2 _ k _ λe=>D3 (by have e:k=b:=e;rw[<-e];exact hk)
 have h2:rE w1 w2 (λk=>k=b\/v.ownBlock=az k):=⟨Jf.os,Jf.tape,Jf.output,Jf.size,λk hk hn=>Jf.block k hk λe=>hn (.inr e.symm)⟩;have h1:rE w w1 (λk=>k=b\/v.ownBlock=az k):=⟨Ho.os,Ho.tape,Ho.output,Ho.size,λk hk hn=>Ho.block k hk λe=>hn (.inl e)⟩;have h3:=DT w2 b 1 (.slice ao n' cap);exact(h1.trans h2 λ_ _ q=>q).trans ⟨h3.os,h3.tape,h3.output,h3.size,λk hk hn=>h3.block k hk λe=>hn (.inl e)⟩ λ_ _ q=>q
theorem C9 (w:aN)(g k:ah):rE w (w.freeze ⟨g,0,aA⟩ k) (· =g):=by
 have h:=below_freeze (Below.refl g w) (p:=⟨g,0,aA⟩) (aW g) k;refine⟨h.os,h.tape,h.output,h.size,λj hj hn=>?_⟩;unfold World.freeze
 grind
theorem acP {T:aV}(b:ah)(p v:aO)(s:aj)(w:aN)(NK:w.heap[b]?=az (.cells #[p,v] T (0,0)))(lU:w.ownsRow 0 5 1 v s.size (Bu s))(h0:0<s.size)(hlen:s.size<=1000000):
  aI aR 31 #[.pointer (az ⟨b,0,aA⟩)] w λe w'=>e= .returned (.string s)/\rE w w' (λk=>v.ownBlock=az k):=by
 obtain⟨g,cap,cur,rfl,hbg,hg,O0,vR,kO,rW⟩:∃g cap cur,v= .slice (az ⟨g,0,aA⟩) s.size cap/\0<=g/\w.heap[g]?=az (.cells cur 5 (0,0))/\s.size<=cap/\cap<=maxLen/\cur.size=cap*1/\cur.toList.take (s.size*1)=Bu s:=by
  rcases lU.2 with⟨_,hz⟩|⟨g,cap,cur,hv,r⟩
  .omega
  exact⟨g,cap,cur,hv,r⟩
 have hl:s.data.toList≠[]:=by
  intro e;have:s.size=0:=by show s.data.size=0;rw[<-Array.length_toList,e];rfl
  omega
 have hls:s.data.toList.length=s.size:=Array.length_toList;have c1:w.drew.cell? ⟨b,1,aA⟩=az (.slice (az ⟨g,0,aA⟩) s.size cap):=by
  have:w.drew.heap[b]?=az (.cells #[p,.slice (az ⟨g,0,aA⟩) s.size cap] T (0,0)):=NK;rw[cell_of_heap this];rfl
 have hSD:(Builtin.unsafeSliceData_ #[78] 127 #[.slice (az ⟨g,0,aA⟩) s.size cap]).run Tryz.prog w.drew= .ok (.pointer (az ⟨g,0,aA⟩)) w.drew:=
  run_unsafeSliceData_row _ _ _ _ _ _ (by omega)
 have hUS:(Builtin.unsafeString_ #[127,3] 9 #[.pointer (az ⟨g,0,aA⟩),.int .i64 s.size]).run Tryz.prog w.drew= .ok (.string s) (w.drew.freeze ⟨g,0,aA⟩ s.size):=by
  have:=run_unsafeString_row (P:=Tryz.prog) w.drew 127 3 9 5 Tryz.underlying127 (by kernel_rfl) g cur.size (by have hg':w.drew.heap[g]?=az (.cells cur 5 (0,0)):=hg;simp[World.shape?,hg']) s.data.toList hl (by omega) (by omega) (λj x hx=>by
   have:=lU.cells (g:=g) rfl j (.int .u8 x.toNat) (by simp only[Bu,List.getElem?_map,hx];rfl);exact this)
  rw[hls] at this;exact this
 have mixed:Tryz.prog.follows .mixedOrders=aC:=by kernel_rfl
 go_enter func31,Tryz.ntmps31
 go_wp2
 go_region_o
 all_goals (go_wp2;go_ret;exact⟨rfl,let h:=C9 w.drew g s.size;⟨h.os,h.tape,h.output,h.size,λk hk hn=>h.block k hk λe=>hn (by rw[e];rfl)⟩⟩)
section
variable {o:jO}{n:ah}{A A':jU}{S S':jv}{F:ah->Prop}{s:ah->ai E2}{r:ah->ai R2}{a:Act}{w w':aN}{b j:ah}
abbrev Za (t:aj):Sy:=.vt [(aD,[.v (.int .i64 (t.size:af))]),(aD,[.v .nilIface])]
theorem R4 {T:aV}(hT:BdT T)(hTe:T≠5)(H:kW o n A S F s r a w)(hF:¬F b){c0 c1:Sc}(hx:r j=az (.box T [c0,c1]))(hp:c0.den A= .pointer aA\/c0.den A= .pointer (az ⟨A.b j,0,aA⟩)){v:aO}{q t:aj}
  (hv:c1.den A=v) (lU:w.ownsRow 0 5 1 v q.size (Bu q)) {old:aa (ah×ai R2)} (hold:(old=[]/\v.ownBlock=aA)\/∃k,old=[(k,aA)]/\r k=az (.ext (.uV 5 q))/\v=A.v k/\k≠j) (hlen:q.size+t.size<=1000000) (cs:aa Prop):
  aI Tryz.prog 51 #[.pointer (az ⟨A.b j,0,aA⟩),.string t] w λe w'=> ∃v',e= .returned v'/\nI o n F s r a ⟨cs,[],Za t,(j,az (.box T [.ptr j 0,.own b]))::(b,az (.ext (.uV 5 (q++t))))::old⟩ v' w':=by
 have Bo:w.heap[A.b j]?=az (.cells #[c0.den A,c1.den A] T (0,0)):=H.jM.ok j _ (show jL A r j=az _ by simp[jL,hx];rfl);have Co:=(H.lq j _ hx).1;have hjb:j≠b:=λe=>hF (e▸Co);rw[hv] at Bo;refine(agN hT hTe (A.b j) _ v q t w Bo hp lU hlen).mono ?_;rintro e w' ⟨rfl,v',h1,h2,h3,h4,h5⟩;refine⟨_,rfl,?_⟩;obtain⟨p',n',c',V5⟩:∃p n c,v'= .slice p n c:=by
  rcases h2.2 with⟨h,_⟩|⟨g,cap,cur,h,_⟩
  .exact⟨_,_,_,h⟩
  exact⟨_,_,_,h⟩
 have Dt:=lQ.set (A:=A) hF p' n' c' 0;have hbj:(A.set b p' n' c' 0).b j=A.b j:=(Dt j Co).2.1.symm;have LP:(A.set b p' n' c' 0).v b=v':=by rw[jU.tL,V5]
 have ajN:∀k,v.ownBlock=az k->oD A r (λi=> ∃z,(i,z)∈(j,az (R2.box T [.ptr j 0,.own b]))::(b,az (.ext (.uV 5 (q++t))))::old/\i≠b) k:=λk hk=>by
  rcases hold with⟨_,h⟩|⟨i,rfl,hi,rfl,hij⟩
  .rw[h] at hk;cases hk
  have hFi:=(H.lq i _ hi).1;exact⟨i,_,⟨aA,by simp,λe=>hF (e▸hFi)⟩,hi,hk⟩
 have hHj:oD A r (λi=> ∃z,(i,z)∈(j,az (R2.box T [.ptr j 0,.own b]))::(b,az (.ext (.uV 5 (q++t))))::old/\i≠b) (A.b j):=⟨j,_,⟨_,aZ,hjb⟩,hx,rfl⟩;have rB:rE w w' (oD A r (λi=> ∃z,(i,z)∈(j,az (R2.box T [.ptr j 0,.own b]))::(b,az (.ext (.uV 5 (q++t))))::old/\i≠b)):=
  ⟨h4.os,h4.tape,h4.output,h4.size,λk hk hn=>h4.block k hk λe=>hn (e.elim (λe=>e▸hHj) λe=>ajN k e)⟩
 have Zb:∀ {i:ah} {z:R2},(i,az z)∈(j,az (R2.box T [.ptr j 0,.own b]))::(b,az (.ext (.uV 5 (q++t))))::old->(i=j/\z= .box T [.ptr j 0,.own b])\/(i=b/\z= .ext (.uV 5 (q++t))):=λ{i z} h=>by
  rcases bg.1 h with h|h
  .cases h;exact .inl ⟨rfl,rfl⟩
  rcases bg.1 h with h|h
  .cases h;exact .inr ⟨rfl,rfl⟩
  rcases hold with⟨rfl,_⟩|⟨k,rfl,_⟩
  .cases h
  rcases bg.1 h with h|h
  .cases h
  cases h
 refine⟨A.set b p' n' c' 0,S,H.swap Dt _ (λi ⟨z,hz,_⟩=>⟨z,hz⟩) rB (λ_ h=>h) (λ_ h=>.inl h) (λi z hi=>?_) (λi i' z z' c hi Cx k1 k2=>?_),rfl,(λp hp c hc=>?_),(λp hp c hc=>?_)⟩
 .rcases Zb hi with⟨rfl,rfl⟩|⟨rfl,rfl⟩
  .refine⟨λc hc=>?_,λc hc=>?_,rfl,?_,λc hc=>?_⟩
   .rcases bg.1 hc with rfl|hc
    .exact .inr ⟨_,aZ⟩
    have:=aU.1 hc;subst this;exact .inr ⟨_,bl _ aZ⟩
   .rcases bg.1 hc with rfl|hc
    .trivial
    have:=aU.1 hc;subst this;trivial
   .show w'.heap[(A.set b p' n' c' 0).b i]?=az (.cells #[.pointer (az ⟨(A.set b p' n' c' 0).b i,0,aA⟩),(A.set b p' n' c' 0).v b] T (0,0));rw[hbj,LP];exact h1
   have hc:az ((A.set b p' n' c' 0).b i)=az c:=hc;cases hc;rw[hbj];exact⟨.inl hHj,(di.1 h1).1⟩
  refine⟨tv,tv,rfl,?_,λc hc=>?_⟩
  .show w'.ownsRow 0 5 1 ((A.set i p' n' c' 0).v i) _ _;rw[LP];exact h2
  have hc:((A.set i p' n' c' 0).v i).ownBlock=az c:=hc;rw[LP] at hc;exact⟨(h5 c hc).imp (ajN c) id,(h2.lt c hc).2⟩
 .rcases Zb hi with⟨rfl,rfl⟩|⟨rfl,rfl⟩<;>rcases Zb Cx with⟨rfl,rfl⟩|⟨rfl,rfl⟩
  .rfl
  .have k1:az ((A.set i' p' n' c' 0).b i)=az c:=k1;have k2:((A.set i' p' n' c' 0).v i').ownBlock=az c:=k2;cases k1;rw[LP,hbj] at k2;exact ay k2 h3
  .have k1:((A.set i p' n' c' 0).v i).ownBlock=az c:=k1;have k2:az ((A.set i p' n' c' 0).b i')=az c:=k2;cases k2;rw[LP,hbj] at k1;exact ay k1 h3
  rfl
 .rcases bg.1 hp with rfl|hp
  .have:=aU.1 hc;subst this;trivial
  have:=aU.1 hp;subst this;have:=aU.1 hc;subst this;trivial
 rcases bg.1 hp with rfl|hp
 .have:=aU.1 hc;subst this;trivial
 have:=aU.1 hp;subst this;have:=aU.1 hc;subst this;trivial
def wsT (T:aV)(b:ah)(kH:aa (ah×ah))(ys:aa Sy):Tr Out:=match kH,ys with
 |[],[.one (.ptr j 0),.one (.v (.string t))]=>.res j λx=>match x with
  | .box T' [c0,c1]=>jK (bp T' T && (match c0 with| .v (.pointer aA)=>aC| .ptr i 0=>bp i j|_=>aD)) (match c1 with
   | .v (.slice aA 0 0)=>.ret ⟨[t.size<=1000000],[],Za t,[(j,az (.box T [.ptr j 0,.own b])),(b,az (.ext (.uV 5 t)))]⟩
   | .own k=>.res k λy=>match y with
    | .ext (.uV e q)=>jK (bp e 5 && !Nat.beq k j) (.ret ⟨[q.size+t.size<=1000000],[],Za t,[(j,az (.box T [.ptr j 0,.own b])),(b,az (.ext (.uV 5 (q++t)))),(k,aA)]⟩)
    |_=>.fail
   |_=>.fail)
  |_=>.fail
 |_,_=>.fail
theorem ajO {T:aV}(hT:BdT T)(hTe:T≠5):yM aR 51 (wsT T):=by
 intro o n A S F s r a w b B kH ys out H hF Pn yc h kO qG hB;unfold wsT at h;split at h
 .rename_i j t;obtain⟨x,hx,h⟩:=jI h;split at h
  .rename_i T' c0 c1;obtain⟨hg,h⟩:=jt h;rw[bB] at hg;have⟨g1,g2⟩:=hg;have g1:=j9 g1;subst g1;have hp:c0.den A= .pointer aA\/c0.den A= .pointer (az ⟨A.b j,0,aA⟩):=by
    split at g2
    .exact .inl rfl
    .have:=j9 g2;subst this;exact .inr rfl
    cases g2
   have hbF:(∀p∈out.re,p.1<B)->(b,az (R2.ext (.uV 5 t)))∈out.re\/(∃z,(b,z)∈out.re)->¬F b:=λh1 h2=>by
    rcases h2 with h2|⟨z,h2⟩
    .exact hF b (aW _) (h1 _ h2)
    exact hF b (aW _) (h1 _ h2)
   split at h
   .have e:=jH h;subst e;have hb:=hbF hB (.inr ⟨_,bl _ aZ⟩);have hl:t.size<=1000000:=kO _ (aU.2 rfl);have:=R4 hT hTe H hb hx hp (v:=.slice aA 0 0) (q:=⟨#[]⟩) (t:=t) rfl (World.ownsRow_nil w 0 _ 1) (old:=[]) (.inl ⟨rfl,rfl⟩) (by show 0+t.size<=1000000;omega) [t.size<=1000000];rw[show(⟨#[]⟩:aj)++t=t from by apply fc;rw[dD];simp] at this;exact this
   .rename_i k _;obtain⟨y,hy,h⟩:=jI h;split at h
    .rename_i e q;obtain⟨hg,h2⟩:=jt h;clear h;rw[bB,aoQ] at hg;have g3:=j9 hg.1;subst g3;have g4:k≠j:=λe=>by rw[e] at hg;simp at hg
     have e:=jH h2;subst e;have hb:=hbF hB (.inr ⟨_,bl _ aZ⟩);have hl:q.size+t.size<=1000000:=kO _ (aU.2 rfl);have lU:w.ownsRow 0 5 1 (A.v k) q.size (Bu q):=H.jM.ok k _ (show jL A r k=az _ by simp[jL,hy];rfl);exact R4 hT hTe H hb hx hp (v:=A.v k) rfl lU (.inr ⟨k,rfl,hy,rfl,g4⟩) hl [q.size+t.size<=1000000]
    cases h
   cases h
  cases h
 cases h
def ajP:lM aR:=⟨_,_,ajO agL (by decide)⟩
def ajQ (T:aV)(b:ah)(kH:aa (ah×ah))(ys:aa Sy):Tr Out:=match kH,ys with
 |[],[.one (.ptr j 0)]=>.res j λx=>match x with
  | .box T' [c0,.own k]=>.res k λy=>match y with
   | .ext (.uV e q)=>jK (bp e 5) (.ret ⟨[0<q.size/\q.size<=1000000],[],.one (.v (.string q)),[(k,aA)]⟩)
   |_=>.fail
  |_=>.fail
 |_,_=>.fail
theorem agO {T:aV}:yM aR 31 (ajQ T):=by
 intro o n A S F s r a w b B kH ys out H hF Pn yc h kO qG hB;unfold ajQ at h;split at h
 .rename_i j;obtain⟨x,hx,h⟩:=jI h;split at h
  .rename_i T' c0 k;obtain⟨y,hy,h⟩:=jI h;split at h
   .rename_i e q;obtain⟨hg,h2⟩:=jt h;clear h;have g3:=j9 hg;subst g3;have e:=jH h2;subst e;obtain⟨h0,hl⟩:0<q.size/\q.size<=1000000:=kO _ (aU.2 rfl);have lU:w.ownsRow 0 5 1 (A.v k) q.size (Bu q):=H.jM.ok k _ (show jL A r k=az _ by simp[jL,hy];rfl);have Bo:w.heap[A.b j]?=az (.cells #[c0.den A,A.v k] T' (0,0)):=H.jM.ok j _ (show jL A r j=az _ by simp[jL,hx];rfl);refine(acP (A.b j) _ _ q w Bo lU h0 hl).mono ?_;rintro e w' ⟨rfl,hc⟩;refine⟨_,rfl,A,S,H.swap (lQ.refl _ _) (· =k) (λi hi=>⟨aA,by rw[hi];exact aU.2 rfl⟩) ⟨hc.os,hc.tape,hc.output,hc.size,λc hk hn=>hc.block c hk λe=>hn ⟨k,_,rfl,hy,e⟩⟩ (λ_ h=>h) (λ_ h=>.inl h) (λi z hi=>?_) (λi i' z z' c hi Cx k1 k2=>?_),rfl,tv,tv⟩
    .cases aU.1 hi
    cases aU.1 hi
   cases h
  cases h
 cases h
def NP:lM aR:=⟨_,_,agO (T:=0)⟩
def jG (l:aa aj)(sep:aj):aj:=⟨(anJ (l.map (·.data.toList)) sep.data.toList).toArray⟩
theorem Zc {S:jv}{w:aN}{v:aO}{s:aj}(h:Rd S w v s):v= .string s:=by
 obtain⟨cs,h,rfl⟩:=h;have h:cs=[.string s]:=h;subst h;rfl
theorem acQ:kr aR 52 [(aD,.list .str),(aD,.str)] [.str] (λx=>(show aa aj from x.1).length<=1000000/\(jG (show aa aj from x.1) (show aj from x.2.1)).size<=1000000) (λx=>(jG (show aa aj from x.1) (show aj from x.2.1),())):=by
 intro o vs x hx hd
 match vs,x,hx,hd with
 |[v1,v2],((l:aa aj),(sep:aj),_),hx,hd=>
  obtain⟨hl,hd⟩:l.length<=1000000/\(jG l sep).size<=1000000:=hd;have hz:(jG l sep).size=(anJ (l.map (·.data.toList)) sep.data.toList).length:=by show Array.size _=_;simp[jG]
  have e:=Zc (s:=sep) hx.2.1;subst e;obtain⟨p,c,rfl,h1,h2,h3⟩:=lz (show Rd (· <o.w.heap.size) o.w v1 l from hx.1);have goal:aI aR 52 #[.slice p l.length c,.string sep] o.w (λe w'=>e= .returned (.string (jG l sep))/\Below o.w.heap.size o.w w'):=by
   rcases h3 with rfl|⟨g,off,cur,t,fz,rfl,hg,hw,hc⟩
   .exact(Tryz.strings_Join_none p c _ o.w).mono λe w' ⟨he,hw⟩=>⟨he,hw▸Below.refl _ _⟩
   refine Tryz.strings_Join g off c l _ o.w (λj y hy=>?_) hg (by omega) h1 (by omega);obtain⟨hj,rfl⟩:=cF.1 hy;obtain⟨cs,hr,hq⟩:=hc j hj;have hr:cs=[.string l[j]]:=hr;have:=hq 0 (show 0<1 by decide);rw[hr] at this;rw[aK o.w g _ cur t fz hw];have e:off+j*Data.size aj+0=off+j:=by show off+j*1+0=_;omega
   rw[e] at this;rw[this];rfl
  exact goal.mono λe w' ⟨h1,h2⟩=>⟨_,h1,⟨[.string _],rfl,rfl⟩,h2⟩
def R5:lM aR:=plain acQ
end
abbrev vP:aj:=ff
abbrev nlB:aj:=fu
theorem xX (a b c:aj):a++b++c=a++(b++c):=by apply fc;simp only[dD,Array.append_assoc]
theorem NQ (a:aj):b0++a=a:=by apply fc;rw[dD];simp
theorem m7 (a b:aj):(a++b).size=a.size+b.size:=apB
theorem join_one (a:aj)(s:aj):jG [a] s=a:=by
 apply fc;show(anJ [a.data.toList] s.data.toList).toArray=_;simp[anJ,aru]
theorem join_cons (a b:aj)(l:aa aj)(s:aj):jG (a::b::l) s=a++s++jG (b::l) s:=by
 apply fc;rw[dD,dD];show(anJ (a.data.toList::b.data.toList::l.map (·.data.toList)) s.data.toList).toArray=a.data++s.data++(anJ (b.data.toList::l.map (·.data.toList)) s.data.toList).toArray;rw[<-Array.toList_inj];simp[anJ,aru,List.intersperse]
def xY (q:aj)(ws:aa aj):aj:=q++jG ws vP++nlB
def oQ (q:aj)(ls:aa (aa aj)):aj:=ls.foldl xY q
theorem wY (q:aj)(ws:aa aj):(xY q ws).size=q.size+(jG ws vP).size+1:=by unfold xY;rw[m7,m7];rfl
theorem ED (q:aj)(A B:aa (aa aj)):oQ q (A++B)=oQ (oQ q A) B:=by unfold oQ;rw[eO]
theorem R6 (q:aj)(A:aa (aa aj))(ws:aa aj):oQ q (A++[ws])=xY (oQ q A) ws:=by rw[ED];rfl
theorem Ql:∀(B:aa (aa aj)) (q:aj),q.size<=(oQ q B).size
 |[],q=>aW _
 |ws::B,q=>by
  have h1:=Ql B (xY q ws)
  grind [wY,oQ,xY]
theorem acR (q:aj)(A B:aa (aa aj)):(oQ q A).size<=(oQ q (A++B)).size:=by rw[ED];exact Ql _ _
section
variable {α:Type}{f:α->aa (aa aj)}{l:aa α}{d:α}{i:af}{q:aj}{P R:aa (aa aj)}{N:ah}
abbrev G5 (f:α->aa (aa aj))(l:aa α)(i:af):aa (aa aj):=(l.take i.toNat).flatMap f
theorem KP (h0:0<=i)(h1:i<(aM l:af)):G5 f l (i+1)=G5 f l i++f (l.getD i.toNat d):=by
 unfold G5;rw[uE (d:=d) h0 h1,anZ];simp
theorem Da (h:¬i<(aM l:af)):G5 f l i=l.flatMap f:=by unfold G5;rw[xV h]
theorem agP (k:ah):l.flatMap f=(l.take k).flatMap f++(l.drop k).flatMap f:=by rw[<-anZ,eW]
theorem vQ (hN:(oQ q (P++l.flatMap f++R)).size<=N)(h0:0<=i)(h1:i<(aM l:af)){ws:aa aj}(hw:f (l.getD i.toNat d)=[ws]):(oQ q (P++G5 f l i)).size+(jG ws vP).size+1<=N:=by
 have e:=KP (f:=f) (d:=d) h0 h1;rw[hw] at e;have h2:=wY (oQ q (P++G5 f l i)) ws;rw[<-R6,cx,<-e] at h2;have h3:l.flatMap f=G5 f l (i+1)++(l.drop (i+1).toNat).flatMap f:=agP _;have h4:=acR q (P++G5 f l (i+1)) ((l.drop (i+1).toNat).flatMap f++R);rw[<-cx,cx P,<-h3] at h4;omega
theorem za (h0:0<=i)(h1:i<(aM l:af)){ws:aa aj}(hw:f (l.getD i.toNat d)=[ws]):oQ q (P++G5 f l (i+1))=xY (oQ q (P++G5 f l i)) ws:=by
 grind [KP,cx,R6]
theorem R7 (h0:0<=i)(h1:i<(aM l:af))(hw:f (l.getD i.toNat d)=[]):oQ q (P++G5 f l (i+1))=oQ q (P++G5 f l i):=by
 grind [KP]
end
abbrev yl:aj:=ar8
abbrev wZ:aj:=asd
abbrev uv:aj:=asb
abbrev R8:aj:=ar9
abbrev Zd:aj:=fo
abbrev Ze:aj:=fq
abbrev uw:aj:=fm
abbrev wAr:aj:=fk
abbrev wRg:aj:=fh
def kE (x:af):aj:=if x=1 then Zd else if x=2 then Ze else R8
def fV (v:aj):aa (aa aj):=[[yl,v]]
def fE (W:aa aj)(e:mS):aa (aa aj):=[[kE e.2.2.2,e.1,W.getD e.2.1.toNat b0,W.getD e.2.2.1.toNat b0]]
def fH (E:aa mS)(e:af):aa (aa aj):=[[uw,(E.getD e.toNat mK).1]]
def fW (W:aa aj)(h:af->ak)(v:af):aa (aa aj):=match h v with|true=>[]|false=>[[uw,W.getD v.toNat b0]]
def fA (W:aa aj)(E:aa mS)(T:aa (aa af))(h:af->ak)(v:af):aa (aa aj):=match h v with|true=>[wAr::W.getD v.toNat b0::(ju (T.getD v.toNat [])).map (sj W E)]|false=>[]
def fR (W:aa aj)(E:aa mS)(l:aa af):aa (aa aj):=[wRg::l.map (sj W E)]
def kL (K:af):aa (aa aj):=[[if K=0 then wZ else uv]]
def EE (W:aa aj)(E:aa mS)(V L:aa af)(T S:aa (aa af))(h:af->ak):aa (aa aj):=L.flatMap (fH E)++V.flatMap (fW W h)++V.flatMap (fA W E T h)++S.flatMap (fR W E)
def Db (K:af)(W:aa aj)(E:aa mS)(V L:aa af)(T S:aa (aa af))(h:af->ak):aa (aa aj):=
 kL K++W.flatMap fV++E.flatMap (fE W)++(if K=0 then EE W E V L T S h else[])
def VT (E:aa mS)(L:aa af):aa af:=L.flatMap λe=>[(E.getD e.toNat mK).2.1,(E.getD e.toNat mK).2.2.1]
def hE (E:aa mS)(L:aa af)(v:af):ak:=aE (v∈VT E L)
def hTn (T:aa (aa af))(v:af):ak:=aE (¬(T.getD v.toNat []).length=0)
def Zf (mt:Jc)(l:aa af):Prop:=∀x,(jr mt x).isSome=aC↔x∈l
theorem agQ:Zf [] []:=λx=>⟨λh=>(by cases h),λh=>(by cases h)⟩
theorem Gk {mt:Jc}{l:aa af}(x:af)(h:Zf mt l):Zf (kZ mt x ()) (l++[x]):=λy=>by
 rw[lF,bE,aU,<-h y]
 grind
theorem acS {E:aa mS}{L:aa af}{i:af}(h0:0<=i)(h1:i<(aM L:af)):VT E (L.take (i+1).toNat)=VT E (L.take i.toNat)++[(E.getD (L.getD i.toNat 0).toNat mK).2.1]++[(E.getD (L.getD i.toNat 0).toNat mK).2.2.1]:=by
 grind [VT,uE]
def wdT (W:aa aj)(E:aa mS)(ws:aa aj)(l:aa af)(i:af):aa aj:=ws++(l.take i.toNat).map (sj W E)
theorem acT {W:aa aj}{E:aa mS}{ws:aa aj}{l:aa af}{i:af}(h0:0<=i)(h1:i<(aM l:af)):wdT W E ws l (i+1)=wdT W E ws l i++[sj W E (l.getD i.toNat 0)]:=by
 grind [wdT,uE,cx]
theorem agR {W:aa aj}{E:aa mS}{ws:aa aj}{l:aa af}{i:af}(h:¬i<(aM l:af)):wdT W E ws l i=ws++l.map (sj W E):=by unfold wdT;rw[xV h]
theorem R9 {W:aa aj}{E:aa mS}{N:ah}(hW:∀j:ah,j<W.length->(W.getD j b0).size<=N)(hE:∀j:ah,j<E.length->(E.getD j mK).1.size<=N)(d:af):(sj W E d).size<=N+1:=by
 unfold sj;split
 .split
  .have:=hW (-1-d).toNat (by omega);omega
  exact bQ _
 split
 .exact bQ _
 have:=hE (d/2).toNat (by omega);split
 .rw[m7];show _+1<=_;omega
 rw[m7];show _+1<=_;omega
section
variable {K:af}{W:aa aj}{E:aa mS}{V L:aa af}{T S:aa (aa af)}{g:af->ak}{R:aa (aa aj)}
theorem al3 (h:K=0):jG [wZ] vP++nlB=oQ b0 (kL K++G5 fV W 0):=by
 show _=oQ b0 (kL K++[]);rw[bW];show _=b0++jG [if K=0 then wZ else uv] vP++nlB;rw[aQ h,NQ]
theorem al4 (h:¬K=0):jG [uv] vP++nlB=oQ b0 (kL K++G5 fV W 0):=by
 show _=oQ b0 (kL K++[]);rw[bW];show _=b0++jG [if K=0 then wZ else uv] vP++nlB;rw[aP h,NQ]
theorem Zg:0<(oQ b0 (kL K++R)).size:=by
 rw[ED];have h1:=Ql R (oQ b0 (kL K));have h2:(oQ b0 (kL K)).size=b0.size+(jG [if K=0 then wZ else uv] vP).size+1:=wY _ _;omega
theorem UZ (h:K=0):Db K W E V L T S g=kL K++W.flatMap fV++E.flatMap (fE W)++EE W E V L T S g:=by grind [Db]
theorem U0 (h:¬K=0):Db K W E V L T S g=kL K++W.flatMap fV++E.flatMap (fE W):=by grind [Db]
end
noncomputable def Qm (K:af) (W:aa aj) (E:aa mS) (V L:aa af) (T S:aa (aa af)):aj×af:=
 if ¬nS K W E V L T S=0 then(b0,nS K W E V L T S) else if 65536<((oQ b0 (Db K W E V L T S (hE E L))).size:af) then(b0,2) else(oQ b0 (Db K W E V L T S (hE E L)),0)
def Qn (W:aa aj)(E:aa mS):Prop:=∀j:ah,j<E.length->(0<=(E.getD j mK).2.1/\(E.getD j mK).2.1<(aM W:af))/\(0<=(E.getD j mK).2.2.1/\(E.getD j mK).2.2.1<(aM W:af))/\0<=(E.getD j mK).2.2.2/\(E.getD j mK).2.2.2<=2
def U1 (W:aa aj)(E:aa mS)(V L:aa af)(T:aa (aa af)):Prop:=(∀v∈V,0<=v/\v<(aM W:af)/\v<(aM T:af))/\∀e∈L,0<=e/\e<(aM E:af)
theorem agS {T:aa (aa af)}{k:ah}(h:k<T.length):(T.map ju).getD k []=ju (T.getD k []):=by
 grind
section
variable {E:aa (af×af)}{v:af}{l:aa af}
end
def OkD (E:aa (af×af))(d:af):Prop:=0<=d/\d/2<(aM E:af)
instance (E:aa (af×af)) (d:af):ax (OkD E d):=inferInstanceAs (ax (_/\_))
section
variable {n:af}{E:aa (af×af)}{ds:aa af}
end
def al5 (ds:aa af)(j:ah):af:=if j=0 then ds.getD (ds.length-1) 0 else ds.getD (j-1) 0
def CyK (E:aa (af×af))(ds:aa af)(k:ah):Prop:=
 (∀j,j<k->j7 E (lX (al5 ds j))=j7 E (ds.getD j 0))/\∀j,j<k->∀i,i<j->¬j7 E (ds.getD i 0)=j7 E (ds.getD j 0)/\¬ds.getD i 0/2=ds.getD j 0/2
def ajR (n:af)(E:aa (af×af))(V L:aa af)(ds:aa af):Prop:=j6 n E V L=0/\ds≠[]/\(∀d∈ds,0<=d/\hasB L (d/2)=aC)/\CyK E ds ds.length
instance (E:aa (af×af)) (ds:aa af) (k:ah):ax (CyK E ds k):=by unfold CyK;infer_instance
instance (n:af) (E:aa (af×af)) (V L:aa af) (ds:aa af):ax (ajR n E V L ds):=by unfold ajR;infer_instance
section
variable {E:aa (af×af)}{ds:aa af}{vm em:aa (af×af)}{a:af}
end
abbrev tU (n:af):Prop:= -9223372036854775808<=n/\n<=9223372036854775807
theorem ana:kr aR 111 [(aD,(.list .int)),(aD,.int)] [.bool] (λ_=>av) (λx=>(aE ((I_ x.2.1)∈(J_ x.1)),())):=by
 refine kJ f111 18 [] func111 λo x hd _ _ h=>?_;obtain⟨(l:aa af),(x:af),_⟩:=x;have vC:=pP h 0 l;refine tY [] h ?_;refine Ar l (λi=>⟨[(0,eo 0),(1,en x),(5,en i)],[(0,az (.ar .int l))],1⟩) (λi=> ∀j:ah,(j:af)<i->¬l.getD j 0=x) (ir 1) (λj hj=>by omega) λi _ mR i0 i1 i2=>?_;refine jQ ?_;refine jR (p:=i<(aM l:af)) (λq1=>?_) λq1=>?_
 .refine jY (pr:=(j8 i l.length)) bx ?_;refine jR (p:=(l.getD i.toNat 0)=x) (λq2=>?_) λq2=>?_
  .refine jQ ?_;exact jW ((aC:ak),()) (bh (·,()) (show(aC)=aE (x∈l) from(cT (qY.2 ⟨i.toNat,by omega,q2⟩)).symm))
  refine jY (pr:=(jX .i64 (i+1))) kC ?_;exact oa (mR (ir 1) (λj hj=>if z:(j:af)<i then i2 j z else by rw[show j=i.toNat by omega];exact q2))
 refine jQ ?_;exact jW ((aD:ak),()) (bh (·,()) (show(aD)=aE (x∈l) from(cV λq=>by obtain⟨j,hj,e⟩:=qY.1 q;exact i2 j (by omega) e).symm))
theorem Zh:kr aR 24 [(aD,(.list .int)),(aD,(.list .int))] [.bool] (λ_=>av) (λx=>(aE ((J_ x.1)=(J_ x.2.1)),())):=by
 refine kJ f24 26 [] func24 λo x hd _ _ h=>?_;obtain⟨(l:aa af),(m:aa af),_⟩:=x;have vC:=pP h 0 l;have uB:=pP h 1 m;refine tY [] h ?_;refine pY (p:=(aM l:af)=(aM m:af)) (λq1=>?_) λq1=>?_
 .refine jQ ?_;exact jW ((aD:ak),()) (bh (·,()) (show(aD)=aE (l=m) from(cV λe=>q1 (by rw[e])).symm))
 have hle:=q1;refine jQ ?_;refine Ar l (λi=>⟨[(0,eo 0),(1,eo 1),(5,en i)],[(0,az (.ar .int l)),(1,az (.ar .int m))],2⟩) (λi=> ∀j:ah,(j:af)<i->l.getD j 0=m.getD j 0) (ir 2) (λj hj=>by omega) λi _ mR i0 i1 i2=>?_;refine jQ ?_;refine jR (p:=i<(aM l:af)) (λq2=>?_) λq2=>?_
 .refine jY (pr:=(j8 i l.length)/\(j8 i m.length)) ⟨bx,bx⟩ ?_;refine pY (p:=(l.getD i.toNat 0)=(m.getD i.toNat 0)) (λq3=>?_) λq3=>?_
  .refine jQ ?_;exact jW ((aD:ak),()) (bh (·,()) (show(aD)=aE (l=m) from(cV λe=>q3 (by rw[e])).symm))
  refine jY (pr:=(jX .i64 (i+1))) kC ?_;exact oa (mR (ir 2) (λj hj=>if z:(j:af)<i then i2 j z else by rw[show j=i.toNat by omega];exact q3))
 refine jQ ?_;exact jW ((aC:ak),()) (bh (·,()) (show(aC)=aE (l=m) from(cT (P3 hle λj hj=>i2 j (by omega))).symm))
def NR:lM aR:=plain Zh
theorem ajS:kr aR 167 [(aD,(.list .int)),(aD,.int)] [.bool] (λ_=>av) (λx=>(aE (mC (J_ x.1) (I_ x.2.1)),())):=by
 refine kJ f167 41 [] func167 λo x hd _ _ h=>?_;obtain⟨(l:aa af),(n:af),_⟩:=x;have vC:=pP h 0 l;refine tY [] h ?_;refine Ar l (λi=>⟨[(0,eo 0),(1,en n),(5,en i)],[(0,az (.ar .int l))],1⟩) (λi=> ∀j:ah,(j:af)<i->(0<=l.getD j 0/\l.getD j 0<n/\(0<j->l.getD (j-1) 0<l.getD j 0))) (ir 1) (λj hj=>by omega) λi _ mR i0 i1 i2=>?_;refine jQ ?_;refine jR (p:=i<(aM l:af)) (λq1=>?_) λq1=>?_
 .refine jY (pr:=(j8 i l.length)/\((¬((l.getD i.toNat 0)<0))->(j8 i l.length))/\(((¬((l.getD i.toNat 0)<0))/\(¬(n<=(l.getD i.toNat 0))))->((0:af)<i)->(j8 i l.length))/\(((¬((l.getD i.toNat 0)<0))/\(¬(n<=(l.getD i.toNat 0))))->((0:af)<i)->(jX .i64 (i-1)))/\(((¬((l.getD i.toNat 0)<0))/\(¬(n<=(l.getD i.toNat 0))))->((0:af)<i)->(j8 (i-1) l.length))) ⟨bx,λ_=>bx,λ_ _=>bx,λ_ _=>kC,λ_ _=>bx⟩ ?_;refine jZ (λ(q2:(((l.getD i.toNat 0)<0)\/(n<=(l.getD i.toNat 0)))\/(((0:af)<i)/\((l.getD i.toNat 0)<=(l.getD (i-1).toNat 0))))=>?_) (λ(q2:((¬((l.getD i.toNat 0)<0))/\(¬(n<=(l.getD i.toNat 0))))/\((¬((0:af)<i))\/(¬((l.getD i.toNat 0)<=(l.getD (i-1).toNat 0)))))=>?_)
  .refine jQ ?_;exact jW ((aD:ak),()) (bh (·,()) (show(aD)=aE (mC l n) from(cV λq=>by have q:=q i.toNat (by omega);have z:=q2;rw[show(i-1).toNat=i.toNat-1 by omega] at z;omega).symm))
  refine jY (pr:=(jX .i64 (i+1))) kC ?_;exact oa (mR (ir 1) (λj hj=>if z:(j:af)<i then i2 j z else by rw[show j=i.toNat by omega];have q:=q2;rw[show(i-1).toNat=i.toNat-1 by omega] at q;omega))
 refine jQ ?_;exact jW ((aC:ak),()) (bh (·,()) (show(aC)=aE (mC l n) from(cT (show mC l n from λj hj=>i2 j (by omega))).symm))
theorem Zi:kr aR 96 [(aD,(.list .int)),(aD,.int)] [.bool] (λ_=>av) (λx=>(aE (mC (J_ x.1) (I_ x.2.1)),())):=by
 refine kJ f96 35 [] func96 λo x hd _ _ h=>?_;obtain⟨(l:aa af),(n:af),_⟩:=x;have vC:=pP h 0 l;refine tY [] h ?_;refine Ar l (λi=>⟨[(0,eo 0),(1,en n),(7,eo 0),(8,en (aM l:af)),(9,en i)],[(0,az (.ar .int l))],1⟩) (λi=> ∀j:ah,(j:af)<i->(0<=l.getD j 0/\l.getD j 0<n/\(0<j->l.getD (j-1) 0<l.getD j 0))) (ir 1) (λj hj=>by omega) λi _ mR i0 i1 i2=>?_;refine jQ ?_;refine jR (p:=i<(aM l:af)) (λq1=>?_) λq1=>?_
 .refine jY (pr:=(j8 i l.length)/\(((¬((l.getD i.toNat 0)<0))/\(¬(n<=(l.getD i.toNat 0))))->((0:af)<i)->(jX .i64 (i-1)))/\(((¬((l.getD i.toNat 0)<0))/\(¬(n<=(l.getD i.toNat 0))))->((0:af)<i)->(j8 (i-1) l.length))) ⟨bx,λ_ _=>kC,λ_ _=>bx⟩ ?_;refine jZ (λ(q2:(((l.getD i.toNat 0)<0)\/(n<=(l.getD i.toNat 0)))\/(((0:af)<i)/\((l.getD i.toNat 0)<=(l.getD (i-1).toNat 0))))=>?_) (λ(q2:((¬((l.getD i.toNat 0)<0))/\(¬(n<=(l.getD i.toNat 0))))/\((¬((0:af)<i))\/(¬((l.getD i.toNat 0)<=(l.getD (i-1).toNat 0)))))=>?_)
  .refine jQ ?_;exact jW ((aD:ak),()) (bh (·,()) (show(aD)=aE (mC l n) from(cV λq=>by have q:=q i.toNat (by omega);have z:=q2;rw[show(i-1).toNat=i.toNat-1 by omega] at z;omega).symm))
  refine jY (pr:=(jX .i64 (i+1))) kC ?_;exact oa (mR (ir 1) (λj hj=>if z:(j:af)<i then i2 j z else by rw[show j=i.toNat by omega];have q:=q2;rw[show(i-1).toNat=i.toNat-1 by omega] at q;omega))
 refine jQ ?_;exact jW ((aC:ak),()) (bh (·,()) (show(aC)=aE (mC l n) from(cT (show mC l n from λj hj=>i2 j (by omega))).symm))
def Zj:lM aR:=plain Zi
theorem ajT:kr aR 77 [(aD,D9)] [.int] (λx=>tU (I_ x.1.1)) (λx=>(kz (I_ x.1.1) (E_ x.1.2),())):=by
 refine kJ f77 70 [] func77 λo x hd _ _ h=>?_;obtain⟨⟨(n:af),(E:aa (af×af))⟩,_⟩:=x;have vC:=LS h 0 E;change tU n at hd;have hn:=hd;unfold tU at hn;refine tY [] h ?_;refine jR (p:=n<0) (λq1=>?_) λq1=>?_
 .refine jQ ?_;exact jW (((3:af):af),()) (bh (·,()) (show((3:af))=kz n E from by unfold kz;first|rw[aQ (by omega)]|rw[aP (by omega),aQ (by omega)]))
 refine jY (pr:=((¬((1024:af)<n))/\(¬((1024:af)<(aM E:af))))->(jX .i64 (n+(aM E:af)))) (λ_=>kC) ?_;refine jZ (λ(q2:(((1024:af)<n)\/((1024:af)<(aM E:af)))\/((1024:af)<n+(aM E:af)))=>?_) (λ(q2:((¬((1024:af)<n))/\(¬((1024:af)<(aM E:af))))/\(¬((1024:af)<n+(aM E:af))))=>?_)
 .refine jQ ?_;exact jW (((2:af):af),()) (bh (·,()) (show((2:af))=kz n E from by unfold kz;first|rw[aQ (by omega)]|rw[aP (by omega),aQ (by omega)]))
 refine jQ ?_;refine Ar E (λi=>⟨[(1,ep 0),(3,en i)],[(0,az (.box 55 [.v (.int .i64 n),.own 1])),(1,az (.ar CO E))],2⟩) (λi=> ∀j:ah,(j:af)<i->P0 n (E.getD j (0,0))) (rk [1,0]) (λj hj=>by omega) λi _ mR i0 i1 i2=>?_;refine jQ ?_;refine jR (p:=i<(aM E:af)) (λq3=>?_) λq3=>?_
 .refine jY (pr:=(j8 i E.length)/\((¬((E.getD i.toNat (0,0)).1<0))->(j8 i E.length))/\(((¬((E.getD i.toNat (0,0)).1<0))/\(¬(n<=(E.getD i.toNat (0,0)).1)))->(j8 i E.length))/\((((¬((E.getD i.toNat (0,0)).1<0))/\(¬(n<=(E.getD i.toNat (0,0)).1)))/\(¬((E.getD i.toNat (0,0)).2<0)))->(j8 i E.length))) ⟨bx,λ_=>bx,λ_=>bx,λ_=>bx⟩ ?_;refine jZ (λ(q4:((((E.getD i.toNat (0,0)).1<0)\/(n<=(E.getD i.toNat (0,0)).1))\/((E.getD i.toNat (0,0)).2<0))\/(n<=(E.getD i.toNat (0,0)).2))=>?_) (λ(q4:(((¬((E.getD i.toNat (0,0)).1<0))/\(¬(n<=(E.getD i.toNat (0,0)).1)))/\(¬((E.getD i.toNat (0,0)).2<0)))/\(¬(n<=(E.getD i.toNat (0,0)).2)))=>?_)
  .refine jQ ?_;exact jW (((3:af):af),()) (bh (·,()) (show((3:af))=kz n E from(FK (by omega) (by omega) (by omega) i0 (by omega) (by unfold P0;have:=q4;omega)).symm))
  refine jY (pr:=(jX .i64 (i+1))) kC ?_;exact oa (mR (ir 2) (λj hj=>if z:(j:af)<i then i2 j z else by rw[show j=i.toNat by omega];unfold P0;have:=q4;omega))
 refine jQ ?_;exact jW (((0:af):af),()) (bh (·,()) (show((0:af))=kz n E from(IU (i:=i) (by omega) (by omega) (by omega) (by omega) i2).symm))
theorem acU:kr aR 73 [(aD,D9)] [.int] (λx=>tU (I_ x.1.1)) (λx=>(kz (I_ x.1.1) (E_ x.1.2),())):=by
 refine kJ f73 50 [] func73 λo x hd _ _ h=>?_;obtain⟨⟨(n:af),(E:aa (af×af))⟩,_⟩:=x;have vC:=LS h 0 E;change tU n at hd;have hn:=hd;unfold tU at hn;refine tY [] h ?_;refine jR (p:=n<0) (λq1=>?_) λq1=>?_
 .refine jQ ?_;exact jW (((3:af):af),()) (bh (·,()) (show((3:af))=kz n E from by unfold kz;first|rw[aQ (by omega)]|rw[aP (by omega),aQ (by omega)]))
 refine jY (pr:=(¬((1024:af)<n))->(jX .i64 (1024-n))) (λ_=>kC) ?_;refine jZ (λ(q2:((1024:af)<n)\/(1024-n<(aM E:af)))=>?_) (λ(q2:(¬((1024:af)<n))/\(¬(1024-n<(aM E:af))))=>?_)
 .refine jQ ?_;exact jW (((2:af):af),()) (bh (·,()) (show((2:af))=kz n E from by unfold kz;first|rw[aQ (by omega)]|rw[aP (by omega),aQ (by omega)]))
 refine jQ ?_;refine Ar E (λi=>⟨[(1,ep 0),(21,eo 1),(22,en (aM E:af)),(23,en i)],[(0,az (.box 55 [.v (.int .i64 n),.own 1])),(1,az (.ar CO E))],2⟩) (λi=> ∀j:ah,(j:af)<i->P0 n (E.getD j (0,0))) (rk [1,0]) (λj hj=>by omega) λi _ mR i0 i1 i2=>?_;refine jQ ?_;refine jR (p:=i<(aM E:af)) (λq3=>?_) λq3=>?_
 .refine jY (pr:=(j8 i E.length)) bx ?_;refine jZ (λ(q4:((((E.getD i.toNat (0,0)).1<0)\/(n<=(E.getD i.toNat (0,0)).1))\/((E.getD i.toNat (0,0)).2<0))\/(n<=(E.getD i.toNat (0,0)).2))=>?_) (λ(q4:(((¬((E.getD i.toNat (0,0)).1<0))/\(¬(n<=(E.getD i.toNat (0,0)).1)))/\(¬((E.getD i.toNat (0,0)).2<0)))/\(¬(n<=(E.getD i.toNat (0,0)).2)))=>?_)
  .refine jQ ?_;exact jW (((3:af):af),()) (bh (·,()) (show((3:af))=kz n E from(FK (by omega) (by omega) (by omega) i0 (by omega) (by unfold P0;have:=q4;omega)).symm))
  refine jY (pr:=(jX .i64 (i+1))) kC ?_;exact oa (mR (ir 2) (λj hj=>if z:(j:af)<i then i2 j z else by rw[show j=i.toNat by omega];unfold P0;have:=q4;omega))
 refine jQ ?_;exact jW (((0:af):af),()) (bh (·,()) (show((0:af))=kz n E from(IU (i:=i) (by omega) (by omega) (by omega) (by omega) i2).symm))
def Sa:lM aR:=plain acU
theorem acV:kr aR 162 [(aD,.int)] [.bool] (λ_=>av) (λx=>(aD,())):=by
 refine kJ Tryz.f162 6 [] func162 λo x hd _ _ h=>?_;obtain⟨(x:af),_⟩:=x;refine tY [] h ?_;exact jW ((!(aE (x=x)):ak),()) (bh (·,()) (show(!(aE (x=x)))=aD from by simp))
def acW:lM aR:=plain acV
theorem Zk:kr aR 160 [(aD,.int)] [.bool] (λ_=>av) (λx=>(aD,())):=by
 refine kJ f160 6 [] func160 λo x hd _ _ h=>?_;obtain⟨(x:af),_⟩:=x;refine tY [] h ?_;exact jW ((!(aE (x=x)):ak),()) (bh (·,()) (show(!(aE (x=x)))=aD from by simp))
def Zl:lM aR:=plain Zk
theorem agT:kr aR 127 [(aD,.int),(aD,.int)] [.bool] (λ_=>av) (λx=>(aE ((I_ x.1)<(I_ x.2.1)),())):=by
 refine kJ f127 17 [Zl] func127 λo x hd _ _ h=>?_;obtain⟨(x:af),(y:af),_⟩:=x;refine go (pr:=av/\((aD=aC)->av)) [] h ⟨tv,λ_=>trivial⟩ ?_;exact jW (((aD && (!false))||(aE (x<y)):ak),()) (bh (·,()) (show((aD && (!false))||(aE (x<y)))=aE (x<y) from by simp))
def agU:lM aR:=plain agT
theorem al6:kr aR 134 [(aD,(.list .int)),(aD,.int)] [.int,.bool] (λx=>(J_ x.1).length<=1000000) (λx=>(Yr (J_ x.1) (I_ x.2.1),hasB (J_ x.1) (I_ x.2.1),())):=by
 refine kJ f134 54 [acW,agU] func134 λo x hd _ _ h=>?_;obtain⟨(l:aa af),(x:af),_⟩:=x;have vC:=pP h 0 l;change l.length<=1000000 at hd;refine tY [] h ?_;refine uf af af (λp q=>⟨[(0,eo 0),(1,en x),(6,en (aM l:af)),(7,en p),(8,en q)],[(0,az (.ar .int l))],1⟩) (λp q=>0<=p/\p<=q/\q<=(aM l:af)/\RJ l x p q=Yr l x) (λp q=>(q-p).toNat) 0 (aM l:af) (ir 1) ⟨bM _,dB _,bM _,ae3 l x⟩ λp q _ mR hI=>?_;have⟨h1,h2,h3,hb⟩:=hI;refine jQ ?_;refine jR (p:=p<q) (λq1=>?_) λq1=>?_
 .refine jY (pr:=(jX .i64 (p+q))/\(jX .u64 (p+q))/\(jX .i64 ((p+q)/2))/\(j8 ((p+q)/2) l.length)/\av) ⟨kC,⟨by omega,by omega⟩,kC,bx,tv⟩ ?_;refine jZ (λ(q2:(aE ((l.getD ((p+q)/2).toNat 0)<x))=aC)=>?_) (λ(q2:(aE ((l.getD ((p+q)/2).toNat 0)<x))=aD)=>?_)
  .refine jY (pr:=(jX .i64 (((p+q)/2)+1))) kC ?_;exact oa (mR (((p+q)/2)+1) q (ir 1) ⟨by omega,by omega,by omega,by rw[ae1 (by omega) (bq q2)] at hb;exact hb⟩ (by omega))
  refine jQ ?_;exact oa (mR p ((p+q)/2) (ir 1) ⟨by omega,by omega,by omega,by rw[ae2 (by omega) (bL q2)] at hb;exact hb⟩ (by omega))
 have e1:p=Yr l x:=by rw[Kv (by omega)] at hb;exact hb
 refine jY (pr:=((p<(aM l:af))->(j8 p l.length))/\((p<(aM l:af))->(¬((l.getD p.toNat 0)=x))->(j8 p l.length))/\((p<(aM l:af))->(¬((l.getD p.toNat 0)=x))->av)/\((p<(aM l:af))->(¬((l.getD p.toNat 0)=x))->(aD=aC)->av)) ⟨λ_=>bx,λ_ _=>bx,λ_ _=>trivial,λ_ _ _=>trivial⟩ ?_;exact jW ((p:af),((aE (p<(aM l:af))) && ((aE ((l.getD p.toNat 0)=x))||(aD && aD)):ak),()) (apy e1 (bh (·,()) (show((aE (p<(aM l:af))) && ((aE ((l.getD p.toNat 0)=x))||(aD && aD)))=hasB l x from by unfold hasB;rw[<-e1];simp)))
def al7:lM aR:=plain al6
theorem ajU:kr aR 97 [(aD,(.list .int)),(aD,.int)] [.bool] (λx=>(J_ x.1).length<=1000000) (λx=>(hasB (J_ x.1) (I_ x.2.1),())):=by
 refine kJ f97 14 [al7] func97 λo x hd _ _ h=>?_;obtain⟨(l:aa af),(x:af),_⟩:=x;have vC:=pP h 0 l;change l.length<=1000000 at hd;refine go (pr:=(l.length<=1000000)) [] h hd ?_;exact jW ((hasB l x:ak),()) rfl
def ajV:lM aR:=plain ajU
theorem acX:kr aR 74 [(aD,D9),(aD,CP)] [.int] (λx=>tU (I_ x.1.1)) (λx=>(j6 (I_ x.1.1) (E_ x.1.2) (J_ x.2.1.1) (J_ x.2.1.2),())):=by
 refine kJ f74 58 [ajV,Sa,Zj] func74 λo x hd _ _ h=>?_;obtain⟨⟨(n:af),(E:aa (af×af))⟩,⟨(V:aa af),(L:aa af)⟩,_⟩:=x;have vC:=LS h 0 E;have uB:=pP h 1 V;have rI:=pP h 2 L;change tU n at hd;have hn:=hd;refine go (pr:=(tU n)) [] h hn ?_;refine pY (p:=kz n E=0) (λq1=>?_) λq1=>?_
 .refine jQ ?_;exact jW ((kz n E:af),()) (bh (·,()) (show(kz n E)=j6 n E V L from(aQ q1).symm))
 refine jY (pr:=av/\(((aE (mC V n))=aC)->av)) ⟨tv,λ_=>trivial⟩ ?_;refine jZ (λ(q2:((aE (mC V n))=aD)\/((aE (mC L (aM E:af)))=aD))=>?_) (λ(q2:((aE (mC V n))=aC)/\((aE (mC L (aM E:af)))=aC))=>?_)
 .refine jQ ?_;exact jW (((4:af):af),()) (bh (·,()) (show((4:af))=j6 n E V L from by unfold j6;rw[aP (by omega),aQ (q2.imp bL bL)]))
 have VU:=l6 (n:=n) (E:=E) q1;have hr1:mC V n:=bq q2.1;have UY:mC L (aM E:af):=bq q2.2;have hv9:=nk hr1 (by omega);have hl9:=nk UY (by omega);refine jQ ?_;refine Ar L (λi=>⟨[(2,ep 0),(3,ep 1),(29,eo 2),(30,en (aM L:af)),(31,en i)],[(0,az (.box 55 [.v (.int .i64 n),.own 3])),(1,az (.box 26 [.own 4,.own 2])),(2,az (.ar .int L)),(3,az (.ar CO E)),(4,az (.ar .int V))],5⟩) (λi=> ∀j:ah,(j:af)<i->(hasB V (E.getD (L.getD j 0).toNat (0,0)).1=aC/\hasB V (E.getD (L.getD j 0).toNat (0,0)).2=aC)) (rk [3,4099,2,0,1]) (λj hj=>by omega) λi _ mR i0 i1 i2=>?_;refine jQ ?_;refine jR (p:=i<(aM L:af)) (λq3=>?_) λq3=>?_
 .have hx:=UY i.toNat (by omega);refine jY (pr:=(j8 i L.length)/\(j8 (L.getD i.toNat 0) E.length)/\(V.length<=1000000)/\(((hasB V ((E.getD (L.getD i.toNat 0).toNat (0,0)).1))=aC)->(j8 (L.getD i.toNat 0) E.length))/\(((hasB V ((E.getD (L.getD i.toNat 0).toNat (0,0)).1))=aC)->(V.length<=1000000))) ⟨bx,bx,by omega,λ_=>bx,λ_=>by omega⟩ ?_;refine jZ (λ(q4:((hasB V ((E.getD (L.getD i.toNat 0).toNat (0,0)).1))=aD)\/((hasB V ((E.getD (L.getD i.toNat 0).toNat (0,0)).2))=aD))=>?_) (λ(q4:((hasB V ((E.getD (L.getD i.toNat 0).toNat (0,0)).1))=aC)/\((hasB V ((E.getD (L.getD i.toNat 0).toNat (0,0)).2))=aC))=>?_)
  .refine jQ ?_;exact jW (((4:af):af),()) (bh (·,()) (show((4:af))=j6 n E V L from by unfold j6;rw[aP (by omega),aP (by rintro(q|q);exact q hr1;exact q UY),aP (λq:CY E V L=>by have z:=q i.toNat (by omega);rcases q4 with y|y;rw[z.1] at y;cases y;rw[z.2] at y;cases y)]))
  refine jY (pr:=(jX .i64 (i+1))) kC ?_;exact oa (mR (ir 5) (λj hj=>if z:(j:af)<i then i2 j z else by rw[show j=i.toNat by omega];exact q4))
 refine jQ ?_;exact jW (((0:af):af),()) (bh (·,()) (show((0:af))=j6 n E V L from by unfold j6;rw[aP (by omega),aP (by rintro(q|q);exact q hr1;exact q UY),aQ (show CY E V L from λj hj=>i2 j (by omega))]))
def KQ:lM aR:=plain acX
end Go.Proofs.YtnfdimfepbbbpaaGreatDoor
namespace Go.Proofs.YtnfdimfepbbbpaaGreatDoor
open Go.RowKit
open Go.Lib Go.Proofs.YtnfdimfepbbbpaaGreatDoor.Deep Go.Sort
theorem Zm {S:jv}{w:aN}(l:aa af):kR S w (l.map (cj .i64)) l:=by
 refine⟨by show _=l.length*1;simp,λi hi=>?_⟩;show((l.map (cj .i64)).drop (i*1)).take 1=[.int .i64 l[i]];rw[Nat.mul_one,List.drop_eq_getElem_cons (by simpa using hi),List.take_succ_cons,dJ];simp
theorem U3 {o:Orig}{w:aN}{S:jv}{rs:aa sD}(H:Fr o w S rs){v:aO}{l:aa af}(hv:Rd (· <w.heap.size) w v l)(hl:l.length<=1000000000):
  aI aR 48 #[v] w λe w'=> ∃u,e= .returned u/\Fr o w' S (.row 3 u l::rs)/\Below w.heap.size w w':=by
 obtain⟨p,c,rfl,h1,h2,h3⟩:=lz hv;have acY:∀(u:aO) (w':aN) (xs:aa aO),w'.ownsRow w.heap.size 3 1 u l.length xs->xs=l.map (cj .i64)->Below w.heap.size w w'->Fr o w' S (.row 3 u l::rs):=by
  intro u w' xs pX hxs hb;refine(H.on hb).put _ ⟨xs,⟨pX.1,?_⟩,by rw[hxs];exact Zm l⟩ λb rN=>?_
  .rcases pX.2 with h|⟨g,cap,cur,e1,e2,rest⟩
   .exact .inl h
   exact .inr ⟨g,cap,cur,e1,bQ _,rest⟩
  rcases pX.2 with⟨h,_⟩|⟨g,cap,cur,e1,e2,e3,_⟩
  .rw[h] at rN;cases rN
  rw[e1] at rN;have e9:g=b:=b5 rN;have rG:g<w'.heap.size:=(di.1 e3).1;rw[<-e9];exact⟨bC H.below.size e2,rG,λhs=>by have:=H.pT g hs;omega,λr hr e=>by have:=(H.own r hr g e).2.1;omega⟩
 cases p with
 |none=>
  have:l=[]:=by
   rcases h3 with h|⟨g,off,cur,t,fz,h,_⟩
   .exact h
   cases h
  subst this;refine(Tryz.slices_Clone_int_nil 0 c w).mono λe w' ⟨he,hw⟩=>⟨_,he,?_,?_⟩
  .subst hw;exact H.newRow 3
  subst hw;exact Below.refl _ _
 |some a=>
  by_cases hz:l=[]
  .subst hz;refine(Tryz.slices_Clone_int_zero a c w).mono λe w' ⟨u,he,pX,_,hb⟩=>⟨u,he,acY u w' [] pX rfl hb,hb⟩
  rcases h3 with h|⟨g,off,cur,t,fz,h,hg,hw,hc⟩
  .exact ay h hz
  cases h;refine(Tryz.slices_Clone_int g off l.length c l w (aW _) (by omega) λj hj=>?_).mono λe w' ⟨u,he,pX,_,hb⟩=>⟨u,he,acY u w' _ pX (by rw[cg]) hb,hb⟩;obtain⟨cs,hr,hq⟩:=hc j hj;have hr:cs=[.int .i64 l[j]]:=hr;have:=hq 0 (show 0<1 by decide);rw[hr] at this;rw[aK w g _ cur t fz hw];have e:off+j*Data.size af+0=off+j:=by show off+j*1+0=_;omega
  rw[e] at this;rw[this];simp[bD,bN hj]
theorem acZ:kr aR 48 [(aD,.list .int)] [.list .int] (λx=>(show aa af from x.1).length<=1000000) (λx=>(show aa af from x.1,())):=by
 intro o vs x hx hd
 match vs,hx with
 |[v],hx=>
  refine(U3 (Fr.start o) (v:=v) (l:=show aa af from x.1) hx.1 (bC hd (by decide))).mono λe w' ⟨u,he,H,hb⟩=>⟨u,he,?_,hb⟩;exact H.afV 0 rfl
def Sb:lM aR:=plain acZ
end Go.Proofs.YtnfdimfepbbbpaaGreatDoor
namespace Go.Proofs.YtnfdimfepbbbpaaGreatDoor
open Go.RowKit
open Go.Proofs.YtnfdimfepbbbpaaGreatDoor.Deep
theorem NS {r:ai xQ}{ds:aa af}{out:aa (af×aa af)}:∀ {k:ah},k<=ds.length->∃sub:aa af,sub.Sublist (ds.take k)/\(nt r ds out k).2.map (·.1)=out.map (·.1)++sub
 |0,_=>⟨[],List.nil_sublist _,(bW _).symm⟩
 |k+1,h=>by
  obtain⟨sub,h1,h2⟩:=NS (r:=r) (ds:=ds) (out:=out) (k:=k) (by omega)
  grind [pR,sub,uu,nt,cx,List.sublist_append_left]
theorem Sd {V:aa af}{T:aa (aa af)}(hV:V.Nodup):∀ {k:ah},k<=V.length->((DP V T k).map (·.1)).Nodup/\∀x∈(DP V T k).map (·.1),∃j,j<k/\x= -1-V.getD (V.length-1-j) 0
 |0,_=>⟨anI,λx hx=>by cases hx⟩
 |k+1,h=>by
  obtain⟨h1,h2⟩:=Sd (T:=T) hV (k:=k) (by omega);unfold DP;split
  .rw[cA];refine⟨an5.2 ⟨h1,by simp,λa ha b hb=>?_⟩,λx hx=>?_⟩
   .obtain⟨j,hj,e⟩:=h2 a ha;rw[bO,cC,aU] at hb;intro q;rw[e,hb] at q;have:=pQ (z:=0) hV (show V.length-1-j<V.length by omega) (show V.length-1-k<V.length by omega) (by omega);omega
   rcases bE.1 hx with q|q
   .obtain⟨j,hj,e⟩:=h2 x q;exact⟨j,by omega,e⟩
   rw[bO,cC,aU] at q;exact⟨k,dU _,q⟩
  exact⟨h1,λx hx=>let⟨j,hj,e⟩:=h2 x hx;⟨j,by omega,e⟩⟩
theorem Zn {n:af}{E:aa (af×af)}{V L:aa af}{T:aa (aa af)}(h:(jm n E V L T).2=0):((jm n E V L T).1.map (·.1)).Nodup:=by
 have hw:=h;rw[uD] at h;obtain⟨hp,hT,hr⟩:=C1 h;obtain⟨hrt,hV,hL,_⟩:=kA hp;have hVn:=mw (jC.1 hV).1;have hLn:=mw (jC.1 hL).1;rw[wU h];obtain⟨sub,h1,h2⟩:=NS (r:=(nR n E V L T).1) (ds:=oO L L.length) (out:=DP V T V.length) (aW _);show(((nt _ _ _ _).2).map (·.1)).Nodup;rw[h2];obtain⟨l1,l2⟩:=Sd (T:=T) hVn (aW V.length);refine an5.2 ⟨l1,?_,λa ha b hb q=>?_⟩
 .rw[cg] at h1;exact(zL hLn (aW _)).sublist h1
 obtain⟨j,hj,e⟩:=l2 a ha;have G3:=(nY b).1 (dQ (h1.subset hb));have v0:=(jC.1 hV).2 _ (jz (l:=V) (i:=V.length-1-j) (d:=0) (by omega));have b0:=(jC.1 hL).2 _ G3;omega
theorem Gl {ow:aa (af×af)}{S:aa (aa af)}{N:ah}:∀ {i:ah} {z:S4×aa (af×af)},tg ow S N i=az z->∀j,0<j->j<i->(S.getD (j-1) []).getD 0 0<(S.getD j []).getD 0 0
 |0,z,_,j,_,hj=>by omega
 |i+1,z,h,j,h0,hj=>by
  have h:(tg ow S N i).bind (λs=>y7 ow S s i)=az z:=h;cases hq:tg ow S N i with
  |none=>rw[hq] at h;cases h
  |some y=>
   by_cases e:j=i
   .grind [y7,Int.lt_of_not_ge]
   exact Gl hq j h0 (by omega)
theorem Se {f:ah->af}{N:ah}(h:∀j,0<j->j<N->f (j-1)<f j):∀ {i j:ah},i<j->j<N->f i<f j
 |i,0,hi,_=>by omega
 |i,j+1,hi,hj=>by
  have h1:=h (j+1) (by omega) hj;rw[Nat.add_sub_cancel] at h1;rcases Nat.lt_succ_iff_lt_or_eq.1 hi with z|z
  .exact Int.lt_trans (Se h z (by omega)) h1
  grind
theorem rq {n:af}{E:aa (af×af)}{V L:aa af}{T S:aa (aa af)}(h:vN n E V L T S=0):sO n E V L T=0/\∃s,tg (kM E (jy n E V L) (jm n E V L T).1 (jm n E V L T).1.length) S (jy n E V L).length S.length=az s/\s.1.2.2.2<=1:=by
 by_cases hf:sO n E V L T=0
 .refine⟨hf,?_⟩;cases hq:tg (kM E (jy n E V L) (jm n E V L T).1 (jm n E V L T).1.length) S (jy n E V L).length S.length with
  |none=>rw[rK hf hq] at h;cases h
  |some s=>
   grind [AY]
 rw[Ga hf] at h;exact ay h hf
end Go.Proofs.YtnfdimfepbbbpaaGreatDoor
