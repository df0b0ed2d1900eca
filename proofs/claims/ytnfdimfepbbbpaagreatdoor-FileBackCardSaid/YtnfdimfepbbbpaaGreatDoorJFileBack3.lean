/- Texts joined by program: lemmas. -/
import Derived.Test.YtnfdimfepbbbpaaGreatDoorJFileBack2
import Derived.Test.YtnfdimfepbbbpaaGreatDoorProg
import Derived.Tactics
import Derived.Tactics2
import Derived.Defers
import Derived.Recover
import Derived.Laws.Pointers
import Derived.Lib.SlicesCompact
import Derived.Lib.RowBridge
import Derived.Shelf.Strings.Builder1
import Derived.Shelf.Strings.OnBuilder
import Derived.Ground.NamesProg
import Derived.Ground.Names2Prog
import Derived.Shelf.Slices.Clone
import Derived.Shelf.Sort.Plain
import Derived.Shelf.Slices.In.SortNone
import Derived.Shelf.Strings.SlTrimAscii
import Derived.Shelf.Strings.Prefix
import Derived.Shelf.SlIterI.Nil
import Derived.Ground.GgzProg
set_option linter.unusedSimpArgs false
set_option linter.unusedVariables false
set_option maxRecDepth 100000
set_option maxHeartbeats 8000000
open Array renaming getElem?_eq_some_iff->cI,length_toList->cz
open Bool renaming and_eq_true->aQ,not_eq_true'->ali,or_eq_true->dP
open ByteArray renaming data_append->cR,ext->eE
open Classical renaming byContradiction->bT,not_not->eu
open Go renaming World->aa,Value->af,TypeId->ax,Program->az,FuncId->bB
open Go.Builtin renaming append_->akC
open Go.Extern.AbiNoEscape renaming same->apc
open Go.Instr renaming lookup->dR
open Go.Lib renaming join->akL
open Go.Oper renaming upon_value->alg
open Go.Proofs.Tryz renaming prog->aq
open Go.Result renaming andThen->bR,andThen_ok->bY
open Go.Utf8 renaming decode->aJ
open Go.Value renaming agg->amm,int->bI,pointer->cC
open Go.World renaming shape?->aoF
open Int renaming le_refl->bM,le_total->alV,max_eq_left->amq,max_eq_right->amo,min_eq_left->amr,min_eq_right->ams,toNat_natCast->cH,toNat_of_nonneg->cA
open List renaming all_cons->am7,all_eq_true->aY,append_assoc->bC,append_nil->bq,countP_append->anp,countP_cons->alG,countP_eq_zero->aow,ext_getElem->dZ,filter_append->ans,filter_cons_of_neg->amw,filter_cons_of_pos->aoA,flatMap_cons->cx,flatten_append->cK,flatten_cons->alW,flatten_nil->amt,foldl_append->dm,foldl_cons->dG,foldl_nil->aov,getD_eq_getElem?_getD->aH,getElem?_append->am8,getElem?_append_left->cX,getElem?_append_right->cY,getElem?_eq_getElem->aR,getElem?_eq_none->cN,getElem?_eq_some_iff->b7,getElem?_map->cm,getElem?_set->anm,getElem?_take->bP,getElem?_zip_eq_some->alU,getElem_mem->cU,getElem_of_mem->akN,length_append->aO,length_cons->bA,length_drop->bw,length_filter_le->amc,length_map->aV,length_nil->cq,length_set->bS,length_singleton->cP,length_take->aX,map->amn,map_append->bX,map_congr_left->dg,map_cons->bn,map_map->cn,map_nil->b9,mem_append->aI,mem_append_left->aS,mem_append_right->bl,mem_cons->aC,mem_cons_of_mem->aE,mem_cons_self->aA,mem_filter->cB,mem_flatMap->cy,mem_iff_getElem?->akA,mem_map->aN,mem_of_getElem?->bO,mem_of_mem_drop->dV,mem_of_mem_take->dh,mem_or_eq_of_mem_set->anf,mem_range->cg,mem_singleton->av,nil_append->cT,nodup_append->dF,nodup_cons->akO,nodup_nil->akK,not_mem_nil->ak6,pairwise_cons->akJ,pairwise_iff_getElem->akB,perm_append_comm->aou,range->bH,range_succ->alY,replicate->cO,set_append->aoC,take_add_one->amu,take_append_drop->dO,take_length->bL,take_of_length_le->cM,take_succ_eq_append_getElem->eC
open List.Sublist renaming map->apb
open List.cons renaming inj->dW
open Nat renaming add_mod_right->aox,beq->aK,blt->bp,blt_eq->bW,le_of_not_lt->akR,le_refl->ay,le_succ_of_le->anq,le_trans->aU,lt_of_lt_of_le->bf,lt_succ_self->cQ,mod_add_mod->aoy,mod_eq_of_lt->alC,mod_lt->akz,sub_self->cZ,sub_zero->anl,succ_le_succ->amZ,succ_mul->bZ,zero_add->cG,zero_le->bu
open Option renaming getD_some->dA,isSome_iff_exists->bD,map_eq_some_iff->aZ
open Option.some renaming inj->bz
open Go.Proofs.Tryz
namespace Go.Proofs.YtnfdimfepbbbpaaGreatDoor
open Go.RowKit
inductive Cp where
 |int
 |bool
 |str
 |own (j:Nat)
 |mp (j:Nat)
 |ptr (j off:Nat)
 |r9 (f:bB) (jL:List (Nat×Nat))
 |U7
 |U8
def CpV:Cp->Type
 | .int=>Int
 | .bool=>Bool
 | .str=>ByteArray
 |_=>Unit
def Cp.sc:(c:Cp)->CpV c->Sc
 | .int,n=>.v (.int .i64 n)
 | .bool,b=>.b (.raw b)
 | .str,s=>.v (.string s)
 | .own j,_=>.own j
 | .mp j,_=>.mp j
 | .ptr j off,_=>.ptr j off
 | .r9 f jL,_=>.r9 f jL
 | .U7,_=>.v (.pointer none)
 | .U8,_=>.v (.slice none 0 0)
def Cp.below (k:Nat):Cp->Bool
 | .own j=>bp j k
 | .mp j=>bp j k
 | .ptr j _=>bp j k
 | .r9 _ jL=>jL.all λc=>bp c.1 k
 |_=>true
def Fu:List Cp->Type
 |[]=>Unit
 |c::cs=>CpV c×Fu cs
def pK:(cs:List Cp)->Fu cs->List Sc
 |[],_=>[]
 |c::cs,x=>c.sc x.1::pK cs x.2
inductive Pc where
 |box (t:ax) (cs:List Cp)
 |row (e:ax) (t:Ty)
 |map (k:Kc) (t:Ty)
 |rd (t:Ty)
 |sZ (e:ax)
 |any
 |CL
 |kP (q:Nat) (k:Kc) (t:Ty) (ie:ax)
 |nest (q:Nat) (e:ax) (t:Ty) (ie:ax)
def Pc.adK:Pc->Bool
 | .rd _=>true
 | .any=>true
 |_=>false
def Pc.skip:Pc->Bool
 | .any=>true
 | .CL=>true
 |_=>false
def Fv (l:List Pc)(j:Nat):Bool:=match l[j]? with
 |some s=>s.adK
 |none=>false
def PcV:Pc->Type
 | .box _ cs=>Fu cs
 | .row _ t=>List (El t)
 | .map k t=>iI k (El t)
 | .rd t=>List (El t)
 | .sZ _=>ByteArray
 | .any=>Unit
 | .CL=>Unit
 | .kP _ k t _=>iI k (List (El t))
 | .nest _ _ t _=>List (El t)
def Pc.r2:(s:Pc)->PcV s->R2
 | .box t cs,x=>.box t (pK cs x)
 | .row e t,l=>.row e t l
 | .map k t,m=>.map k t m
 | .rd t,l=>.ar t l
 | .sZ e,l=>.ext (.sZ e l)
 | .any,_=>.box 0 []
 | .CL,_=>.box 0 []
 | .kP q k t ie,m=>.ext (.kP q k none t ie m)
 | .nest q e t ie,l=>.ext (.nest q none e t ie l)
def Pc.below (k:Nat):Pc->Bool
 | .box _ cs=>cs.all (Cp.below k)
 | .kP q _ _ _=>bp q k
 | .nest q _ _ _=>bp q k
 |_=>true
def zZ:List Pc->Type
 |[]=>Unit
 |s::l=>PcV s×zZ l
def mD:Nat->(l:List Pc)->zZ l->List (Nat×Option R2)
 |_,[],_=>[]
 |i,s::l,x=>match s.skip with
  |true=>mD (i+1) l x.2
  |false=>(i,some (s.r2 x.1))::mD (i+1) l x.2
structure uV where
 sh:List Pc
 ar:List Cp
 ug:List Pc
 rs:List Cp
 kp:Nat
 ag:Bool
 ga:List (Option Nat)
def uV.X (m:uV):Type:=zZ m.sh×Fu m.ar
def uV.Y (m:uV):Type:=zZ m.ug×Fu m.rs
def syl (ag:Bool)(cs:List Sc):List Sy:=match ag with
 |false=>cs.map Sy.one
 |true=>[.agg cs]
def Mz:List (Option Nat)->List Sc->List Sy
 |none::g,c::cs=>.one c::Mz g cs
 |none::_,[]=>[]
 |some k::g,cs=>.agg (cs.take k)::Mz g (cs.drop k)
 |[],cs=>cs.map Sy.one
def uV.rsy (m:uV)(y:m.Y):List Sy:=syl m.ag (pK m.rs y.2)
def jh.ZO (o:jh)(A:ju)(kp:Nat):jh:={o with pF:=λj=>j<kp,pA:=A,kp:=kp}
def Rk (o:jh)(A:ju)(m:uV)(y:m.Y)(e:Ending)(w':aa):Prop:=
 ∃v,e= .returned v/\∃A' S',kD (· <m.kp) A A'/\nK (o.ZO A m.kp) w' S' (iZ A' (iP (λ_=>none) (mD 0 m.ug y.1)))/\v=Np ((m.rsy y).map (Sy.den A'))
def lH (P:az)(f:bB)(m:uV)(wA:m.X->Prop)(fx:m.X->m.Y):Prop:=
 ∀(o:jh) (A:ju) (x:m.X),nK (o.ZO A m.kp) o.w o.S (iZ A (iP (λ_=>none) (mD 0 m.sh x.1)))->(∀j y,iP (λ_=>none) (mD 0 m.sh x.1) j=some y->zM (o.ZO A m.kp) A j y)->wA x->
  Calls P f ((Mz m.ga (pK m.ar x.2)).map (Sy.den A)).toArray o.w (Rk o A m (fx x))
section
variable {P:az}{o:jh}{n:Nat}{A A':ju}{S S':iF}{F G:Nat->Prop}{s:Nat->Option E2}{r:Nat->Option R2}{a:Act}{w w':aa}{T:List (kG P)}
theorem kZ {sp:Pc}{l:List Pc}{i:Nat}{x:zZ (sp::l)}{p:Nat×Option R2}(h:p∈mD i (sp::l) x):(sp.skip=false/\p=(i,some (sp.r2 x.1)))\/p∈mD (i+1) l x.2:=by
 unfold mD at h;split at h
 .exact .inr h
 rename_i e;exact(aC.1 h).imp (λq=>⟨e,q⟩) id
theorem Nq {sp:Pc}{l:List Pc}{i:Nat}{x:zZ (sp::l)}{p:Nat×Option R2}(h:p∈mD (i+1) l x.2):p∈mD i (sp::l) x:=by
 unfold mD;split
 .exact h
 exact aE _ h
theorem tB:∀ {l:List Pc} {i:Nat} {x:zZ l} {j:Nat} {z:Option R2},(j,z)∈mD i l x->i<=j/\j<i+l.length
 |[],_,_,_,_,h=>by cases h
 |s::l,i,x,j,z,h=>by
  rcases kZ h with⟨_,e⟩|h
  .cases e;simp
  have:=tB h;simp only[bA];omega
theorem Bg:∀ {l:List Pc} {i:Nat} {x:zZ l} {j:Nat},i<=j->j<i+l.length->(∃s,l[j-i]?=some s/\s.skip=true)\/∃s v,s∈l/\(j,some (Pc.r2 s v))∈mD i l x
 |[],i,_,j,h1,h2=>by simp only[cq] at h2;omega
 |s::l,i,x,j,h1,h2=>by
  by_cases q:j=i
  .subst q;cases hs:s.skip with
   |true=>exact .inl ⟨s,by rw[cZ];rfl,hs⟩
   |false=>exact .inr ⟨s,x.1,aA,by unfold mD;rw[hs];exact aA⟩
  simp only[bA] at h2;rcases Bg (x:=x.2) (show i+1<=j by omega) (by omega) with⟨s',k1,k2⟩|⟨s',v,k1,k2⟩
  .exact .inl ⟨s',by rw[show j-i=j-(i+1)+1 by omega];exact k1,k2⟩
  exact .inr ⟨s',v,aE _ k1,Nq k2⟩
theorem KG:∀ {l:List Pc} {i:Nat} {x:zZ l} {j:Nat} {z:Option R2},(j,z)∈mD i l x->∃s v,s∈l/\z=some (Pc.r2 s v)
 |[],_,_,_,_,h=>by cases h
 |s::l,i,x,j,z,h=>by
  rcases kZ h with⟨_,e⟩|h
  .cases e;exact⟨s,x.1,aA,rfl⟩
  obtain⟨s',v,k1,k2⟩:=KG h;exact⟨s',v,aE _ k1,k2⟩
theorem pX:∀ {re:List (Nat×Option R2)} {j:Nat} {x:R2},iP (λ_=>none) re j=some x->(j,some x)∈re:=by
 intro re
 induction re with
 |nil=>intro j x h;cases h
 |cons p re ih=>
  intro j x h;have h:qJ (iP (λ_=>none) re) p.1 p.2 j=some x:=h
  by_cases q:p.1=j
  .subst q;rw[ku] at h;rw[<-h];exact aA
  rw[lF q] at h;exact aE _ (ih h)
theorem Bh:∀ {l:List Pc} {i:Nat} {x:zZ l} {j:Nat} {z:Option R2} {r0:Nat->Option R2},(j,z)∈mD i l x->iP r0 (mD i l x) j=z
 |[],_,_,_,_,_,h=>by cases h
 |s::l,i,x,j,z,r0,h=>by
  rcases kZ h with⟨q,e⟩|h
  .cases e;unfold mD;rw[q];show qJ (iP r0 (mD (i+1) l x.2)) i (some (s.r2 x.1)) i=_;rw[ku]
  have:=tB h;unfold mD;split
  .exact Bh h
  show qJ (iP r0 (mD (i+1) l x.2)) i (some (s.r2 x.1)) j=z;rw[lF (by omega)];exact Bh h
theorem uW {k:Nat}:∀ {cs:List Cp} {x:Fu cs},cs.all (Cp.below k)=true->∀c∈pK cs x,c.all (· <k)/\∀A,c.jW A
 |[],_,_,_,h=>by cases h
 |c::cs,x,h,d,hd=>by
  rw[am7,aQ] at h;rcases aC.1 hd with rfl|hd
  .cases c with
   |r9 f jL=>exact⟨λc hc=>by have:=aY.1 h.1 c hc;simpa[bW] using this,λ_=>trivial⟩
   |own j=>exact⟨by have:=h.1;show j<k;simpa[Cp.below,bW] using this,λ_=>trivial⟩
   |mp j=>exact⟨by have:=h.1;show j<k;simpa[Cp.below,bW] using this,λ_=>trivial⟩
   |ptr j off=>exact⟨by have:=h.1;show j<k;simpa[Cp.below,bW] using this,λ_=>trivial⟩
   |_=>exact⟨tv,λ_=>trivial⟩
  exact uW h.2 d hd
theorem Pc.U9 {k:Nat}{s:Pc}{v:PcV s}(h:s.below k=true):(s.r2 v).all (· <k)/\∀A,(s.r2 v).jW A:=by
 cases s with
 |box t cs=>exact⟨λc hc=>(uW h c hc).1,λA c hc=>(uW h c hc).2 A⟩
 |any=>exact⟨λc hc=>(by cases hc),λA c hc=>(by cases hc)⟩
 |CL=>exact⟨λc hc=>(by cases hc),λA c hc=>(by cases hc)⟩
 |kP q k' t ie=>exact⟨by show q<k;simpa[Pc.below,bW] using h,λ_=>trivial⟩
 |nest q k' t ie=>exact⟨by show q<k;simpa[Pc.below,bW] using h,λ_=>trivial⟩
 |_=>exact⟨tv,λ_=>trivial⟩
theorem nK.gv {f:Nat->Option Rs}{kp:Nat}(h:nK o w S f):nK (o.ZO A kp) w S f:=⟨h.sw,h.src,h.nO,h.ok,h.own,h.apart⟩
theorem nK.aiQ {f:Nat->Option Rs}{kp:Nat}(h:nK (o.ZO A kp) w S f):nK o w S f:=⟨h.sw,h.src,h.nO,h.ok,h.own,h.apart⟩
theorem Ip:∀ {g:List (Option Nat)} {cs:List Sc},(Mz g cs).length<=g.length+cs.length
 |none::g,c::cs=>by have:=Ip (g:=g) (cs:=cs);simp only[Mz,bA];omega
 |none::_,[]=>by simp[Mz]
 |some k::g,cs=>by have:=Ip (g:=g) (cs:=cs.drop k);simp only[Mz,bA,bw] at*;omega
 |[],cs=>by simp[Mz]
theorem Iq {p:Sc->Prop}:∀ {g:List (Option Nat)} {cs:List Sc},(∀c∈cs,p c)->∀y∈Mz g cs,(∃c,y= .one c/\p c)\/∃l,y= .agg l/\∀c∈l,p c
 |none::g,c::cs,h,y,hy=>by
  rcases aC.1 hy with rfl|hy
  .exact .inl ⟨c,rfl,h _ aA⟩
  exact Iq (g:=g) (λc hc=>h c (aE _ hc)) y hy
 |none::_,[],_,y,hy=>by cases hy
 |some k::g,cs,h,y,hy=>by
  rcases aC.1 hy with rfl|hy
  .exact .inr ⟨_,rfl,λc hc=>h c (dh hc)⟩
  exact Iq (g:=g) (λc hc=>h c (dV hc)) y hy
 |[],cs,h,y,hy=>by
  obtain⟨c,hc,rfl⟩:=aN.1 hy;exact .inl ⟨c,rfl,h c hc⟩
def stM (m:uV)(x:m.X):mK:=⟨yH 0 (Mz m.ga (pK m.ar x.2)),mD 0 m.sh x.1,m.sh.length⟩
theorem lJ {f:bB}(fn:Func)(n:Nat)(T:List (kG P))(m:uV){wA:m.X->Prop}{fx:m.X->m.Y}(hf:P.funcs[f]?=some fn)
  (k:∀(o:jh) (A:ju) (x:m.X),wA x->∀a w,kX (o.ZO A m.kp) n (stM m x) a w->At pl P T (fn.body.getD .skip) (bodyPost P fn (Rk o A m (fx x))) [.run []] a w)
  (hb:fn.body.isSome=true:=by kernel_rfl) (hn:fn.ntmps=n:=by kernel_rfl) (hl:decide (m.ga.length+m.ar.length<=n)=true:=by kernel_rfl)
  (hw:(decide (m.kp<=m.sh.length) && (m.ar.all (Cp.below m.sh.length) && m.sh.all (Pc.below m.sh.length)))=true:=by kernel_rfl):lH P f m wA fx:=by
 intro o A x adL har HS;simp only[aQ,decide_eq_true_eq] at hw;have⟨ZP,Rm,Fw⟩:=hw;have hlen:(pK m.ar x.2).length=m.ar.length:=by
  have:∀(cs:List Cp) (x:Fu cs),(pK cs x).length=cs.length:=by
   intro cs
   induction cs with
   |nil=>intro _;rfl
   |cons c cs ih=>intro x;simp[pK,ih]
  exact this _ _
 refine enter fn n hf (λa ha=>?_) hb hn (by rw[aV];have h1:=Ip (g:=m.ga) (cs:=pK m.ar x.2);have h2:=aP hl;rw[hlen] at h1;exact bN (by omega));have qx:∀t e,qL (stM m x) t=some e->e.ch=[]/\∃y,(Mz m.ga (pK m.ar x.2))[t]?=some y/\e=⟨[],y⟩:=λt e he=>by
  obtain⟨_,y,q1,q2⟩:=sN he;have q1:(Mz m.ga (pK m.ar x.2))[t-0]?=some y:=q1;rw[anl] at q1;exact⟨by rw[q2],y,q1,q2⟩
 have rW:kX (o.ZO A m.kp) n (stM m x) a o.w:=by
  refine⟨⟨A,o.S,ha.1,ha.2.1,λt e he=>?_,λt e he _=>?_,λj y hj=>?_,adL,har,⟨λj q=>bf (show j<m.kp from q) ZP,kD.refl _ _⟩⟩,λt e he=>(qx t e he).1,λ_ q=>q⟩
  .obtain⟨_,c,q1,rfl⟩:=qx t e he;have Il:=(b7.1 q1).1;refine ha.2.2 ⟨t,[],Sy.den A c⟩ (aN.2 ⟨(t,Sy.den A c),?_,rfl⟩);refine akA.2 ⟨t,?_⟩;rw[alU];exact⟨by simp[Il],by rw[cm,q1];rfl⟩
  .obtain⟨_,c,q1,rfl⟩:=qx t e he;rcases Iq (p:=λc=>c.all (· <m.sh.length)/\∀A,c.jW A) (uW Rm) c (bO q1) with⟨c',rfl,h1,h2⟩|⟨l,rfl,h1⟩
   .exact⟨h1,h2 A⟩
   exact⟨λc hc=>(h1 c hc).1,λc hc=>(h1 c hc).2 A⟩
  have hm:=pX hj;have hk:=tB hm;obtain⟨s,v,q1,q2⟩:=KG hm;cases q2;have:=Pc.U9 (v:=v) (aY.1 Fw s q1);exact⟨by have:=hk.2;rwa[cG] at this,this.1,this.2 A⟩
 have:=(k o A x HS a o.w rW).get;have this:(sub (fn.body.getD .skip) []).qK pl P (post pl P (fn.body.getD .skip) (bodyPost P fn (Rk o A m (fx x))) []) a o.w:=this;exact DL.1 this
def Va:List ResultVar->List Sc->List (Nat×Option E2)
 | .tmp t::l,c::cs=>(t,some ⟨[],.one c⟩)::Va l cs
 |_,_=>[]
def ZQ (ag:Bool)(l:List ResultVar)(cs:List Sc):List (Nat×Option E2):=match ag,l with
 |true,.cell t _::_=>[(t,some ⟨[],.one (.ptr 0 0)⟩)]
 |_,l=>Va l cs
def KH (fn:Func)(m:uV)(y:m.Y):mK:=⟨ZQ m.ag fn.results.toList (pK m.rs y.2),mD 0 m.ug y.1,m.ug.length⟩
theorem mL {mo:Mode}{fn:Func}{m:uV}{fx:m.Y}{B:Code}{st:List It}{σ:mK}(y:m.Y)(ρ:List (Nat×Option Nat))(h:kX (o.ZO A m.kp) n σ a w)(e:y=fx)(ht:DR B st=true:=by kernel_rfl)
  (h1:kz ρ σ (KH fn m y):=by delta kz;kernel_rfl) (h2:lT ρ σ (KH fn m y):=by delta lT;kernel_rfl) (h3:qY ρ (KH fn m y)=true:=by kernel_rfl) (h4:yW ρ m.kp=true:=by kernel_rfl)
  (h5:(Cs P fn.results.toList λys=>.ret (ULift.up.{1} ys)).run (qL (KH fn m y)) (mI (KH fn m y))=some ⟨m.rsy y⟩:=by kernel_rfl):At mo P T B (bodyPost P fn (Rk o A m fx)) st a w:=by
 have hs:=uw ρ h h1 h2 h3 h4;obtain⟨⟨A',S',H⟩,h0,_⟩:=hs;subst e;obtain⟨ys,r1,r2⟩:=tw (P:=P) H h5;have r2:some (ULift.up.{1} ys)=some ⟨m.rsy y⟩:=r2;cases r2;have vA:=rU r1;have agj:Rk o A m y (.returned (Np ((m.rsy y).map (Sy.den A')))) w:=⟨_,rfl,A',S',H.zN.2,H.jd,rfl⟩;unfold DR at ht;split at ht
 .rename_i p r;refine⟨?_⟩;show(sub B p).qK mo P (post mo P B _ r) a w;have hc:sub B p= .ret:=by
   cases hc:sub B p<;>rw[hc] at ht<;>first|rfl|cases ht
  rw[hc];exact zU (rT (bodyPost_ret vA H.lD agj))
 .exact⟨bodyPost_end vA H.lD agj⟩
 cases ht
def Nr (ρ mG:List (Nat×Option Nat)):Prop:=∀j v,jt ρ j=some v->jt mG j=some v
theorem Nr.trans {a b c:List (Nat×Option Nat)}(h:Nr a b)(k:Nr b c):Nr a c:=λj v q=>k j v (h j v q)
theorem Vb {ρ:List (Nat×Option Nat)}{j:Nat}{v:Option Nat}(h:jt ρ j=none):Nr ρ ((j,v)::ρ):=λi u q=>by
 unfold jt;cases hb:aK j i with
 |true=>have:=jx hb;subst this;rw[h] at q;cases q
 |false=>exact q
theorem rq (ρ:List (Nat×Option Nat))(j:Nat)(v:Option Nat):jt ((j,v)::ρ) j=some v:=by
 unfold jt;rw[Nat.beq_refl]
def eqO:Option Nat->Option Nat->Bool
 |none,none=>true
 |some a,some b=>aK a b
 |_,_=>false
theorem agk:∀ {a b:Option Nat},eqO a b=true->a=b
 |none,none,_=>rfl
 |some a,some b,h=>by rw[jx h]
 |none,some _,h=>by cases h
 |some _,none,h=>by cases h
def z8 {α:Type 1}(ρ:List (Nat×Option Nat))(j:Nat)(v:Option Nat)(k:List (Nat×Option Nat)->Tr α):Tr α:=match jt ρ j with
 |none=>k ((j,v)::ρ)
 |some v'=>match eqO v' v with
  |true=>k ((j,v)::ρ)
  |false=>.fail
def O1 {α:Type 1}:List (Nat×Nat)->List (Nat×Nat)->List (Nat×Option Nat)->(List (Nat×Option Nat)->Tr α)->Tr α
 |[],[],ρ,k=>k ρ
 |c::l,d::l',ρ,k=>match aK c.2 d.2 with
  |true=>z8 ρ c.1 (some d.1) λρ=>O1 l l' ρ k
  |false=>.fail
 |_,_,_,_=>.fail
def sk {α:Type 1}:(c:Cp)->Sc->List (Nat×Option Nat)->(CpV c->List (Nat×Option Nat)->Tr α)->Tr α
 | .int,d,ρ,k=>match d with
  | .v (.int .i64 n)=>k n ρ
  |_=>.fail
 | .bool,d,ρ,k=>match d with
  | .b e=>k e.den ρ
  |_=>.fail
 | .str,d,ρ,k=>match d with
  | .v (.string z)=>k z ρ
  |_=>.fail
 | .own j,d,ρ,k=>match d with
  | .own q=>z8 ρ j (some q) (k ())
  | .v (.slice none 0 0)=>z8 ρ j none (k ())
  |_=>.fail
 | .mp j,d,ρ,k=>match d with
  | .mp q=>z8 ρ j (some q) (k ())
  |_=>.fail
 | .ptr j off,d,ρ,k=>match d with
  | .ptr q aiR=>match aK off aiR with
   |true=>z8 ρ j (some q) (k ())
   |false=>.fail
  |_=>.fail
 | .r9 f jL,d,ρ,k=>match d with
  | .r9 f' acq=>iX (aK f f') (O1 jL acq ρ (k ()))
  |_=>.fail
 | .U7,d,ρ,k=>match d with
  | .v (.pointer none)=>k () ρ
  |_=>.fail
 | .U8,d,ρ,k=>match d with
  | .v (.slice none 0 0)=>k () ρ
  |_=>.fail
def KI {α:Type 1}:(cs:List Cp)->List Sc->List (Nat×Option Nat)->(Fu cs->List (Nat×Option Nat)->Tr α)->Tr α
 |[],[],ρ,k=>k () ρ
 |c::cs,d::l,ρ,k=>sk c d ρ λv ρ=>KI cs l ρ λx=>k (v,x)
 |_,_,_,_=>.fail
def oX {α:Type 1}:Nat->(sh:List Pc)->List (Nat×Option Nat)->(zZ sh->List (Nat×Option Nat)->Tr α)->Tr α
 |_,[],ρ,k=>k () ρ
 |i,.box t cs::sh,ρ,k=>match jt ρ i with
  |some (some q)=>.res q λz=>match z with
   | .box t' l=>iX (aK t t') (KI cs l ρ λx ρ=>oX (i+1) sh ρ λxs=>k (x,xs))
   |_=>.fail
  |_=>.fail
 |i,.row e t::sh,ρ,k=>match jt ρ i with
  |some (some q)=>.res q λz=>match z with
   | .row e' t' l=>match oy (t:=.list t') (s:=.list t) (show El (.list t') from l) with
    |some l'=>iX (aK e e') (oX (i+1) sh ρ λxs=>k (l',xs))
    |none=>.fail
   |_=>.fail
  |some none=>oX (i+1) sh ρ λxs=>k ([],xs)
  |none=>.fail
 |i,.map kc t::sh,ρ,k=>match jt ρ i with
  |some (some q)=>.res q λz=>match z with
   | .map kc' t' l=>match oy (t:=.map kc' t') (s:=.map kc t) (show El (.map kc' t') from l) with
    |some l'=>oX (i+1) sh ρ λxs=>k (l',xs)
    |none=>.fail
   |_=>.fail
  |_=>.fail
 |i,.rd t::sh,ρ,k=>match jt ρ i with
  |some (some q)=>.res q λz=>match ob z with
   |some ⟨t',l⟩=>match oy (t:=.list t') (s:=.list t) (show El (.list t') from l) with
    |some l'=>oX (i+1) sh ρ λxs=>k (l',xs)
    |none=>.fail
   |none=>.fail
  |some none=>oX (i+1) sh ρ λxs=>k ([],xs)
  |none=>.fail
 |i,.sZ e::sh,ρ,k=>match jt ρ i with
  |some (some q)=>.res q λz=>match z with
   | .ext (.sZ e' l)=>iX (aK e e') (oX (i+1) sh ρ λxs=>k (l,xs))
   |_=>.fail
  |_=>.fail
 |i,.any::sh,ρ,k=>oX (i+1) sh ρ λxs=>k ((),xs)
 |i,.CL::sh,ρ,k=>oX (i+1) sh ρ λxs=>k ((),xs)
 |i,.kP q kc t ie::sh,ρ,k=>match jt ρ i with
  |some (some p)=>.res p λz=>match z with
   | .ext (.kP q' kc' none t' Fq m)=>match oy (t:=.map kc' (.list t')) (s:=.map kc (.list t)) (show El (.map kc' (.list t')) from m) with
    |some m'=>iX (aK ie Fq) (z8 ρ q (some q') λρ=>oX (i+1) sh ρ λxs=>k (m',xs))
    |none=>.fail
   |_=>.fail
  |_=>.fail
 |i,.nest q e t ie::sh,ρ,k=>match jt ρ i with
  |some (some p)=>.res p λz=>match z with
   | .ext (.nest q' none e' t' Fq l)=>match oy (t:=.list t') (s:=.list t) (show El (.list t') from l) with
    |some l'=>iX (aK ie Fq && aK e e') (z8 ρ q (some q') λρ=>oX (i+1) sh ρ λxs=>k (l',xs))
    |none=>.fail
   |_=>.fail
  |_=>.fail
def Ns (F:Nat->Prop)(ρ:List (Nat×Option Nat)):Prop:=∀j q,jt ρ j=some (some q)->F q
theorem Ns.nil (F:Nat->Prop):Ns F []:=λ_ _ h=>by cases h
theorem Ns.cons {F:Nat->Prop}{ρ:List (Nat×Option Nat)}(h:Ns F ρ){j:Nat}{v:Option Nat}(hv:∀q,v=some q->F q):Ns F ((j,v)::ρ):=λi q hq=>by
 unfold jt at hq;split at hq
 .exact hv q (bz hq)
 exact h i q hq
theorem ru {α:Type 1}{ρ:List (Nat×Option Nat)}{j:Nat}{v:Option Nat}{k:List (Nat×Option Nat)->Tr α}{out:α}(h:(z8 ρ j v k).run s r=some out):Nr ρ ((j,v)::ρ)/\(k ((j,v)::ρ)).run s r=some out:=by
 unfold z8 at h;split at h
 .rename_i hn;exact⟨Vb hn,h⟩
 rename_i v' hn;split at h
 .rename_i e;have e:=agk e;subst e;refine⟨λi u q=>?_,h⟩;unfold jt;cases hb:aK j i with
  |true=>have:=jx hb;subst this;rw[hn] at q;exact q
  |false=>exact q
 cases h
theorem Gz {α:Type 1}:∀ {l l':List (Nat×Nat)} {ρ:List (Nat×Option Nat)} {k:List (Nat×Option Nat)->Tr α} {out:α},(O1 l l' ρ k).run s r=some out->
  ∃mG,(k mG).run s r=some out/\Nr ρ mG/\(∀F:Nat->Prop,(∀c∈l',F c.1)->Ns F ρ->Ns F mG)/\∀A ot,Nr mG ot->(l.map λc=>cC (some ⟨(mA A ot).b c.1,c.2,none⟩))=l'.map λc=>cC (some ⟨A.b c.1,c.2,none⟩)
 |[],[],ρ,k,out,h=>⟨ρ,h,λ_ _ q=>q,λ_ _ q=>q,λ_ _ _=>rfl⟩
 |c::l,d::l',ρ,k,out,h=>by
  simp only[O1] at h;split at h
  .rename_i e;have e:=jx e;obtain⟨q1,h2⟩:=ru h;obtain⟨mG,h3,h4,h6,h5⟩:=Gz h2;refine⟨mG,h3,q1.trans h4,λF hF hi=>h6 F (λz hz=>hF z (aE _ hz)) (hi.cons λq e=>by cases e;exact hF d aA),λA ot q=>?_⟩;rw[bn,bn,h5 A ot q,(kS (A:=A) (q _ _ (h4 _ _ (rq _ _ _)))).2.1,e]
  cases h
 |[],_::_,_,_,_,h=>by cases h
 |_::_,[],_,_,_,h=>by cases h
theorem Nt {α:Type 1}{c:Cp}{d:Sc}{ρ:List (Nat×Option Nat)}{k:CpV c->List (Nat×Option Nat)->Tr α}{out:α}(h:(sk c d ρ k).run s r=some out):
  ∃v mG,(k v mG).run s r=some out/\Nr ρ mG/\(∀F:Nat->Prop,d.all F->Ns F ρ->Ns F mG)/\∀A ot,Nr mG ot->(c.sc v).den (mA A ot)=d.den A:=by
 cases c with
 |int=>
  simp only[sk] at h;split at h
  .exact⟨_,ρ,h,λ_ _ q=>q,λ_ _ q=>q,λ_ _ _=>rfl⟩
  cases h
 |bool=>
  simp only[sk] at h;split at h
  .exact⟨_,ρ,h,λ_ _ q=>q,λ_ _ q=>q,λ_ _ _=>rfl⟩
  cases h
 |str=>
  simp only[sk] at h;split at h
  .exact⟨_,ρ,h,λ_ _ q=>q,λ_ _ q=>q,λ_ _ _=>rfl⟩
  cases h
 |own j=>
  simp only[sk] at h;split at h
  .obtain⟨q1,h2⟩:=ru h;exact⟨(),_,h2,q1,λF hF hi=>hi.cons λq e=>(by cases e;exact hF),λA ot q=>(kS (A:=A) (q _ _ (rq _ _ _))).1⟩
  .obtain⟨q1,h2⟩:=ru h;exact⟨(),_,h2,q1,λF hF hi=>hi.cons λq e=>(by cases e),λA ot q=>DP (A:=A) (q _ _ (rq _ _ _))⟩
  cases h
 |mp j=>
  simp only[sk] at h;split at h
  .obtain⟨q1,h2⟩:=ru h;exact⟨(),_,h2,q1,λF hF hi=>hi.cons λq e=>(by cases e;exact hF),λA ot q=>by simp only[Cp.sc,Sc.den,(kS (A:=A) (q _ _ (rq _ _ _))).2.2.1]⟩
  cases h
 |ptr j off=>
  simp only[sk] at h;split at h
  .split at h
   .rename_i e;have e:=jx e;subst e;obtain⟨q1,h2⟩:=ru h;exact⟨(),_,h2,q1,λF hF hi=>hi.cons λq e=>(by cases e;exact hF),λA ot q=>by simp only[Cp.sc,Sc.den,(kS (A:=A) (q _ _ (rq _ _ _))).2.1]⟩
   cases h
  cases h
 |r9 f jL=>
  simp only[sk] at h;split at h
  .obtain⟨e,h1⟩:=iD h;have e:=jx e;subst e;obtain⟨mG,h2,h3,h5,h4⟩:=Gz h1;exact⟨(),mG,h2,h3,h5,λA ot q=>by simp only[Cp.sc,Sc.den,h4 A ot q]⟩
  cases h
 |U7=>
  simp only[sk] at h;split at h
  .exact⟨(),ρ,h,λ_ _ q=>q,λ_ _ q=>q,λ_ _ _=>rfl⟩
  cases h
 |U8=>
  simp only[sk] at h;split at h
  .exact⟨(),ρ,h,λ_ _ q=>q,λ_ _ q=>q,λ_ _ _=>rfl⟩
  cases h
theorem GC {α:Type 1}:∀(cs:List Cp) (l:List Sc) (ρ:List (Nat×Option Nat)) (k:Fu cs->List (Nat×Option Nat)->Tr α) {out:α},(KI cs l ρ k).run s r=some out->
  ∃x mG,(k x mG).run s r=some out/\Nr ρ mG/\(∀F:Nat->Prop,(∀d∈l,d.all F)->Ns F ρ->Ns F mG)/\∀A ot,Nr mG ot->(pK cs x).map (Sc.den (mA A ot))=l.map (Sc.den A):=by
 intro cs
 induction cs with
 |nil=>
  intro l ρ k out h;cases l with
  |nil=>exact⟨(),ρ,h,λ_ _ q=>q,λ_ _ q=>q,λ_ _ _=>rfl⟩
  |cons _ _=>cases h
 |cons c cs ih=>
  intro l ρ k out h;cases l with
  |nil=>cases h
  |cons d l=>
   obtain⟨v,ρ1,h1,h2,h7,h3⟩:=Nt (show(sk c d ρ λv ρ=>KI cs l ρ λx=>k (v,x)).run s r=some out from h);obtain⟨x,mG,h4,h5,h8,h6⟩:=ih _ _ _ h1;exact⟨(v,x),mG,h4,h2.trans h5,λF hF hi=>h8 F (λz hz=>hF z (aE _ hz)) (h7 F (hF d aA) hi),λA ot q=>by simp only[pK,bn,h6 A ot q,h3 A ot (h5.trans q)]⟩
def ZR (r:Nat->Option R2)(mG:List (Nat×Option Nat))(j:Nat)(z:R2):Prop:=∀A ot,Nr mG ot->
 (s8 z=false/\((∃q y,jt ot j=some (some q)/\r q=some y/\z.den (mA A ot) j=y.den A q)\/(jt ot j=some none/\∃e t,z= .row e t ([]:List (El t)))))\/
  ∃(t:Ty) (l:List (El t)),z= .ar t l/\((∃q y,jt ot j=some (some q)/\r q=some y/\ob y=some ⟨t,l⟩)\/(jt ot j=some none/\l=[]))
theorem Rn {α:Type 1}:∀(sh:List Pc) (i:Nat) (ρ:List (Nat×Option Nat)) (k:zZ sh->List (Nat×Option Nat)->Tr α) {out:α},(oX i sh ρ k).run s r=some out->
  ∃xs mG,(k xs mG).run s r=some out/\Nr ρ mG/\(∀j z,(j,some z)∈mD i sh xs->ZR r mG j z)/\∀F:Nat->Prop,(∀j x,r j=some x->x.all F)->Ns F ρ->Ns F mG:=by
 intro sh
 induction sh with
 |nil=>intro i ρ k out h;exact⟨(),ρ,h,λ_ _ q=>q,λ_ _ q=>(by cases q),λ_ _ q=>q⟩
 |cons sp sh ih=>
  intro i ρ k out h;cases sp with
  |box t cs=>
   simp only[oX] at h;split at h
   .rename_i q hq;obtain⟨y,hy,h⟩:=iQ h;split at h
    .rename_i t' l;obtain⟨e,h0⟩:=iD h;clear h;have e:=jx e;subst e;obtain⟨x,ρ1,h1,h2,h8,h3⟩:=GC _ _ _ _ h0;obtain⟨xs,mG,h4,h5,h6,h7⟩:=ih _ _ _ h1;refine⟨(x,xs),mG,h4,h2.trans h5,λj z hj=>?_,λF hF hi=>h7 F hF (h8 F (hF q _ hy) hi)⟩;rcases kZ hj with⟨_,e⟩|hj
     .cases e;refine λA ot hle=>.inl ⟨rfl,.inl ⟨q,_,hle _ _ (h5 _ _ (h2 _ _ hq)),hy,?_⟩⟩;simp only[Pc.r2,R2.den,h3 A ot (h5.trans hle),(kS (A:=A) (hle _ _ (h5 _ _ (h2 _ _ hq)))).2.1]
     exact h6 j z hj
    cases h
   cases h
  |row e t=>
   simp only[oX] at h;split at h
   .rename_i q hq;obtain⟨y,hy,h⟩:=iQ h;split at h
    .rename_i e' t' l;split at h
     .rename_i l' hl;obtain⟨ee,rfl⟩:=lZ hl;cases ee;obtain⟨e,h0⟩:=iD h;clear h;have e:=jx e;subst e;obtain⟨xs,mG,h4,h5,h6,h7⟩:=ih _ _ _ h0;refine⟨(_,xs),mG,h4,h5,λj z hj=>?_,h7⟩;rcases kZ hj with⟨_,e⟩|hj
      .cases e;refine λA ot hle=>.inl ⟨rfl,.inl ⟨q,_,hle _ _ (h5 _ _ hq),hy,?_⟩⟩;simp only[Pc.r2,R2.den,(kS (A:=A) (hle _ _ (h5 _ _ hq))).1]
      exact h6 j z hj
     cases h
    cases h
   .rename_i hq;obtain⟨xs,mG,h4,h5,h6,h7⟩:=ih _ _ _ h;refine⟨(_,xs),mG,h4,h5,λj z hj=>?_,h7⟩;rcases kZ hj with⟨_,e⟩|hj
    .cases e;exact λA ot hle=>.inl ⟨rfl,.inr ⟨hle _ _ (h5 _ _ hq),_,_,rfl⟩⟩
    exact h6 j z hj
   cases h
  |map kc t=>
   simp only[oX] at h;split at h
   .rename_i q hq;obtain⟨y,hy,h⟩:=iQ h;split at h
    .rename_i kc' t' l;split at h
     .rename_i l' hl;obtain⟨ee,rfl⟩:=lZ hl;cases ee;obtain⟨xs,mG,h4,h5,h6,h7⟩:=ih _ _ _ h;refine⟨(_,xs),mG,h4,h5,λj z hj=>?_,h7⟩;rcases kZ hj with⟨_,e⟩|hj
      .cases e;refine λA ot hle=>.inl ⟨rfl,.inl ⟨q,_,hle _ _ (h5 _ _ hq),hy,?_⟩⟩;simp only[Pc.r2,R2.den,(kS (A:=A) (hle _ _ (h5 _ _ hq))).2.2.1]
      exact h6 j z hj
     cases h
    cases h
   cases h
  |rd t=>
   simp only[oX] at h;split at h
   .rename_i q hq;obtain⟨y,hy,h⟩:=iQ h;split at h
    .rename_i t' l Vc;split at h
     .rename_i l' hl;obtain⟨ee,rfl⟩:=lZ hl;cases ee;obtain⟨xs,mG,h4,h5,h6,h7⟩:=ih _ _ _ h;refine⟨(_,xs),mG,h4,h5,λj z hj=>?_,h7⟩;rcases kZ hj with⟨_,e⟩|hj
      .cases e;exact λA ot hle=>.inr ⟨_,_,rfl,.inl ⟨q,y,hle _ _ (h5 _ _ hq),hy,Vc⟩⟩
      exact h6 j z hj
     cases h
    cases h
   .rename_i hq;obtain⟨xs,mG,h4,h5,h6,h7⟩:=ih _ _ _ h;refine⟨(_,xs),mG,h4,h5,λj z hj=>?_,h7⟩;rcases kZ hj with⟨_,e⟩|hj
    .cases e;exact λA ot hle=>.inr ⟨_,_,rfl,.inr ⟨hle _ _ (h5 _ _ hq),rfl⟩⟩
    exact h6 j z hj
   cases h
  |sZ e=>
   simp only[oX] at h;split at h
   .rename_i q hq;obtain⟨y,hy,h⟩:=iQ h;split at h
    .rename_i e' l;obtain⟨e,h0⟩:=iD h;clear h;have e:=jx e;subst e;obtain⟨xs,mG,h4,h5,h6,h7⟩:=ih _ _ _ h0;refine⟨(_,xs),mG,h4,h5,λj z hj=>?_,h7⟩;rcases kZ hj with⟨_,e⟩|hj
     .cases e;refine λA ot hle=>.inl ⟨rfl,.inl ⟨q,_,hle _ _ (h5 _ _ hq),hy,?_⟩⟩;simp only[Pc.r2,R2.den,X2.den,(kS (A:=A) (hle _ _ (h5 _ _ hq))).1]
     exact h6 j z hj
    cases h
   cases h
  |any=>
   simp only[oX] at h;obtain⟨xs,mG,h4,h5,h6,h7⟩:=ih _ _ _ h;refine⟨((),xs),mG,h4,h5,λj z hj=>?_,h7⟩;rcases kZ hj with⟨e,_⟩|hj
   .cases e
   exact h6 j z hj
  |CL=>
   simp only[oX] at h;obtain⟨xs,mG,h4,h5,h6,h7⟩:=ih _ _ _ h;refine⟨((),xs),mG,h4,h5,λj z hj=>?_,h7⟩;rcases kZ hj with⟨e,_⟩|hj
   .cases e
   exact h6 j z hj
  |kP q0 kc t ie=>
   simp only[oX] at h;split at h
   .rename_i p hp;obtain⟨y,hy,h⟩:=iQ h;split at h
    .rename_i q' kc' t' Fq m;split at h
     .rename_i m' hl;obtain⟨ee,rfl⟩:=lZ hl;cases ee;obtain⟨e,h0⟩:=iD h;clear h;have e:=jx e;subst e;obtain⟨q1,h0⟩:=ru h0;obtain⟨xs,mG,h4,h5,h6,h7⟩:=ih _ _ _ h0;refine⟨(_,xs),mG,h4,q1.trans h5,λj z hj=>?_,λF hF hi=>h7 F hF (hi.cons λc e=>by cases e;exact hF p _ hy)⟩;rcases kZ hj with⟨_,e⟩|hj
      .cases e;refine λA ot hle=>.inl ⟨rfl,.inl ⟨p,_,hle _ _ (h5 _ _ (q1 _ _ hp)),hy,?_⟩⟩;simp only[Pc.r2,R2.den,X2.den,(kS (A:=A) (hle _ _ (h5 _ _ (q1 _ _ hp)))).2.2.1,(kS (A:=A) (hle _ _ (h5 _ _ (rq _ _ _)))).2.2.2.2]
      exact h6 j z hj
     cases h
    cases h
   cases h
  |nest q0 e0 t ie=>
   simp only[oX] at h;split at h
   .rename_i p hp;obtain⟨y,hy,h⟩:=iQ h;split at h
    .rename_i q' e' t' Fq l;split at h
     .rename_i l' hl;obtain⟨ee,rfl⟩:=lZ hl;cases ee;obtain⟨e,h0⟩:=iD h;clear h;rw[aQ] at e;have e1:=jx e.1;have e2:=jx e.2;subst e1 e2;obtain⟨q1,h0⟩:=ru h0;obtain⟨xs,mG,h4,h5,h6,h7⟩:=ih _ _ _ h0;refine⟨(_,xs),mG,h4,q1.trans h5,λj z hj=>?_,λF hF hi=>h7 F hF (hi.cons λc e=>by cases e;exact hF p _ hy)⟩;rcases kZ hj with⟨_,e⟩|hj
      .cases e;refine λA ot hle=>.inl ⟨rfl,.inl ⟨p,_,hle _ _ (h5 _ _ (q1 _ _ hp)),hy,?_⟩⟩;simp only[Pc.r2,R2.den,X2.den,(kS (A:=A) (hle _ _ (h5 _ _ (q1 _ _ hp)))).1,(kS (A:=A) (hle _ _ (h5 _ _ (rq _ _ _)))).2.2.2.2]
      exact h6 j z hj
     cases h
    cases h
   cases h
end
def Ir (kp:Nat)(ρ:List (Nat×Option Nat))(b i:Nat):Option Nat:=match bp i kp with
 |true=>match jt ρ i with
  |some v=>v
  |none=>none
 |false=>some (b+i)
def KJ (g:Nat->Option Nat):Nat->List (Nat×Option Nat)
 |0=>[]
 |k+1=>(k,g k)::KJ g k
def rnP (τ:List (Nat×Option Nat)):List (Nat×Option R2)->Option (List (Nat×Option R2))
 |[]=>some []
 |(i,some x)::l=>match jt τ i,x.rn τ,rnP τ l with
  |some (some k),some t,some l'=>some ((k,some t)::l')
  |_,_,_=>none
 |(_,none)::_=>none
def agl (sh:List Pc)(l:List (Nat×Option R2)):List (Nat×Option R2):=l.filter λp=>!Fv sh p.1
def B9 (sh:List Pc)(ρ:List (Nat×Option Nat)):List Nat:=(ρ.filter λp=>!Fv sh p.1).filterMap (·.2)
def Bi (b:Nat):Nat->List Pc->List (Nat×Option R2)
 |_,[]=>[]
 |i,.CL::l=>(b+i,none)::Bi b (i+1) l
 |i,_::l=>Bi b (i+1) l
theorem Bj {b:Nat}:∀ {l:List Pc} {i k:Nat} {z:Option R2},(k,z)∈Bi b i l->z=none
 |[],i,k,z,h=>by cases h
 |sp::l,i,k,z,h=>by
  cases sp with
  |CL=>
   rcases aC.1 (show(k,z)∈(b+i,none)::Bi b (i+1) l from h) with e|h
   .cases e;rfl
   exact Bj h
  |_=>exact Bj (l:=l) (i:=i+1) h
theorem KK {b:Nat}:∀ {l:List Pc} {i j:Nat},l[j]?=some .CL->(b+(i+j),(none:Option R2))∈Bi b i l
 |[],i,j,h=>by simp at h
 |sp::l,i,0,h=>by
  have h:sp= .CL:=by simpa using h
  subst h;exact aA
 |sp::l,i,j+1,h=>by
  have ih:=KK (b:=b) (i:=i+1) (show l[j]?=some .CL by simpa using h);rw[show i+1+j=i+(j+1) by omega] at ih;cases sp with
  |CL=>exact aE _ ih
  |_=>exact ih
def agm:Pc->Bool
 | .CL=>true
 |_=>false
def agn:Sy->Bool
 | .one _=>true
 |_=>false
def shG:List (Option Nat)->List Sy->Bool
 |none::g,.one _::ys=>shG g ys
 |some k::g,.agg cs::ys=>aK cs.length k && shG g ys
 |[],ys=>ys.all agn
 |_,_=>false
def ago (m:uV)(ρ:List (Nat×Option Nat))(ys:List Sy):Bool:=
 shG m.ga ys && ((ρ.all λp=>ρ.all λq=>aK p.1 q.1||(match p.2,q.2 with|some a,some b=>!Nat.beq a b|_,_=>true)) && (decide (m.kp<=m.sh.length) && (m.ug.all (Pc.below m.ug.length) && (m.rs.all (Cp.below m.ug.length) && (((bH m.kp).all λi=>(match jt ρ i with|some (some _)=>true|_=>false) && match m.sh[i]? with|some z=>!agm z|none=>true) && (bH m.ug.length).all λi=>!Fv m.ug i||(bp i m.kp && Fv m.sh i))))))
def adM (m:uV)(wA:m.X->Prop)(fx:m.X->m.Y)(b:Nat)(jL:List (Nat×Nat))(ys:List Sy):Tr Out:=
 KI m.ar ((ys++jL.map λc=>Sy.one (.ptr c.1 c.2)).flatMap iJ) [] λxa ρ=>oX 0 m.sh ρ λxs mG=>
  match rnP (KJ (Ir m.kp mG b) m.ug.length) (agl m.ug (mD 0 m.ug (fx (xs,xa)).1)),ZJ (KJ (Ir m.kp mG b) m.ug.length) (pK m.rs (fx (xs,xa)).2) with
  |some re,some cs=>iX (ago m mG (ys++jL.map λc=>Sy.one (.ptr c.1 c.2))) (.ret ⟨[wA (xs,xa)],[],B7 (syl m.ag cs),re++(Bi b 0 m.ug++(B9 m.sh mG).map λq=>(q,none))⟩)
  |_,_=>.fail
def ux (A B:ju)(b k l:Nat):ju:=
 ⟨λj=>if b+k<=j/\j<b+l then B.p (j-b) else A.p j,λj=>if b+k<=j/\j<b+l then B.n (j-b) else A.n j,λj=>if b+k<=j/\j<b+l then B.c (j-b) else A.c j,λj=>if b+k<=j/\j<b+l then B.b (j-b) else A.b j,λj=>if b+k<=j/\j<b+l then B.f (j-b) else A.f j,λj=>if b+k<=j/\j<b+l then B.m (j-b) else A.m j⟩
section
variable {P:az}{o:jh}{n:Nat}{A A':ju}{S S':iF}{F G:Nat->Prop}{s:Nat->Option E2}{r:Nat->Option R2}{a:Act}{w w':aa}{T:List (kG P)}
theorem O3 {g:Nat->Option Nat}:∀ {l i:Nat},i<l->jt (KJ g l) i=some (g i)
 |0,i,h=>by omega
 |l+1,i,h=>by
  unfold KJ jt;cases hb:aK l i with
  |true=>have:=jx hb;subst this;rfl
  |false=>exact O3 (by have:=TW hb;omega)
theorem O4 {g:Nat->Option Nat}:∀ {l i:Nat} {v:Option Nat},jt (KJ g l) i=some v->i<l
 |0,i,v,h=>by cases h
 |l+1,i,v,h=>by
  unfold KJ jt at h;cases hb:aK l i with
  |true=>have:=jx hb;omega
  |false=>rw[hb] at h;have:=O4 h;omega
theorem Vd {τ:List (Nat×Option Nat)}:∀ {l re:List (Nat×Option R2)},rnP τ l=some re->∀i z,(i,z)∈l->∃k x t,z=some x/\jt τ i=some (some k)/\x.rn τ=some t/\(k,some t)∈re
 |[],re,h,i,z,hz=>by cases hz
 |(i0,some x)::l,re,h,i,z,hz=>by
  simp only[rnP] at h;split at h
  .rename_i k t l' h1 h2 h3;cases h;rcases aC.1 hz with e|hz
   .cases e;exact⟨k,x,t,rfl,h1,h2,aA⟩
   obtain⟨k',x',t',q1,q2,q3,q4⟩:=Vd h3 i z hz;exact⟨k',x',t',q1,q2,q3,aE _ q4⟩
  cases h
 |(i0,none)::l,re,h,i,z,hz=>by cases h
theorem Ve {τ:List (Nat×Option Nat)}:∀ {l re:List (Nat×Option R2)},rnP τ l=some re->∀k z,(k,z)∈re->∃i x t,(i,some x)∈l/\jt τ i=some (some k)/\x.rn τ=some t/\z=some t
 |[],re,h,k,z,hz=>by cases h;cases hz
 |(i0,some x)::l,re,h,k,z,hz=>by
  simp only[rnP] at h;split at h
  .rename_i k0 t l' h1 h2 h3;cases h;rcases aC.1 hz with e|hz
   .cases e;exact⟨i0,x,t,aA,h1,h2,rfl⟩
   obtain⟨i',x',t',q1,q2,q3,q4⟩:=Ve h3 k z hz;exact⟨i',x',t',aE _ q1,q2,q3,q4⟩
  cases h
 |(i0,none)::l,re,h,k,z,hz=>by cases h
theorem GD {τ:List (Nat×Option Nat)}:∀ {jL cs:List (Nat×Nat)},Sc.rn.yU τ jL=some cs->∀c∈cs,∃j,jt τ j=some (some c.1)
 |[],cs,h,c,hc=>by cases h;cases hc
 |d::jL,cs,h,c,hc=>by
  simp only[Sc.rn.yU] at h;split at h
  .rename_i k l h1 h2;cases h;rcases aC.1 hc with rfl|hc
   .exact⟨_,h1⟩
   exact GD h2 c hc
  cases h
theorem agp {τ:List (Nat×Option Nat)}{c:Cp}{v:CpV c}{d:Sc}(h:(c.sc v).rn τ=some d)(hG:∀j k,jt τ j=some (some k)->G k):d.all G/\∀A,d.jW A:=by
 cases c with
 |int=>cases h;exact⟨tv,λ_=>trivial⟩
 |bool=>cases h;exact⟨tv,λ_=>trivial⟩
 |U7=>cases h;exact⟨tv,λ_=>trivial⟩
 |U8=>cases h;exact⟨tv,λ_=>trivial⟩
 |str=>cases h;exact⟨tv,λ_=>trivial⟩
 |r9 f jL=>
  have h:(Sc.rn.yU τ jL).map (.r9 f)=some d:=h;obtain⟨cs,h1,rfl⟩:=aZ.1 h;exact⟨λc hc=>by obtain⟨j,hj⟩:=GD h1 c hc;exact hG j _ hj,λ_=>trivial⟩
 |own j=>
  simp only[Cp.sc,Sc.rn] at h;split at h
  .rename_i k hk;cases h;exact⟨hG j k hk,λ_=>trivial⟩
  .cases h;exact⟨tv,λ_=>trivial⟩
  cases h
 |mp j=>
  simp only[Cp.sc,Sc.rn] at h;split at h
  .rename_i k hk;cases h;exact⟨hG j k hk,λ_=>trivial⟩
  .cases h;exact⟨tv,λ_=>trivial⟩
  cases h
 |ptr j off=>
  simp only[Cp.sc,Sc.rn] at h;split at h
  .rename_i k hk;cases h;exact⟨hG j k hk,λ_=>trivial⟩
  cases h
theorem DU {τ:List (Nat×Option Nat)}(hG:∀j k,jt τ j=some (some k)->G k):∀ {cs:List Cp} {x:Fu cs} {ds:List Sc},ZJ τ (pK cs x)=some ds->∀d∈ds,d.all G/\∀A,d.jW A
 |[],x,ds,h,d,hd=>by cases h;cases hd
 |c::cs,x,ds,h,d,hd=>by
  simp only[pK,ZJ] at h;split at h
  .rename_i c' l' h1 h2;cases h;rcases aC.1 hd with rfl|hd
   .exact agp h1 hG
   exact DU hG h2 d hd
  cases h
theorem agq {τ:List (Nat×Option Nat)}(hG:∀j k,jt τ j=some (some k)->G k){p:Pc}{v:PcV p}{i k:Nat}{z:R2}(h:(p.r2 v).rn τ=some z)(hk:jt τ i=some (some k))(nI:p.adK=false)(A:ju):
  z.den A k=(p.r2 v).den (mA A τ) i/\z.all G/\z.jW A/\s8 z=false:=by
 obtain⟨e1,e2,e3,_⟩:=kS (A:=A) hk;cases p with
 |box t cs=>
  have h:(ZJ τ (pK cs v)).map (R2.box t)=some z:=h;obtain⟨ds,h1,rfl⟩:=aZ.1 h;have h2:=DU hG h1;refine⟨?_,λc hc=>(h2 c hc).1,λc hc=>(h2 c hc).2 A,rfl⟩;simp only[Pc.r2,R2.den,e2,(DQ (A:=A) h1).1]
 |row e t=>
  have h:some (R2.row e t v)=some z:=h;cases h;exact⟨by simp only[Pc.r2,R2.den,e1],tv,tv,rfl⟩
 |map kc t=>
  have h:some (R2.map kc t v)=some z:=h;cases h;exact⟨by simp only[Pc.r2,R2.den,e3],tv,tv,rfl⟩
 |rd t=>cases nI
 |sZ e=>
  have h:some (R2.ext (.sZ e v))=some z:=h;cases h;exact⟨by simp only[Pc.r2,R2.den,X2.den,e1],tv,tv,rfl⟩
 |any=>cases nI
 |CL=>
  have h:some (R2.box 0 [])=some z:=h;cases h;exact⟨by simp only[Pc.r2,R2.den,e2,b9],λc hc=>(by cases hc),λc hc=>(by cases hc),rfl⟩
 |kP q kc t ie=>
  have h:(match jt τ q with|some (some p)=>some (R2.ext (.kP p kc none t ie v))|_=>none)=some z:=h;split at h
  .rename_i p hp;cases h;exact⟨by simp only[Pc.r2,R2.den,X2.den,e3,(kS (A:=A) hp).2.2.2.2],hG q p hp,tv,rfl⟩
  cases h
 |nest q e t ie=>
  have h:(match jt τ q with|some (some p)=>some (R2.ext (.nest p none e t ie v))|_=>none)=some z:=h;split at h
  .rename_i p hp;cases h;exact⟨by simp only[Pc.r2,R2.den,X2.den,e1,(kS (A:=A) hp).2.2.2.2],hG q p hp,tv,rfl⟩
  cases h
theorem Bk:∀ {l:List Pc} {i:Nat} {x:zZ l} {j:Nat} {z:R2},(j,some z)∈mD i l x->∃s,l[j-i]?=some s/\s.skip=false/\∃v,z=Pc.r2 s v
 |[],_,_,_,_,h=>by cases h
 |s::l,i,x,j,z,h=>by
  rcases kZ h with⟨hs,e⟩|h
  .cases e;exact⟨s,by rw[cZ];rfl,hs,x.1,rfl⟩
  have hk:=tB h;obtain⟨s',h1,h2⟩:=Bk h;exact⟨s',by rw[show j-i=(j-(i+1))+1 by omega];exact h1,h2⟩
theorem DV {l:List Pc}{x:zZ l}{j:Nat}{z:R2}(h:(j,some z)∈mD 0 l x):Fv l j=s8 z:=by
 obtain⟨s,h1,h2,v,rfl⟩:=Bk h;unfold Fv;rw[show l[j]?=some s from h1];cases s<;>first|rfl|cases h2
theorem Nu (H:j5 o n A S F s r a w){j:Nat}{x:R2}(hj:r j=some x){t:Ty}{l:List (El t)}(hx:ob x=some ⟨t,l⟩){K:Nat->Prop}(hK:¬K j):Rd (λk=>k<w.heap.size/\¬nc A r K k) w (A.v j) l:=by
 have hm:iZ A r j=some (x.den A j):=by simp[iZ,hj]
 cases x with
 |ro t' l'=>cases hx;exact Rd.up (λk hk=>⟨H.jd.nO k hk,λq=>(H.qX q).2.2 hk⟩) (H.jd.ok j _ hm)
 |ar t' l'=>
  cases hx;refine(Rd.keep H.jd.old (H.args j _ hj)).up λk hk=>⟨bf hk.1 H.jd.sw.size,λq=>?_⟩;rcases(H.qX q).1 with z|z
  .have:=hk.1;omega
  exact hk.2 z
 |row e t' l'=>
  cases hx;refine(lg.rd (H.jd.ok j _ hm)).up λk hk=>?_;rcases hk with hk|hk
  .exact⟨H.jd.nO k hk,λq=>(H.qX q).2.2 hk⟩
  refine⟨(H.jd.own j _ k hm hk).2.1,λ⟨i,y,q1,q2,q3⟩=>?_⟩;have hm':iZ A r i=some (y.den A i):=by simp[iZ,q2]
  have:=H.jd.apart j i _ _ k hm hm' hk q3;subst this;exact hK q1
 |ext y=>
  cases y with
  |_=>cases hx
 |_=>cases hx
theorem ZS {A B:ju}{b k l i:Nat}(h1:k<=i)(h2:i<l):(ux A B b k l).v (b+i)=B.v i/\(ux A B b k l).b (b+i)=B.b i/\(ux A B b k l).f (b+i)=B.f i/\(ux A B b k l).m (b+i)=B.m i:=by
 have q:b+k<=b+i/\b+i<b+l:=⟨by omega,by omega⟩;have e:b+i-b=i:=by omega
 unfold ux ju.v;simp only[ak q,e];exact⟨tv,tv,tv,tv⟩
theorem ZT {A B:ju}{b k l j:Nat}(h:¬(b+k<=j/\j<b+l)):A.v j=(ux A B b k l).v j/\A.b j=(ux A B b k l).b j/\A.f j=(ux A B b k l).f j/\A.m j=(ux A B b k l).m j:=by
 unfold ux ju.v;simp only[ah h];exact⟨tv,tv,tv,tv⟩
theorem KL:∀ {ys:List Sy},ys.all agn=true->ys.map (Sy.den A)=(ys.flatMap iJ).map (Sc.den A)
 |[],_=>rfl
 |y::ys,h=>by
  rw[am7,aQ] at h;cases y with
  |one c=>rw[cx,bn,KL h.2];rfl
  |agg _=>cases h.1
  |tQ _=>cases h.1
theorem Is:∀ {g:List (Option Nat)} {ys:List Sy} {cs:List Sc},shG g ys=true->cs.map (Sc.den A')=(ys.flatMap iJ).map (Sc.den A)->ys.map (Sy.den A)=(Mz g cs).map (Sy.den A')
 |[],ys,cs,h,e=>by
  rw[KL h,<-e];show _=(cs.map Sy.one).map _;rw[cn];rfl
 |none::g,[],cs,h,e=>by cases h
 |none::g,.one c::ys,cs,h,e=>by
  rw[cx,bX] at e
  match cs,e with
  |c'::cs,e=>
   have e1:c'.den A'=c.den A:=(dW e).1;have e2:cs.map (Sc.den A')=(ys.flatMap iJ).map (Sc.den A):=(dW e).2;show c.den A::ys.map _=c'.den A'::(Mz g cs).map _;rw[Is (g:=g) h e2,e1]
 |none::g,.agg _::ys,cs,h,e=>by cases h
 |none::g,.tQ _::ys,cs,h,e=>by cases h
 |some k::g,[],cs,h,e=>by cases h
 |some k::g,.one _::ys,cs,h,e=>by cases h
 |some k::g,.tQ _::ys,cs,h,e=>by cases h
 |some k::g,.agg l::ys,cs,h,e=>by
  have h:(aK l.length k && shG g ys)=true:=h;rw[aQ] at h;have hk:=jx h.1;subst hk;rw[cx,bX] at e;have e1:(cs.take l.length).map (Sc.den A')=l.map (Sc.den A):=by
   rw[List.map_take,e];show(l.map _++_).take _=_;rw[List.take_left' (by simp)]
  have e2:(cs.drop l.length).map (Sc.den A')=(ys.flatMap iJ).map (Sc.den A):=by
   rw[List.map_drop,e];show(l.map _++_).drop _=_;rw[List.drop_left' (by simp)]
  show amm (l.map (Sc.den A)).toArray::ys.map _=amm ((cs.take l.length).map (Sc.den A')).toArray::(Mz g (cs.drop l.length)).map _;rw[Is (g:=g) h.2 e2,e1]
theorem ZU {f:bB}{m:uV}{wA:m.X->Prop}{fx:m.X->m.Y}(ok:lH P f m wA fx):xo P f (adM m wA fx):=by
 intro o n A S F s r a w b B jL ys out H hF QX wC h j4 _ hB;unfold adM at h;have YE:ys.map (Sy.den A)++jL.map (λc=>cC (some ⟨A.b c.1,c.2,none⟩))=(ys++jL.map λc=>Sy.one (.ptr c.1 c.2)).map (Sy.den A):=by
  rw[bX,cn];rfl
 have hzF:∀d∈(ys++jL.map λc=>Sy.one (.ptr c.1 c.2)).flatMap iJ,d.all F:=λd hd=>by
  obtain⟨y,hy,hd⟩:=cy.1 hd;rcases aI.1 hy with hy|hy
  .have:=(QX y hy).1;cases y with
   |one c=>rw[av.1 hd];exact this
   |agg cs=>exact this d hd
   |tQ _=>cases hd
  obtain⟨c,hc,rfl⟩:=aN.1 hy;rw[av.1 hd];exact wC c hc
 generalize (ys++jL.map λc=>Sy.one (.ptr c.1 c.2))=zs at*
 obtain⟨xa,ρ,h1,_,hCF,hC⟩:=GC _ _ _ _ h;clear h;obtain⟨xs,mG,h2,hle,hP,hPa⟩:=Rn _ _ _ _ h1;clear h1;split at h2
 .rename_i re cs Fl ZV;obtain⟨hg,h3⟩:=iD h2;clear h2;have e:=iW h3;subst e;clear h3;unfold ago at hg;simp only[aQ,decide_eq_true_eq] at hg;have⟨g1,g2,g3,g4,g5,g6,g7⟩:=hg;have aiS:∀i,Fv m.ug i=true->i<m.kp/\Fv m.sh i=true:=λi hi=>by
   have hl:i<m.ug.length:=by
    unfold Fv at hi;split at hi
    .rename_i sp hsp;exact(b7.1 hsp).1
    cases hi
   have:=aY.1 g7 i (cg.2 hl);rw[hi] at this;simp only[Bool.not_true,Bool.false_or,aQ,bW] at this;exact this
  have HS:wA (xs,xa):=j4 _ (av.2 rfl);generalize hy:fx (xs,xa)=y at*
  generalize hτ:KJ (Ir m.kp mG b) m.ug.length=τ at*
  have refl:Nr mG mG:=λ_ _ q=>q;have oL:∀j rr,iZ (mA A mG) (iP (λ_=>none) (mD 0 m.sh xs)) j=some rr->(∃q z,jt mG j=some (some q)/\Fv m.sh j=false/\r q=some z/\iZ A r q=some rr/\rr=z.den A q)\/((∀c,¬rr.has c)/\rr.ok S w):=λj rr hj=>by
   obtain⟨z,hz,rfl⟩:=aZ.1 hj;have hkr:=DV (pX hz);rcases hP j z (pX hz) A mG refl with⟨k0,⟨q,t,k1,k2,k3⟩|⟨k1,e,t,rfl⟩⟩|⟨t,l,rfl,_⟩
   .exact .inl ⟨q,t,k1,hkr.trans k0,k2,by show(r q).map _=_;rw[k2,k3];rfl,k3⟩
   .have ev:=DP (A:=A) k1;refine .inr ⟨λc q=>?_,?_⟩
    .have q:((mA A mG).v j).ownBlock=some c:=q;rw[ev] at q;cases q
    show lg S w e ((mA A mG).v j) ([]:List (El t));rw[ev];exact lg.nil
   exact .inr ⟨λc q=>q,tv⟩
  have Kr:∀ {i j q:Nat},jt mG i=some (some q)->jt mG j=some (some q)->i=j:=λ{i j q} hi hj=>by
   have:=aY.1 (aY.1 g2 _ (uQ hi)) _ (uQ hj);rw[dP] at this;rcases this with k|k
   .exact jx k
   simp at k
  have hK:∀ {q:Nat},(∃j,(j,some q)∈mG/\Fv m.sh j=false)->∃x,(q,x)∈re++(Bi b 0 m.ug++(B9 m.sh mG).map λq=>(q,(none:Option R2))):=λ{q} ⟨j,hj,hjr⟩=>
   ⟨none,bl _ (bl _ (aN.2 ⟨q,List.mem_filterMap.2 ⟨_,cB.2 ⟨hj,by rw[hjr];rfl⟩,rfl⟩,rfl⟩))⟩
  have o2c:∃o2:jh,o2.w=w/\o2.S=S/\o2.G=nc A r (λq=> ∃j,(j,some q)∈mG/\Fv m.sh j=false):=⟨⟨⟨w,S,H.jd.nO⟩,nc A r (λq=> ∃j,(j,some q)∈mG/\Fv m.sh j=false),λk hk=>(H.qX hk).2.2,λk hk=>(H.qX hk).2.1,λ_=>False,TD,0⟩,rfl,rfl,rfl⟩;have⟨o2,Fw,hS2,hG2⟩:=o2c;have vr:nK o2 w S (iZ (mA A mG) (iP (λ_=>none) (mD 0 m.sh xs))):=by
   refine⟨by rw[Fw];exact pU.refl _ _,λk hk=>.inl (by rw[hS2];exact hk),H.jd.nO,λj rr hj=>?_,λj rr c hj hc=>?_,λi j ri rj c hi hj ei ej=>?_⟩
   .rcases oL j rr hj with⟨q,z,k1,_,k2,k3,k4⟩|⟨_,k2⟩
    .exact H.jd.ok q rr k3
    exact k2
   .rcases oL j rr hj with⟨q,z,k1,k0,k2,k3,k4⟩|⟨k1,_⟩
    .have:=H.jd.own q rr c k3 hc;refine⟨.inr ?_,this.2⟩;rw[hG2];exact⟨q,z,⟨j,uQ k1,k0⟩,k2,by rw[<-k4];exact hc⟩
    exact(k1 c hc).elim
   rcases oL i ri hi with⟨q,z,k1,_,k2,k3,k4⟩|⟨k1,_⟩
   .rcases oL j rj hj with⟨q',z',l1,_,l2,l3,l4⟩|⟨l1,_⟩
    .have:=H.jd.apart q q' ri rj c k3 l3 ei ej;subst this;exact Kr k1 l1
    exact(l1 c ej).elim
   exact(k1 c ei).elim
  have lC:(ys.map (Sy.den A)++jL.map λc=>cC (some ⟨A.b c.1,c.2,none⟩))=(Mz m.ga (pK m.ar xa)).map (Sy.den (mA A mG)):=by
   rw[YE];exact Is g1 (hC A mG hle)
  rw[lC];have har:∀j y,iP (λ_=>none) (mD 0 m.sh xs) j=some y->zM (o2.ZO (mA A mG) m.kp) (mA A mG) j y:=λj y hy=>by
   have hkr:=DV (pX hy);rcases hP j y (pX hy) A mG refl with⟨k0,_⟩|⟨t,l,rfl,⟨q,z,k1,k2,k3⟩|⟨k1,rfl⟩⟩
   .exact nC k0
   .have hnK:¬(λq=> ∃j,(j,some q)∈mG/\Fv m.sh j=false) q:=λ⟨j',m1,m2⟩=>by
     have:=aY.1 (aY.1 g2 _ m1) _ (uQ k1);rw[dP] at this;rcases this with e|e
     .have e:=jx e;dsimp only at e;rw[e,hkr] at m2;cases m2
     simp at e
    have nI:=Nu (K:=λq=> ∃j,(j,some q)∈mG/\Fv m.sh j=false) H k2 k3 hnK;show Rd o2.old o2.w ((mA A mG).v j) l;rw[(kS (A:=A) k1).1];unfold jh.old;rw[hG2,Fw];exact nI
   show Rd o2.old o2.w ((mA A mG).v j) ([]:List (El t));rw[DP (A:=A) k1];exact ML
  have wY:=ok o2 (mA A mG) (xs,xa) (by rw[Fw,hS2];exact vr.gv) har HS;rw[Fw] at wY;refine wY.mono λe w' ⟨v,he,A2,S2,hA2,F2',hv⟩=>⟨v,he,?_⟩;have F2:=F2'.aiQ;rw[hy] at F2 hv;clear F2';have hc2:pU w w' (nc A r (λq=> ∃j,(j,some q)∈mG/\Fv m.sh j=false)):=by have:=F2.sw;rwa[Fw,hG2] at this
  have aiT:Ns F mG:=hPa F (λj x hx=>(H.j7 j x hx).2.1) (hCF F hzF (Ns.nil F));have Vf:∀ {i:Nat},i<m.ug.length->jt τ i=some (Ir m.kp mG b i):=λ{i} hi=>by rw[<-hτ];exact O3 hi
  have agt:∀ {i:Nat} {v:Option Nat},jt τ i=some v->i<m.ug.length:=λ{i v} hi=>by rw[<-hτ] at hi;exact O4 hi
  have Nv:∀ {i:Nat},m.kp<=i->i<m.ug.length->jt τ i=some (some (b+i)):=λ{i} h1 h2=>by
   rw[Vf h2];unfold Ir;have:bp i m.kp=false:=by
    cases hb:bp i m.kp with
    |true=>
     have:i<m.kp:=by simpa using bW▸hb
     omega
    |false=>rfl
   rw[this]
  have agu:∀ {i:Nat},i<m.kp->∃q,jt mG i=some (some q)/\F q/\Ir m.kp mG b i=some q:=λ{i} hi=>by
   have hb:bp i m.kp=true:=by simpa[bW] using hi
   have h6:=aY.1 g6 i (cg.2 hi);rw[aQ] at h6;have⟨h6,h6f⟩:=h6;rcases Bg (x:=xs) (i:=0) (bu i) (by rw[cG];omega) with⟨sp,q1,q2⟩|⟨sp,v,q1,q2⟩
   .rw[anl] at q1;rw[q1] at h6f;cases sp<;>first|(cases q2;done)|(cases h6f;done)|skip
    cases hz:jt mG i with
    |none=>rw[hz] at h6;cases h6
    |some v=>
     cases v with
     |none=>rw[hz] at h6;cases h6
     |some q=>exact⟨q,rfl,aiT i q hz,by unfold Ir;rw[hb,hz]⟩
   rcases hP i _ q2 A mG refl with⟨_,⟨q,t,k1,k2,k3⟩|⟨k1,_⟩⟩|⟨_,_,_,⟨q,t,k1,k2,k3⟩|⟨k1,_⟩⟩
   .exact⟨q,k1,(H.j7 q t k2).1,by unfold Ir;rw[hb,k1]⟩
   .rw[k1] at h6;cases h6
   .exact⟨q,k1,(H.j7 q t k2).1,by unfold Ir;rw[hb,k1]⟩
   rw[k1] at h6;cases h6
  have sQ:∀ {i:Nat},m.kp<=i->i<m.ug.length->∃t,(b+i,t)∈re++(Bi b 0 m.ug++(B9 m.sh mG).map λq=>(q,(none:Option R2))):=λ{i} h1 h2=>by
   have hnr:Fv m.ug i=false:=by
    cases hq:Fv m.ug i with
    |false=>rfl
    |true=>have:=(aiS i hq).1;omega
   rcases Bg (x:=y.1) (i:=0) (bu i) (by rw[cG];exact h2) with⟨sp,q1,q2⟩|⟨sp,v,q1,q2⟩
   .rw[anl] at q1;unfold Fv at hnr;rw[q1] at hnr;cases sp<;>first|(cases q2;done)|(cases hnr;done)|skip
    have:=KK (b:=b) (i:=0) q1;rw[cG] at this;exact⟨none,bl _ (aS _ this)⟩
   obtain⟨k,x,t,_,k2,_,k4⟩:=Vd Fl i _ (cB.2 ⟨q2,by dsimp only;rw[hnr];rfl⟩);rw[Nv h1 h2] at k2;cases k2;exact⟨some t,aS _ k4⟩
  have hA:kD F A (ux A A2 b m.kp m.ug.length):=λj hj=>ZT λ⟨q1,q2⟩=>by
   obtain⟨t,ht⟩:=sQ (i:=j-b) (by omega) (by omega);have:=hB _ ht;have e:b+(j-b)=j:=by omega
   simp only[e] at this;exact hF j (by omega) this hj
  have ZW:∀i k,jt τ i=some (some k)->FU F (re++(Bi b 0 m.ug++(B9 m.sh mG).map λq=>(q,(none:Option R2)))) k:=λi k hi=>by
   have hl:=agt hi
   by_cases q:i<m.kp
   .obtain⟨q',_,k2,k3⟩:=agu q;rw[Vf hl,k3] at hi;cases hi;exact .inl k2
   rw[Nv (by omega) hl] at hi;cases hi;obtain⟨t,ht⟩:=sQ (i:=i) (by omega) hl;exact .inr ⟨_,ht⟩
  have agv:kD (· <m.ug.length) A2 (mA (ux A A2 b m.kp m.ug.length) τ):=λi hi=>by
   by_cases q:i<m.kp
   .obtain⟨q',k1,k2,k3⟩:=agu q;obtain⟨e1,e2,e3,_,e5⟩:=kS (A:=ux A A2 b m.kp m.ug.length) (show jt τ i=some (some q') by rw[Vf hi,k3]);obtain⟨d1,d2,d3,_,d5⟩:=kS (A:=A) k1;obtain⟨a1,a2,a3,a4⟩:=hA q' k2;obtain⟨c1,c2,c3,c4⟩:=hA2 i q;exact⟨by rw[e1,<-a1,<-d1,<-c1],by rw[e2,<-a2,<-d2,<-c2],by rw[e5,<-a3,<-d5,<-c3],by rw[e3,<-a4,<-d3,<-c4]⟩
   obtain⟨e1,e2,e3,_,e5⟩:=kS (A:=ux A A2 b m.kp m.ug.length) (Nv (show m.kp<=i by omega) hi);obtain⟨a1,a2,a3,a4⟩:=ZS (A:=A) (B:=A2) (b:=b) (show m.kp<=i by omega) hi;exact⟨by rw[e1,a1],by rw[e2,a2],by rw[e5,a3],by rw[e3,a4]⟩
  have hpc:∀k z,(k,some z)∈re++(Bi b 0 m.ug++(B9 m.sh mG).map (λq=>(q,(none:Option R2))))->∃i,z.den (ux A A2 b m.kp m.ug.length) k=(z.den (ux A A2 b m.kp m.ug.length) k)/\jt τ i=some (some k)/\iZ A2 (iP (λ_=>none) (mD 0 m.ug y.1)) i=some (z.den (ux A A2 b m.kp m.ug.length) k)/\z.all (FU F (re++(Bi b 0 m.ug++(B9 m.sh mG).map λq=>(q,(none:Option R2)))))/\z.jW (ux A A2 b m.kp m.ug.length)/\s8 z=false:=λk z hz=>by
   rcases aI.1 hz with hz|hz
   .obtain⟨i,x,t,k1,k2,k3,k4⟩:=Ve Fl k _ hz;cases k4;obtain⟨k1,k1r⟩:=cB.1 k1;have k1s:Fv m.ug i=false:=by simpa using k1r
    have hkr:=DV k1;obtain⟨sp,q1,q3,v,rfl⟩:=Bk k1;have q1:=bO q1;have aiU:sp.adK=false:=by
     have TU:=k1s.symm.trans hkr;cases sp<;>first|rfl|(cases TU;done)|cases q3
    obtain⟨p1,p2,p3,p4⟩:=agq ZW k3 k2 aiU (ux A A2 b m.kp m.ug.length);have Vc:=Pc.U9 (v:=v) (aY.1 g4 sp q1);have hl:=(tB k1).2;rw[cG] at hl;refine⟨i,rfl,k2,?_,p2,p3,p4⟩;show(iP _ _ i).map _=_;rw[Bh k1,p1,<-R2.congr agv hl Vc.1];rfl
   rcases aI.1 hz with hz|hz
   .cases Bj hz
   obtain⟨q,_,hq⟩:=aN.1 hz;cases hq
  have hsw:=H.swap hA (w':=w') (S':=λk=>S k\/S2 k) (re:=re++(Bi b 0 m.ug++(B9 m.sh mG).map λq=>(q,(none:Option R2)))) (λq=> ∃j,(j,some q)∈mG/\Fv m.sh j=false) (λq hq=>hK hq) hc2 (λk hk=>.inl hk) (λk hk=>by
   rcases hk with hk|hk
   .exact .inl hk
   .rcases F2.src k hk with q|q
    .exact .inl (by rw[hS2] at q;exact q)
    refine .inr ⟨?_,F2.nO k hk,λj z hz=>?_⟩
    .rcases q with q|q
     .exact .inr (by rw[Fw] at q;exact q)
     exact .inl (by rw[hG2] at q;exact q)
    obtain⟨i,_,_,k2,_⟩:=hpc j z hz;exact λhh=>(F2.own i _ k k2 hh).2.2 hk) (λj z hz=>by
   obtain⟨i,_,_,k2,k3,k4,k5⟩:=hpc j z hz;refine⟨k3,k4,k5,(z.den _ j).up _ _ _ (F2.ok i _ k2) λ_ q=>.inr q,λc hc=>?_⟩;obtain⟨q1,q2,_⟩:=F2.own i _ c k2 hc;refine⟨?_,q2⟩;rcases q1 with q|q
   .exact .inr (by rw[Fw] at q;exact q)
   .exact .inl (by rw[hG2] at q;exact q)) (λi j zi zj c hi hj ei ej=>by
   obtain⟨i',_,ki,k2,_⟩:=hpc i zi hi;obtain⟨j',_,kj,l2,_⟩:=hpc j zj hj;have:=F2.apart i' j' _ _ c k2 l2 ei ej;subst this;rw[ki] at kj;cases kj;rfl)
  have Un:((syl m.ag cs).all λy=>match y with| .tQ _=>false|_=>true)=true:=by
   cases m.ag with
   |false=>show(cs.map Sy.one).all _=true;rw[List.all_map];exact aY.2 λ_ _=>rfl
   |true=>rfl
  have mC:∀z∈syl m.ag cs,z.all (FU F (re++(Bi b 0 m.ug++(B9 m.sh mG).map λq=>(q,(none:Option R2)))))/\z.jW (ux A A2 b m.kp m.ug.length):=λz hz=>by
   cases hg:m.ag with
   |false=>
    rw[hg] at hz;obtain⟨c,hc,rfl⟩:=aN.1 hz;have:=DU ZW ZV c hc;exact⟨this.1,this.2 _⟩
   |true=>
    rw[hg] at hz;have:=av.1 hz;subst this;exact⟨λc hc=>(DU ZW ZV c hc).1,λc hc=>(DU ZW ZV c hc).2 _⟩
  refine⟨_,_,hsw,?_,(Bf mC).1,(Bf mC).2⟩;show v=(B7 (syl m.ag cs)).den _;have Dh:(pK m.rs y.2).map (Sc.den A2)=cs.map (Sc.den (ux A A2 b m.kp m.ug.length)):=by
   rw[qT agv λc hc=>(uW g5 c hc).1,(DQ ZV).1]
  rw[Gy Un,hv]
  congr 1
  unfold uV.rsy;cases m.ag with
  |false=>show(amn Sy.one _).map _=(cs.map Sy.one).map _;rw[cn,cn];exact Dh
  |true=>show[amm (amn (Sc.den A2) _).toArray]=[amm (amn _ cs).toArray];rw[Dh]
 cases h2
def sn {f:bB}{m:uV}{wA:m.X->Prop}{fx:m.X->m.Y}(ok:lH P f m wA fx):kG P:=⟨f,adM m wA fx,ZU ok⟩
end
section
variable {P:az}{T':iF}{v:af}
def adN (kR:List (Bool×Ty))(x:pW kR)(raw:List af):mK:=⟨yH 0 ((lu kR x 0).1++raw.map λu=>.one (tV u)),(lu kR x 0).2,(lu kR x 0).2.length⟩
theorem ZX {f:bB}(fn:Func)(n:Nat)(T:List (kG P)){kR:List (Bool×Ty)}{rs:List Ty}{fx:oh rs}(raw:List af)(o:Orig)(vs:List af)(x:pW kR)(hx:BW o.S (· <o.w.heap.size) o.w kR vs x)(hf:P.funcs[f]?=some fn)
  (k:∀a w,kX (jh.of o) n (adN kR x raw) a w->At pl P T (fn.body.getD .skip) (bodyPost P fn (FW o λS v w'=>pz S w' rs v fx)) [.run []] a w)
  (hb:fn.body.isSome=true:=by kernel_rfl) (hn:fn.ntmps=n:=by kernel_rfl) (hl:decide (kR.length+raw.length<=n)=true:=by kernel_rfl):Calls P f (vs++raw).toArray o.w (FW o λS v w'=>pz S w' rs v fx):=by
 have hlen:=yb hx;refine enter fn n hf (λa ha=>?_) hb hn (by rw[aO,hlen];exact hl);obtain⟨A,h1,h2,h3,h5,h4⟩:=ya (o:=jh.of o) kR x vs 0 TD (λ_=>False) (xB (λk hk=>⟨hk,λq=>q⟩) hx) λ_ _ q=>q;have mC:((lu kR x 0).1++raw.map λu=>Sy.one (tV u)).map (Sy.den A)=vs++raw:=by
  rw[bX,h2,cn]
  congr 1
  exact(dg λu _=>xg A u).trans (List.map_id raw)
 have Kn:∀y∈(lu kR x 0).1++raw.map λu=>Sy.one (tV u),y.all (FU (λ_=>False) (lu kR x 0).2)/\y.jW A:=λy hy=>by
  rcases aI.1 hy with hy|hy
  .exact h4 y hy
  obtain⟨u,_,rfl⟩:=aN.1 hy;exact⟨xh _ u,uJ A u⟩
 have qx:∀t e,qL (adN kR x raw) t=some e->e.ch=[]/\∃y,((lu kR x 0).1++raw.map λu=>Sy.one (tV u))[t]?=some y/\e=⟨[],y⟩:=λt e he=>by
  obtain⟨_,y,q1,q2⟩:=sN he;exact⟨by rw[q2],y,by simpa using q1,q2⟩
 have H0:j5 (jh.of o) n A o.S (λ_=>False) (λ_=>none) (λ_=>none) a o.w:=⟨ha.1,ha.2.1,λ_ _ q=>(by cases q),λ_ _ q=>(by cases q),λ_ _ q=>(by cases q),nK.start (jh.of o),λ_ _ q=>(by cases q),⟨λ_ q=>q.elim,λ_ q=>q.elim⟩⟩;have H1:=H0.ro (kD.refl _ _) h3;have hle:∀j,FU (λ_=>False) (lu kR x 0).2 j->j<(lu kR x 0).2.length:=λj hj=>by
  rcases hj with hj|⟨z,hz⟩
  .exact hj.elim
  have:=h5 _ hz;simpa using this
 have rW:kX (jh.of o) n (adN kR x raw) a o.w:=by
  refine⟨⟨A,o.S,H1.size,H1.lD,λt e he=>?_,λt e he _=>?_,λj y hj=>?_,H1.jd,H1.args,⟨λ_ q=>q.elim,λ_ q=>q.elim⟩⟩,λt e he=>(qx t e he).1,λ_ q=>q.elim⟩
  .obtain⟨_,y,q1,rfl⟩:=qx t e he;have hv:(vs++raw)[t]?=some (y.den A):=by rw[<-mC,cm,q1];rfl
   have Il:=(b7.1 hv).1;refine ha.2.2 ⟨t,[],y.den A⟩ (aN.2 ⟨(t,y.den A),?_,rfl⟩);refine akA.2 ⟨t,?_⟩;rw[alU];exact⟨by rw[List.getElem?_range Il],hv⟩
  .obtain⟨_,y,q1,rfl⟩:=qx t e he;have:=Kn y (bO q1);exact⟨Sy.mono hle this.1,this.2⟩
  have:=H1.j7 j y hj;exact⟨hle j this.1,R2.mono hle this.2.1,this.2.2⟩
 have:=k a o.w rW;have this:(sub (fn.body.getD .skip) []).qK pl P (post pl P (fn.body.getD .skip) (bodyPost P fn (FW o λS v w'=>pz S w' rs v fx)) []) a o.w:=this.get;have this:=DL.1 this;exact this
def adO (w:aa):Orig:=⟨w,λk=>k<w.heap.size,λ_ h=>h⟩
theorem Ro {f:bB}{args:Array af}{w:aa}{b:Bool}(h:Calls P f args w (FW (adO w) λS v w'=>pz S w' [.bool] v ((b,()):oh [.bool]))):Calls P f args w (SU (.bool b) w):=
 h.mono λe w' ⟨v,h1,h2,h3⟩=>by
  obtain⟨cs,q1,q2⟩:Rd (wX (adO w) w') w' v (show Bool from b):=h2;have q1:cs=[.bool b]:=q1;subst q1;exact⟨by rw[h1,q2];rfl,h3⟩
end
def pL (u:List Int):Prop:=∀j:Nat,j<u.length->0<=u.getD j 0/\u.getD j 0<=(j:Int)
def GF (u:List Int):Nat->Int->Int
 |0,i=>i
 |f+1,i=>if u.getD i.toNat 0=i then i else GF u f (u.getD i.toNat 0)
def iU (u:List Int)(i:Int):Int:=GF u (i.toNat+1) i
theorem mS {u:List Int}(h:pL u){i:Int}(h0:0<=i)(h1:i<(u.length:Int)):0<=u.getD i.toNat 0/\u.getD i.toNat 0<=i:=by
 have:=h i.toNat (by omega);omega
theorem GG {u:List Int}(h:pL u):∀(f g:Nat) (i:Int),0<=i->i<(u.length:Int)->i.toNat<f->i.toNat<g->GF u f i=GF u g i
 |0,_,_,_,_,h,_=>by omega
 |_+1,0,_,_,_,_,h=>by omega
 |f+1,g+1,i,h0,h1,hf,hg=>by
  unfold GF;split
  .rfl
  rename_i mc;have:=mS h h0 h1;exact GG h f g _ this.1 (by omega) (by omega) (by omega)
theorem nR {u:List Int}(h:pL u){i:Int}(h0:0<=i)(h1:i<(u.length:Int)):iU u i=if u.getD i.toNat 0=i then i else iU u (u.getD i.toNat 0):=by
 unfold iU
 conv=>lhs;unfold GF
 split
 .rfl
 rename_i mc;have:=mS h h0 h1;exact GG h _ _ _ this.1 (by omega) (by omega) (by omega)
theorem lK {u:List Int}(h:pL u){i:Int}(h0:0<=i)(h1:i<(u.length:Int))(hr:u.getD i.toNat 0=i):iU u i=i:=by rw[nR h h0 h1,ak hr]
theorem Aa {u:List Int}(h:pL u){i:Int}(h0:0<=i)(h1:i<(u.length:Int)):iU u (u.getD i.toNat 0)=iU u i:=by
 rw[nR h h0 h1];split
 .rename_i e;rw[e];exact lK h h0 h1 e
 rfl
theorem Vg {u:List Int}(h:pL u):∀(n:Nat) (i:Int),i.toNat<=n->0<=i->i<(u.length:Int)->0<=iU u i/\iU u i<=i/\u.getD (iU u i).toNat 0=iU u i:=by
 intro n
 induction n with
 |zero=>
  intro i hn h0 h1;have:=mS h h0 h1;rw[lK h h0 h1 (by omega)];exact⟨h0,bM _,by omega⟩
 |succ n ih=>
  intro i hn h0 h1;have hu:=mS h h0 h1;rw[nR h h0 h1];split
  .rename_i e;exact⟨h0,bM _,e⟩
  rename_i e;obtain⟨a,b,c⟩:=ih (u.getD i.toNat 0) (by omega) hu.1 (by omega);exact⟨a,by omega,c⟩
theorem pM {u:List Int}(h:pL u){i:Int}(h0:0<=i)(h1:i<(u.length:Int)):0<=iU u i/\iU u i<=i/\u.getD (iU u i).toNat 0=iU u i:=Vg h _ i (ay _) h0 h1
theorem vP {u:List Int}(h:pL u){i:Int}(h0:0<=i)(h1:i<(u.length:Int)):iU u (iU u i)=iU u i:=by
 obtain⟨a,b,c⟩:=pM h h0 h1;exact lK h a (by omega) c
theorem uX {u:List Int}{i j:Nat}{x:Int}(hi:i<u.length):(u.set i x).getD j 0=if i=j then x else u.getD j 0:=by
 rw[aH,anm,aH];split
 .rename_i e;subst e;simp[hi]
 rfl
theorem O5 {u:List Int}(h:pL u){i:Int}(h0:0<=i)(h1:i<(u.length:Int)):
  pL (u.set i.toNat (u.getD (u.getD i.toNat 0).toNat 0))/\∀j,0<=j->j<(u.length:Int)->iU (u.set i.toNat (u.getD (u.getD i.toNat 0).toNat 0)) j=iU u j:=by
 have hu:=mS h h0 h1;have hz:=mS h hu.1 (show u.getD i.toNat 0<(u.length:Int) by omega);have qj:pL (u.set i.toNat (u.getD (u.getD i.toNat 0).toNat 0)):=by
  intro j hj;rw[bS] at hj;rw[uX (by omega)];split
  .rename_i e;subst e;omega
  exact h j hj
 refine⟨qj,?_⟩;have key:∀(n:Nat) (j:Int),j.toNat<=n->0<=j->j<(u.length:Int)->iU (u.set i.toNat (u.getD (u.getD i.toNat 0).toNat 0)) j=iU u j:=by
  intro n
  induction n with
  |zero=>
   intro j hn Ab zo;have a:=mS h Ab zo;have b:=mS qj Ab (by rw[bS];exact zo);rw[lK h Ab zo (by omega),lK qj Ab (by rw[bS];exact zo) (by omega)]
  |succ n ih=>
   intro j hn Ab zo;have a:=mS h Ab zo;have adP:j<((u.set i.toNat (u.getD (u.getD i.toNat 0).toNat 0)).length:Int):=by rw[bS];exact zo
   rw[nR qj Ab adP,uX (by omega)]
   by_cases e:i.toNat=j.toNat
   .have e:i=j:=by omega
    subst e;rw[ak rfl]
    by_cases c:u.getD (u.getD i.toNat 0).toNat 0=i
    .rw[ak c,lK h h0 h1 (by omega)]
    rw[ah c,ih _ (by omega) hz.1 (by omega),Aa h hu.1 (by omega),Aa h h0 h1]
   rw[ah e];rw[nR h Ab zo];split
   .rfl
   exact ih _ (by omega) a.1 (by omega)
 exact λj=>key j.toNat j (ay _)
theorem ZY {u:List Int}(h:pL u){r s:Int}(hr:0<=r)(hs:0<=s)(hr1:r<(u.length:Int))(hs1:s<(u.length:Int))(er:u.getD r.toNat 0=r)(es:u.getD s.toNat 0=s)(mc:r≠s):
  pL (u.set (max r s).toNat (min r s))/\∀j,0<=j->j<(u.length:Int)->iU (u.set (max r s).toNat (min r s)) j=if iU u j=max r s then min r s else iU u j:=by
 have qj:pL (u.set (max r s).toNat (min r s)):=by
  intro j hj;rw[bS] at hj;rw[uX (by omega)];split
  .rename_i e;subst e;omega
  exact h j hj
 refine⟨qj,?_⟩;have rM:u.getD (max r s).toNat 0=max r s:=by
  rcases alV r s with q|q
  .rw[amo q];exact es
  rw[amq q];exact er
 have rm:u.getD (min r s).toNat 0=min r s:=by
  rcases alV r s with q|q
  .rw[amr q];exact er
  rw[ams q];exact es
 have key:∀(n:Nat) (j:Int),j.toNat<=n->0<=j->j<(u.length:Int)->iU (u.set (max r s).toNat (min r s)) j=if iU u j=max r s then min r s else iU u j:=by
  intro n
  induction n with
  |zero=>
   intro j hn Ab zo;have a:=mS h Ab zo;have b:=mS qj Ab (by rw[bS];exact zo);rw[lK h Ab zo (by omega),lK qj Ab (by rw[bS];exact zo) (by omega),ah (by omega)]
  |succ n ih=>
   intro j hn Ab zo;have a:=mS h Ab zo;have adP:j<((u.set (max r s).toNat (min r s)).length:Int):=by rw[bS];exact zo
   rw[nR qj Ab adP,uX (by omega)]
   by_cases e:(max r s).toNat=j.toNat
   .have e:j=max r s:=by omega
    subst e;rw[ak rfl,ah (by omega),ih (min r s) (by omega) (by omega) (by omega),lK h (by omega) (by omega) rm,lK h Ab zo rM,ah (by omega),ak rfl]
   rw[ah e,nR h Ab zo];split
   .rename_i c;rw[ah (by omega)]
   exact ih _ (by omega) a.1 (by omega)
 exact λj=>key j.toNat j (ay _)
theorem uh {u:List Int}{j:Nat}{x:Int}:(u++[x]).getD j 0=if j<u.length then u.getD j 0 else if j=u.length then x else 0:=by
 rw[aH,aH,am8];split
 .rfl
 by_cases e:j=u.length
 .rw[ak e];simp[e]
 rw[ah e,cN (by simp;omega)];rfl
theorem Nw {u:List Int}(h:pL u):pL (u++[(u.length:Int)])/\(∀j,0<=j->j<(u.length:Int)->iU (u++[(u.length:Int)]) j=iU u j)/\iU (u++[(u.length:Int)]) (u.length:Int)=(u.length:Int):=by
 have qj:pL (u++[(u.length:Int)]):=by
  intro j hj;rw[aO,cP] at hj;rw[uh];split
  .exact h j (by assumption)
  rw[ak (by omega)];omega
 have hl:((u++[(u.length:Int)]).length:Int)=(u.length:Int)+1:=by simp
 refine⟨qj,?_,lK qj (by omega) (by omega) (by rw[uh,ah (by omega),ak (by omega)])⟩;have key:∀(n:Nat) (j:Int),j.toNat<=n->0<=j->j<(u.length:Int)->iU (u++[(u.length:Int)]) j=iU u j:=by
  intro n
  induction n with
  |zero=>
   intro j hn Ab zo;have a:=mS h Ab zo;rw[lK h Ab zo (by omega),lK qj Ab (by omega) (by rw[uh,ak (by omega)];omega)]
  |succ n ih=>
   intro j hn Ab zo;have a:=mS h Ab zo;have e9:(u++[(u.length:Int)]).getD j.toNat 0=u.getD j.toNat 0:=by rw[uh,ak (by omega)]
   rw[nR qj Ab (by omega),nR h Ab zo,e9];split
   .rfl
   exact ih _ (by omega) a.1 (by omega)
 exact λj=>key j.toNat j (ay _)
theorem aiV (p:Addr)(w:aa)(hc:∃x,w.cell? p=some (.bool x))(hz:w.frozen? p=false):
  CallsD aq 166 #[.pointer (some p)] .returning w λe u' w'=>e= .returned (.tuple #[])/\u'= .returning/\w'=w.setCell p (.bool true):=by
 have⟨x,hc⟩:=hc;refine callsD_of_wpS func166 rfl λadQ cs hu=>?_;apply wpS_region;simp[wpOpsS,go_sem,recoverD,hu,Tryz.ntmps166,Exit.thenS,hc,hz,bodyPostS,results,Tryz.results166];cases adQ;simp_all
theorem aiW (sb pb:Nat)(x:Int)(w:aa)(Fp:(w.alloc (.cells #[.bool false] 4)).cell? ⟨sb,0,none⟩=some (.map (some pb)))(hl:∃v,(dR 140 (.map (some pb)) (.int .i64 x) false).run aq (w.alloc (.cells #[.bool false] 4))= .ok v (w.alloc (.cells #[.bool false] 4))):
  Calls aq 138 #[.pointer (some ⟨sb,0,none⟩),.int .i64 x] w (SU (.bool true) w):=by
 have⟨v,hl⟩:=hl;have hmf:∀(fn:Fn) (first cap:Array af) (w:aa),(Instr.makeFunc fn first cap).run aq w= .ok (.func fn first cap) w:=λ_ _ _ _=>rfl
 go_enter_defers func138,Tryz.ntmps138
 go_wp2
 refine leaves_cons (f:=166) (args:= #[.pointer (some ⟨w.heap.size,0,none⟩)]) (by simp) (by simp[go_sem]) ?_;refine(aiV ⟨w.heap.size,0,none⟩ _ ⟨true,by simp[go_sem]⟩ (by simp[go_sem])).mono ?_;rintro e u' w'' ⟨rfl,rfl,rfl⟩;simp[Leaves,settle,results,Tryz.results138,go_sem];exact⟨rfl,oJ _ _⟩
def adR (b:Nat)(jL:List (Nat×Nat))(ys:List Sy):Tr Out:=match jL,ys with
 |[],[.one (.ptr j 0),.one (.v (.int .i64 x))]=>.res j λz=>match z with
  | .box _ (.mp q::_)=>.res q λy=>match y with
   | .map .int .int _=>.ret ⟨[lY .int (show Int from x)],[],.one (.b (.lit true)),[]⟩
   |_=>.fail
  |_=>.fail
 |_,_=>.fail
theorem ZZ:xo aq 138 adR:=by
 intro o n A S F s r a w b B jL ys out H hF QX wC h j4 td hB;unfold adR at h;split at h
 .rename_i j x;obtain⟨z,hz,h⟩:=iQ h;split at h
  .rename_i bt q l;obtain⟨y,hy,h⟩:=iQ h;split at h
   .rename_i m;have e:=iW h;subst e;have hx:lY .int (show Int from x):=j4 _ (av.2 rfl);have hm:iZ A r j=some (Rs.of (.box (A.b j) bt ((Sc.mp q::l).map (Sc.den A)))):=by simp[iZ,hz,R2.den]
    have hb:w.heap[A.b j]?=some (.cells (((Sc.mp q::l).map (Sc.den A)).toArray) bt (0,0)):=H.jd.ok j _ hm;obtain⟨_,hbl,_⟩:=H.jd.own j _ (A.b j) hm rfl;have hq:iZ A r q=some (yC (A.m q) m):=by simp[iZ,hy,R2.den]
    obtain⟨pb,hpb,C7⟩:∃pb,A.m q=some pb/\p9 S w pb m:=H.jd.ok q _ hq;obtain⟨_,E8,_⟩:=H.jd.own q _ pb hq hpb;have Nx:=oJ w (.cells #[.bool false] 4);obtain⟨zs,ko,_,_⟩:=C7.keep (w':=w.alloc (.cells #[.bool false] 4)) (λk hk=>Nx.block k (H.jd.nO k hk)) (Nx.block pb E8);have E5:=ko.look (P:=aq) (t:=140) (kt:=3) (et:=3) (by kernel_rfl) (by kernel_rfl) (z:=.int .i64 0) (by kernel_rfl) hx;have qP:(w.alloc (.cells #[.bool false] 4)).cell? ⟨A.b j,0,none⟩=some (.map (some pb)):=by
     rw[cell_of_row _ _ _ _ _ _ ((Nx.block _ hbl).trans hb)];show some (Value.map (A.m q))=_;rw[hpb]
    refine(aiW (A.b j) pb x w qP ⟨_,E5⟩).mono λe w' hw=>?_;obtain⟨rfl,KM⟩:=hw;refine⟨_,rfl,A,S,?_,rfl,tv,tv⟩;exact⟨H.size,H.lD,H.env,λt e he hc=>⟨Sy.mono (λ_=>.inl) (H.qW t e he hc).1,(H.qW t e he hc).2⟩,λj x hj=>⟨.inl (H.j7 j x hj).1,R2.mono (λ_=>.inl) (H.j7 j x hj).2.1,(H.j7 j x hj).2.2⟩,H.jd.on KM,H.args,⟨λj hj=>.inl (H.zN.1 j hj),H.zN.2⟩⟩
   cases h
  cases h
 cases h
def acv:kG aq:=⟨_,adR,ZZ⟩
abbrev qn:=List (Int×Int)
def jX (M:qn)(L:List Int)(x:Int):qn:=if(iC M x).isSome then M else jM M x (L.length:Int)
def kA (M:qn)(L:List Int)(x:Int):List Int:=if(iC M x).isSome then L else L++[x]
def kK (M:qn)(L U:List Int)(x:Int):List Int:=if(iC M x).isSome then U else U++[(L.length:Int)]
def sr (M:qn)(g x:Int):Int:=if(iC M x).isSome then g else g+1
def lQ (M:qn)(L:List Int)(x:Int):Int:=(iC M x).getD (L.length:Int)
def MA:Nat->List Int->Int->List Int×Int
 |0,U,i=>(U,i)
 |f+1,U,i=>if U.getD i.toNat 0=i then(U,i) else MA f (U.set i.toNat (U.getD (U.getD i.toNat 0).toNat 0)) ((U.set i.toNat (U.getD (U.getD i.toNat 0).toNat 0)).getD i.toNat 0)
theorem hvS {f:Nat}{c:List Int}{k:Int}(hf:0<f)(h:¬c.getD k.toNat 0=k):MA f c k=MA (f-1) (c.set k.toNat (c.getD (c.getD k.toNat 0).toNat 0)) ((c.set k.toNat (c.getD (c.getD k.toNat 0).toNat 0)).getD k.toNat 0):=by
 obtain⟨q,rfl⟩:∃q,f=q+1:=⟨f-1,by omega⟩;rw[show q+1-1=q by omega]
 conv=>lhs;unfold MA
 rw[ah h]
theorem hvE {f:Nat}{c:List Int}{k:Int}(hf:0<f)(h:c.getD k.toNat 0=k):MA f c k=(c,k):=by
 obtain⟨q,rfl⟩:∃q,f=q+1:=⟨f-1,by omega⟩;unfold MA;rw[ak h]
def qQ (U:List Int)(i:Int):List Int:=(MA (i.toNat+1) U i).1
def Ct (U:List Int)(i:Int):Int:=(MA (i.toNat+1) U i).2
theorem DW:∀(f:Nat) (U:List Int) (i:Int),pL U->0<=i->i<(U.length:Int)->i.toNat<f->
  (MA f U i).2=iU U i/\pL (MA f U i).1/\(MA f U i).1.length=U.length/\∀j,0<=j->j<(U.length:Int)->iU (MA f U i).1 j=iU U j
 |0,_,_,_,_,_,h=>by omega
 |f+1,U,i,hU,h0,h1,hf=>by
  unfold MA;split
  .rename_i he;exact⟨(lK hU h0 h1 he).symm,hU,rfl,λ_ _ _=>rfl⟩
  rename_i he;have hy:=mS hU h0 h1;have hz:=mS hU hy.1 (show U.getD i.toNat 0<(U.length:Int) by omega);obtain⟨k1,k2⟩:=O5 hU h0 h1;have hn:(U.set i.toNat (U.getD (U.getD i.toNat 0).toNat 0)).getD i.toNat 0=U.getD (U.getD i.toNat 0).toNat 0:=by rw[uX (by omega),ak rfl]
  have hl:(U.set i.toNat (U.getD (U.getD i.toNat 0).toNat 0)).length=U.length:=bS ..;rw[hn];obtain⟨q1,q2,q3,q4⟩:=DW f (U.set i.toNat (U.getD (U.getD i.toNat 0).toNat 0)) (U.getD (U.getD i.toNat 0).toNat 0) k1 hz.1 (by omega) (by omega);refine⟨?_,q2,by omega,λj j0 j1=>by rw[q4 j j0 (by omega),k2 j j0 j1]⟩;rw[q1,k2 _ hz.1 (by omega),Aa hU hy.1 (by omega),Aa hU h0 h1]
def jnM (M:qn)(L:List Int)(x y:Int):qn:=jX (jX M L x) (kA M L x) y
def jnL (M:qn)(L:List Int)(x y:Int):List Int:=kA (jX M L x) (kA M L x) y
def Vh (M:qn)(L U:List Int)(x y:Int):List Int:=qQ (qQ (kK (jX M L x) (kA M L x) (kK M L U x) y) (lQ M L x)) (lQ (jX M L x) (kA M L x) y)
def yY (M:qn)(L U:List Int)(x y:Int):Int:=Ct (kK (jX M L x) (kA M L x) (kK M L U x) y) (lQ M L x)
def yZ (M:qn)(L U:List Int)(x y:Int):Int:=Ct (qQ (kK (jX M L x) (kA M L x) (kK M L U x) y) (lQ M L x)) (lQ (jX M L x) (kA M L x) y)
def SZ (M:qn)(L U:List Int)(x y:Int):List Int:=if yY M L U x y=yZ M L U x y then Vh M L U x y else(Vh M L U x y).set (max (yY M L U x y) (yZ M L U x y)).toNat (min (yY M L U x y) (yZ M L U x y))
def Rp (M:qn)(L U:List Int)(g x y:Int):Int:=if yY M L U x y=yZ M L U x y then sr (jX M L x) (sr M g x) y else sr (jX M L x) (sr M g x) y-1
def Vi (M:qn)(L U:List Int)(x y:Int):Bool:=if yY M L U x y=yZ M L U x y then false else true
structure y5 (M:qn)(L U:List Int):Prop where
 ok:pL U
 len:U.length=L.length
 at_:∀x i,iC M x=some i->0<=i/\i<(L.length:Int)/\L.getD i.toNat 0=x
 Fx:M.length<=L.length
 ex:∀i:Nat,i<L.length->iC M (L.getD i 0)=some (i:Int)
theorem KO (M:qn)(L:List Int)(x:Int):L.length<=(kA M L x).length/\(kA M L x).length<=L.length+1:=by
 unfold kA;split
 .omega
 simp
theorem Vj (M:qn)(g x:Int):g<=sr M g x/\sr M g x<=g+1:=by unfold sr;split<;>omega
theorem y5.nil:y5 [] [] []:=⟨λj h=>(by simp at h),rfl,λx i h=>(by cases h),ay _,λi h=>(by simp at h)⟩
theorem y5.put {M:qn}{L U:List Int}(h:y5 M L U)(x:Int):y5 (jX M L x) (kA M L x) (kK M L U x)/\0<=lQ M L x/\lQ M L x<((kA M L x).length:Int)/\iC (jX M L x) x=some (lQ M L x):=by
 cases hx:iC M x with
 |some i=>
  have e1:jX M L x=M:=by unfold jX;rw[hx];rfl
  have e2:kA M L x=L:=by unfold kA;rw[hx];rfl
  have e3:kK M L U x=U:=by unfold kK;rw[hx];rfl
  have e4:lQ M L x=i:=by unfold lQ;rw[hx];rfl
  rw[e1,e2,e3,e4];obtain⟨h1,h2,_⟩:=h.at_ x i hx;exact⟨h,h1,h2,hx⟩
 |none=>
  have e1:jX M L x=jM M x (L.length:Int):=by unfold jX;rw[hx];rfl
  have e2:kA M L x=L++[x]:=by unfold kA;rw[hx];rfl
  have e3:kK M L U x=U++[(L.length:Int)]:=by unfold kK;rw[hx];rfl
  have e4:lQ M L x=(L.length:Int):=by unfold lQ;rw[hx];rfl
  rw[e1,e2,e3,e4];have hlen:=h.len;have uu:∀i:Nat,i<L.length->L.getD i 0≠x:=λi hi q=>by
   have:=h.ex i hi;rw[q,hx] at this;cases this
  refine⟨⟨?_,by simp[hlen],λz i hz=>?_,?_,λi hi=>?_⟩,by omega,by simp;omega,by rw[jI,ak rfl]⟩
  .have:=(Nw h.ok).1;rwa[hlen] at this
  .rw[jI] at hz;split at hz
   .rename_i q;cases hz;subst q;refine⟨by omega,by simp;omega,?_⟩;rw[cH];simp
   obtain⟨k1,k2,k3⟩:=h.at_ z i hz;refine⟨k1,by simp;omega,?_⟩;rw[aH,cX (by omega),<-aH];exact k3
  .have:=mY M x (L.length:Int);have:=h.Fx;simp;omega
  rw[jI];simp at hi
  by_cases q:i<L.length
  .rw[aH,cX q,<-aH,ah λe=>uu i q e.symm];exact h.ex i q
  have:i=L.length:=by omega
  subst this;simp
theorem agw {U:List Int}{i j:Int}(hU:pL U)(i0:0<=i)(i1:i<(U.length:Int))(j0:0<=j)(j1:j<(U.length:Int)):
  pL (qQ U i)/\(qQ U i).length=U.length/\pL (qQ (qQ U i) j)/\(qQ (qQ U i) j).length=U.length/\0<=Ct U i/\Ct U i<(U.length:Int)/\0<=Ct (qQ U i) j/\Ct (qQ U i) j<(U.length:Int):=by
 obtain⟨a1,a2,a3,_⟩:=DW (i.toNat+1) U i hU i0 i1 (cQ _);have a3:(qQ U i).length=U.length:=a3;have a2:pL (qQ U i):=a2;obtain⟨b1,b2,b3,_⟩:=DW (j.toNat+1) (qQ U i) j a2 j0 (by omega) (cQ _);have b3:(qQ (qQ U i) j).length=(qQ U i).length:=b3;have a1:Ct U i=iU U i:=a1;have b1:Ct (qQ U i) j=iU (qQ U i) j:=b1;obtain⟨q1,q2,_⟩:=pM hU i0 i1;obtain⟨r1,r2,_⟩:=pM a2 j0 (show j<((qQ U i).length:Int) by omega);exact⟨a2,a3,b2,by omega,by rw[a1];exact q1,by rw[a1];omega,by rw[b1];exact r1,by rw[b1];omega⟩
def Ny (n:Int)(e:Int×Int):Prop:=0<=e.1/\e.1<n/\0<=e.2/\e.2<n
instance (n:Int) (e:Int×Int):Decidable (Ny n e):=by unfold Ny;infer_instance
def Rq (n:Int)(E:List (Int×Int)):Prop:=∀j,j<E.length->Ny n (E.getD j (0,0))
instance (n:Int) (E:List (Int×Int)):Decidable (Rq n E):=by unfold Rq;infer_instance
def jA (n:Int)(E:List (Int×Int)):Int:=if n<0 then 3 else if 1024<n\/1024-n<(E.length:Int) then 2 else if Rq n E then 0 else 3
theorem DX {n:Int}{E:List (Int×Int)}(h0:0<=n)(h1:n<=1024)(h2:(E.length:Int)<=1024-n){i:Int}(hi:0<=i)(hl:i<(E.length:Int))(h:¬Ny n (E.getD i.toNat (0,0))):jA n E=3:=by
 unfold jA;rw[ah (by omega),ah (by omega),ah (λq:Rq n E=>h (q i.toNat (by omega)))]
theorem GH {n:Int}{E:List (Int×Int)}(h0:0<=n)(h1:n<=1024)(h2:(E.length:Int)<=1024-n){i:Int}(hl:¬i<(E.length:Int))(h:∀j:Nat,(j:Int)<i->Ny n (E.getD j (0,0))):jA n E=0:=by
 unfold jA;rw[ah (by omega),ah (by omega),ak (show Rq n E from λj hj=>h j (by omega))]
def kT (l:List Int)(n:Int):Prop:=∀j,j<l.length->0<=l.getD j 0/\l.getD j 0<n/\(0<j->l.getD (j-1) 0<l.getD j 0)
instance (l:List Int) (n:Int):Decidable (kT l n):=by unfold kT;infer_instance
def DY (l:List Int)(x:Int):Nat->Int->Int->Int
 |0,lo,_=>lo
 |f+1,lo,hi=>if lo<hi then(if l.getD ((lo+hi)/2).toNat 0<x then DY l x f ((lo+hi)/2+1) hi else DY l x f lo ((lo+hi)/2)) else lo
def Vk (l:List Int)(x:Int):Int:=DY l x l.length 0 (l.length:Int)
def hasB (l:List Int)(x:Int):Bool:=decide (Vk l x<(l.length:Int)) && decide (l.getD (Vk l x).toNat 0=x)
theorem xE {l:List Int}{x lo hi:Int}(h:¬lo<hi):∀f,DY l x f lo hi=lo
 |0=>rfl
 |f+1=>by unfold DY;rw[ah h]
theorem yc {l:List Int}{x:Int}:∀(f g:Nat) (lo hi:Int),(hi-lo).toNat<=f->(hi-lo).toNat<=g->DY l x f lo hi=DY l x g lo hi
 |0,g,lo,hi,h1,h2=>by rw[xE (by omega),xE (by omega)]
 |f+1,0,lo,hi,h1,h2=>by rw[xE (by omega),xE (by omega)]
 |f+1,g+1,lo,hi,h1,h2=>by
  unfold DY
  by_cases h:lo<hi
  .rw[ak h,ak h];split
   .exact yc f g _ _ (by omega) (by omega)
   exact yc f g _ _ (by omega) (by omega)
  rw[ah h,ah h]
def O6 (l:List Int)(x lo hi:Int):Int:=DY l x (hi-lo).toNat lo hi
theorem acw {l:List Int}{x lo hi:Int}(h:lo<hi)(hx:l.getD ((lo+hi)/2).toNat 0<x):O6 l x lo hi=O6 l x ((lo+hi)/2+1) hi:=by
 unfold O6;obtain⟨f,hf⟩:∃f,(hi-lo).toNat=f+1:=⟨(hi-lo).toNat-1,by omega⟩;rw[hf]
 conv=>lhs;unfold DY
 rw[ak h,ak hx];exact yc _ _ _ _ (by omega) (by omega)
theorem acy {l:List Int}{x lo hi:Int}(h:lo<hi)(hx:¬l.getD ((lo+hi)/2).toNat 0<x):O6 l x lo hi=O6 l x lo ((lo+hi)/2):=by
 unfold O6;obtain⟨f,hf⟩:∃f,(hi-lo).toNat=f+1:=⟨(hi-lo).toNat-1,by omega⟩;rw[hf]
 conv=>lhs;unfold DY
 rw[ak h,ah hx];exact yc _ _ _ _ (by omega) (by omega)
theorem Iu {l:List Int}{x lo hi:Int}(h:¬lo<hi):O6 l x lo hi=lo:=xE h _
theorem acz (l:List Int)(x:Int):O6 l x 0 (l.length:Int)=Vk l x:=by unfold O6 Vk;congr 1
theorem Ca {l:List Int}{n:Int}(h:kT l n):∀j,j<l.length->(j:Int)<=l.getD j 0
 |0,hj=>by have:=h 0 hj;omega
 |j+1,hj=>by
  have ih:=Ca h j (by omega);have:=(h (j+1) hj).2.2 (by omega);rw[show j+1-1=j by omega] at this;omega
theorem l6 {l:List Int}{n:Int}(h:kT l n)(hn:0<=n):(l.length:Int)<=n:=by
 cases hl:l.length with
 |zero=>omega
 |succ m=>
  have h1:=Ca h m (by omega);have h2:=h m (by omega);omega
def Bl (E:List (Int×Int))(V L:List Int):Prop:=∀j,j<L.length->hasB V (E.getD (L.getD j 0).toNat (0,0)).1=true/\hasB V (E.getD (L.getD j 0).toNat (0,0)).2=true
instance (E:List (Int×Int)) (V L:List Int):Decidable (Bl E V L):=by unfold Bl;infer_instance
def jr (n:Int)(E:List (Int×Int))(V L:List Int):Int:=
 if jA n E≠0 then jA n E else if ¬kT V n\/¬kT L (E.length:Int) then 4 else if Bl E V L then 0 else 4
theorem kF {n:Int}{E:List (Int×Int)}(h:jA n E=0):0<=n/\n<=1024/\(E.length:Int)<=1024-n/\Rq n E:=by
 unfold jA at h;split at h
 .omega
 split at h
 .omega
 split at h
 .rename_i q;exact⟨by omega,by omega,by omega,q⟩
 omega
theorem Nz {l m:List Int}(hl:(l.length:Int)=(m.length:Int))(h:∀j:Nat,j<l.length->l.getD j 0=m.getD j 0):l=m:=by
 apply dZ (by omega);intro i h1 h2;have:=h i h1;simpa[aH,aR h1,aR h2] using this
theorem pN {l:List Int}{x:Int}:x∈l↔∃j,j<l.length/\l.getD j 0=x:=by
 constructor
 .intro h;obtain⟨j,hj,e⟩:=akN h;exact⟨j,hj,by rw[aH,aR hj];exact e⟩
 rintro⟨j,hj,e⟩;rw[aH,aR hj] at e;exact e▸cU hj
def agx (a b:List Int):Prop:=∀j,j<a.length->hasB b (a.getD j 0)=true
instance (a b:List Int):Decidable (agx a b):=by unfold agx;infer_instance
theorem jH {n:Int}{E:List (Int×Int)}{V L:List Int}(h:jr n E V L=0):jA n E=0/\kT V n/\kT L (E.length:Int)/\Bl E V L:=by
 unfold jr at h;split at h
 .rename_i q;exact(q h).elim
 rename_i q;split at h
 .omega
 rename_i q2;split at h
 .rename_i q3;exact⟨by omega,by have:=not_or.1 q2;exact eu.1 this.1,by have:=not_or.1 q2;exact eu.1 this.2,q3⟩
 omega
def iO (E:List (Int×Int))(d:Int):Int:=if d%2=0 then(E.getD (d/2).toNat (0,0)).1 else(E.getD (d/2).toNat (0,0)).2
def jG (d:Int):Int:=if d%2=0 then d+1 else d-1
def nD (E:List (Int×Int))(e v s:Int):List Int:=
 (if s<=0/\iO E (2*e+0)=v then[2*e+0] else[])++(if s<=1/\iO E (2*e+1)=v then[2*e+1] else[])
def oB (E:List (Int×Int))(L:List Int)(v:Int):List Int:=L.flatMap λe=>nD E e v 0
theorem Z0 {E:List (Int×Int)}{e:Int}:iO E (2*e+0)=(E.getD e.toNat (0,0)).1:=by
 unfold iO;rw[ak (by omega),show(2*e+0)/2=e by omega]
theorem Z1 {E:List (Int×Int)}{e:Int}:iO E (2*e+1)=(E.getD e.toNat (0,0)).2:=by
 unfold iO;rw[ah (by omega),show(2*e+1)/2=e by omega]
def acA (E:List (Int×Int))(L:List Int):List Int:=L.flatMap λe=>[(E.getD e.toNat (0,0)).1,(E.getD e.toNat (0,0)).2]
abbrev acB (l:List Int):List Int:=l.mergeSort λx y=>decide (x<=y)
def Iv (E:List (Int×Int))(e v:Int):Prop:=(E.getD e.toNat (0,0)).1=v\/(E.getD e.toNat (0,0)).2=v
instance (E:List (Int×Int)) (e v:Int):Decidable (Iv E e v):=by unfold Iv;infer_instance
theorem Ac {l:List Int}{n:Int}(h:kT l n):∀ {i j:Nat},i<j->j<l.length->l.getD i 0<l.getD j 0:=by
 intro i j JB hj
 induction j with
 |zero=>omega
 |succ j ih=>
  have h1:=(h (j+1) hj).2.2 (by omega);rw[show j+1-1=j by omega] at h1
  by_cases e:i=j
  .subst e;exact h1
  have:=ih (by omega) (by omega);omega
theorem DZ {l:List Int}{n x:Int}(h:kT l n):∀(f:Nat) (lo hi:Int),(hi-lo).toNat<=f->0<=lo->lo<=hi->hi<=(l.length:Int)->(∀j:Nat,(j:Int)<lo->l.getD j 0<x)->(∀j:Nat,hi<=(j:Int)->j<l.length->x<=l.getD j 0)->
  0<=O6 l x lo hi/\O6 l x lo hi<=(l.length:Int)/\(∀j:Nat,(j:Int)<O6 l x lo hi->l.getD j 0<x)/\(∀j:Nat,O6 l x lo hi<=(j:Int)->j<l.length->x<=l.getD j 0)
 |0,lo,hi,hf,h0,h1,h2,ha,hb=>by
  rw[Iu (by omega)];exact⟨h0,by omega,ha,λj hj=>hb j (by omega)⟩
 |f+1,lo,hi,hf,h0,h1,h2,ha,hb=>by
  by_cases pg:lo<hi
  .by_cases hx:l.getD ((lo+hi)/2).toNat 0<x
   .rw[acw pg hx];refine DZ h f _ _ (by omega) (by omega) (by omega) h2 (λj hj=>?_) hb
    by_cases e:j=((lo+hi)/2).toNat
    .rw[e];exact hx
    have:=Ac h (i:=j) (j:=((lo+hi)/2).toNat) (by omega) (by omega);omega
   rw[acy pg hx];refine DZ h f _ _ (by omega) h0 (by omega) (by omega) ha (λj hj hl=>?_)
   by_cases e:j=((lo+hi)/2).toNat
   .rw[e];omega
   have:=Ac h (i:=((lo+hi)/2).toNat) (j:=j) (by omega) hl;omega
  rw[Iu pg];exact⟨h0,by omega,ha,λj hj=>hb j (by omega)⟩
theorem KP {l:List Int}{n x:Int}(h:kT l n):hasB l x=decide (x∈l):=by
 obtain⟨h0,h1,h2,h3⟩:=DZ (x:=x) h l.length 0 (l.length:Int) (by omega) (by omega) (by omega) (bM _) (λj hj=>by omega) (λj hj hl=>by omega);rw[acz] at h0 h1 h2 h3;unfold hasB;rw[<-Bool.decide_and];refine decide_eq_decide.2 ⟨λ⟨a,b⟩=>pN.2 ⟨_,by omega,b⟩,λhm=>?_⟩;obtain⟨j,hj,e⟩:=pN.1 hm;have h4:¬(j:Int)<Vk l x:=λq=>by have:=h2 j q;omega
 have h5:=h3 (Vk l x).toNat (by omega) (by omega);refine⟨by omega,?_⟩
 by_cases e2:(Vk l x).toNat=j
 .rw[e2];exact e
 have:=Ac h (i:=(Vk l x).toNat) (j:=j) (by omega) hj;omega
end Go.Proofs.YtnfdimfepbbbpaaGreatDoor
namespace Go.Proofs.YtnfdimfepbbbpaaGreatDoor.Deep
structure Gr where
 L:List Int
 A:Int->Int
 B:Int->Int
namespace Gr
variable (G:Gr)
def inc (f x:Int):Prop:=G.A f=x\/G.B f=x
def lp (f:Int):Prop:=G.A f=G.B f
def qc (f x y:Int):Prop:=(G.A f=x/\G.B f=y)\/(G.A f=y/\G.B f=x)
def Fy (x y:Int):Prop:=∃f∈G.L,G.qc f x y
inductive qI (P:Int->Prop):Int->Int->Prop
 |refl {x}:P x->qI P x x
 |step {x y z}:qI P x y->G.Fy y z->P z->qI P x z
variable {G}
theorem qc.symm {f x y:Int}(h:G.qc f x y):G.qc f y x:=h.elim .inr .inl
theorem qc.left {f x y:Int}(h:G.qc f x y):G.inc f x:=h.elim (λh=>.inl h.1) (λh=>.inr h.2)
theorem qc.right {f x y:Int}(h:G.qc f x y):G.inc f y:=h.symm.left
theorem qc.of {f x y:Int}(h:G.qc f x y){z:Int}(hz:G.inc f z):z=x\/z=y:=by
 rcases h with⟨h1,h2⟩|⟨h1,h2⟩<;>rcases hz with e|e<;>simp_all
theorem Fy.symm {x y:Int}(h:G.Fy x y):G.Fy y x:=let⟨f,hf,hj⟩:=h;⟨f,hf,hj.symm⟩
theorem qI.mono {P P':Int->Prop}(hp:∀x,P x->P' x){x y:Int}(h:G.qI P x y):G.qI P' x y:=by
 induction h with
 |refl h=>exact .refl (hp _ h)
 |step _ ha hz ih=>exact .step ih ha (hp _ hz)
theorem qI.first {P:Int->Prop}{x y:Int}(h:G.qI P x y):P x:=by
 induction h with
 |refl h=>exact h
 |step _ _ _ ih=>exact ih
theorem qI.last {P:Int->Prop}{x y:Int}(h:G.qI P x y):P y:=by
 cases h with
 |refl h=>exact h
 |step _ _ h=>exact h
theorem qI.trans {P:Int->Prop}{x y z:Int}(h:G.qI P x y)(k:G.qI P y z):G.qI P x z:=by
 induction k with
 |refl _=>exact h
 |step _ ha hz ih=>exact .step ih ha hz
theorem qI.one {P:Int->Prop}{x y:Int}(hx:P x)(h:G.Fy x y)(hy:P y):G.qI P x y:=.step (.refl hx) h hy
theorem qI.symm {P:Int->Prop}{x y:Int}(h:G.qI P x y):G.qI P y x:=by
 induction h with
 |refl h=>exact .refl h
 |step h ha hz ih=>exact(qI.one hz ha.symm h.last).trans ih
theorem qI.closed {P Q:Int->Prop}(hc:∀x y,Q x->G.Fy x y->P y->Q y){x y:Int}(h:G.qI P x y)(hx:Q x):Q y:=by
 induction h with
 |refl _=>exact hx
 |step _ ha hz ih=>exact hc _ _ ih ha hz
end Gr
def Tog (G:Gr)(z f g:Int):Prop:=∃a b,G.inc f a/\a≠z/\G.inc g b/\b≠z/\G.qI (· ≠z) a b
structure St where
 met:Int->Int
 low:Int->Int
 cnt:Int
 wS:List Int
 lV:List (List Int)
 ins:List (Int×List Int)
def vq (f:Int->Int)(x y:Int):Int->Int:=λz=>if z=x then y else f z
theorem D3 (f:Int->Int)(x y:Int):vq f x y x=y:=by simp[vq]
theorem NA (f:Int->Int){x z:Int}(y:Int)(h:z≠x):vq f x y z=f z:=by simp[vq,h]
def enter (v:Int)(s:St):St:={s with cnt:=s.cnt+1,met:=vq s.met v (s.cnt+1),low:=vq s.low v (s.cnt+1)}
def key (b:List Int):Int×List Int:=((acB b).headD 0,acB b)
inductive Loop (D:Int->List Int)(T:Int->Int):Int->Int->List Int->St->St->Prop
 |nil {v via s}:Loop D T v via [] s s
 |lp {v via d ds s s'}:T d=v->Loop D T v via ds {s with ins:=s.ins++[(d/2,[d/2])]} s'->Loop D T v via (d::ds) s s'
 |via {v via d ds s s'}:T d≠v->d/2=via->Loop D T v via ds s s'->Loop D T v via (d::ds) s s'
 |keep {v via d ds s s1 s'}:T d≠v->d/2≠via->s.met (T d)=0->Loop D T (T d) (d/2) (D (T d)) (enter (T d) {s with wS:=s.wS++[d/2]}) s1->s1.low (T d)<s1.met v->
  Loop D T v via ds {s1 with low:=vq s1.low v (min (s1.low v) (s1.low (T d)))} s'->Loop D T v via (d::ds) s s'
 |take {v via d ds s s1 s' pre S}:T d≠v->d/2≠via->s.met (T d)=0->Loop D T (T d) (d/2) (D (T d)) (enter (T d) {s with wS:=s.wS++[d/2]}) s1->¬s1.low (T d)<s1.met v->s1.wS=pre++d/2::S->d/2∉pre->
  Loop D T v via ds {s1 with low:=vq s1.low v (min (s1.low v) (s1.low (T d))),wS:=pre,lV:=s1.lV++[d/2::S],ins:=s1.ins++[key (d/2::S)]} s'->Loop D T v via (d::ds) s s'
 |back {v via d ds s s'}:T d≠v->d/2≠via->s.met (T d)≠0->s.met (T d)<s.met v->Loop D T v via ds {s with wS:=s.wS++[d/2],low:=vq s.low v (min (s.low v) (s.met (T d)))} s'->Loop D T v via (d::ds) s s'
 |skip {v via d ds s s'}:T d≠v->d/2≠via->s.met (T d)≠0->¬s.met (T d)<s.met v->Loop D T v via ds s s'->Loop D T v via (d::ds) s s'
def Good (G:Gr)(uj:List Int)(b:List Int):Prop:=∃(p:Int) (N:Int->Prop),¬N p/\(∃f∈b,G.inc f p)/\(∀f∈b,f∈G.L/\¬G.lp f/\∃x y,N x/\(N y\/y=p)/\G.qc f x y)/\
 (∀x y,N x->G.Fy x y->N y\/y=p)/\(∀x,N x->∀f∈G.L,G.inc f x->G.lp f\/f∈b\/f∈uj)/\(∀f∈b,∀g∈b,∀z,Tog G z f g)
def yd (G:Gr):List Int->List (List Int)->Prop
 |_,[]=>True
 |uj,b::bs=>Good G uj b/\yd G (uj++b) bs
theorem yd.snoc {G:Gr}{b:List Int}:∀ {uj:List Int} {bs:List (List Int)},yd G uj bs->Good G (uj++bs.flatten) b->yd G uj (bs++[b])
 |e,[],_,h=>⟨by simpa using h,tv⟩
 |e,c::bs,h,hb=>⟨h.1,yd.snoc h.2 (by simpa[bC] using hb)⟩
structure wE (G:Gr)(D:Int->List Int)(T:Int->Int):Prop where
 mem:∀v d,d∈D v->d/2∈G.L/\G.qc (d/2) v (T d)
 all:∀f x,f∈G.L->G.inc f x->∃d∈D x,d/2=f
 one:∀v d d',d∈D v->d'∈D v->d/2=d'/2->T d≠v->d=d'
 nodup:∀v,(D v).Nodup
structure agy (G:Gr)(s:St):Prop where
 Vm:∀x,0<=s.met x/\s.met x<=s.cnt
 inj:∀x y,s.met x≠0->s.met x=s.met y->x=y
 bv:∀f∈s.lV.flatten,∀x,G.inc f x->s.met x≠0
 nd:(s.lV.flatten++s.wS).Nodup
 jW:yd G [] s.lV
 Rr:∀q∈s.ins,(q.2=[q.1]/\q.1∈G.L/\G.lp q.1)\/∃b∈s.lV,q=key b
 Rt:∀b∈s.lV,key b∈s.ins
 ne:∀b∈s.lV,b≠[]
structure Ctx (G:Gr)(Y:Int->Prop)(o:St)(v via:Int):Prop where
 mT:agy G o
 new:o.met v=0
 uy:∀x,Y x->o.met x≠0
 black:∀x y,o.met x≠0->¬Y x->G.Fy x y->o.met y≠0
 up:(via∉G.L/\(∀x,¬Y x)/\o.wS=[])\/(via∈G.L/\∃p,Y p/\G.qc via p v/\∀x,Y x->o.met x<=o.met p)
 sv:∀f∈o.wS,f=via\/∀x,G.inc f x->o.met x≠0
abbrev New (o s:St)(x:Int):Prop:=o.met x=0/\s.met x≠0
structure uz (G:Gr)(T:Int->Int)(Y:Int->Prop)(o:St)(v via:Int)(dn:List Int)(s:St)(S:List Int)(Bs:List (List Int)):Prop where
 mT:agy G s
 old:∀x,o.met x≠0->s.met x=o.met x
 Ru:∀x,o.met x≠0->s.low x=o.low x
 new:∀x,New o s x->o.cnt<s.met x
 Iw:s.met v=o.cnt+1
 wS:s.wS=o.wS++S
 lV:s.lV=o.lV++Bs
 seen:∀x y,New o s x->x≠v->G.Fy x y->s.met y≠0
 GI:∀d∈dn,s.met (T d)≠0
 sE:∀f∈S,f∈G.L/\¬G.lp f/\f≠via/\∃x y,New o s x/\(New o s y\/Y y)/\G.qc f x y
 bE:∀f∈Bs.flatten,∀x,G.inc f x->New o s x
 cov:∀x,New o s x->x≠v->∀f∈G.L,G.inc f x->(G.lp f/\(f,[f])∈s.ins)\/f∈S\/f∈Bs.flatten
 KQ:∀d∈dn,(G.lp (d/2)/\(d/2,[d/2])∈s.ins)\/d/2=via\/d/2∈S\/d/2∈Bs.flatten
 src:∀f∈S,G.inc f v->∀y,G.inc f y->Y y->∃d∈dn,d/2=f
 Z2:s.low v<=s.met v
 Vn:∀f∈S,∀y,Y y->G.inc f y->s.low v<=s.met y
 Z3:s.low v<s.met v->∃f∈S,∃x y,New o s x/\Y y/\G.qc f x y/\s.met y<=s.low v
 out:∀f∈S,∀z,New o s z->∃a y,G.inc f a/\a≠z/\Y y/\G.qI (λx=>(New o s x\/Y x)/\x≠z) a y
 conn:∀x,New o s x->G.qI (New o s) v x
 D4:∀q∈o.ins,q∈s.ins
section
variable {G:Gr}{D:Int->List Int}{T:Int->Int}{Y:Int->Prop}{o s:St}{v via:Int}{dn S:List Int}{Bs:List (List Int)}
theorem uz.KR (C:Ctx G Y o v via)(R:uz G T Y o v via dn s S Bs):New o s v:=⟨C.new,by rw[R.Iw];have:=(C.mT.Vm v).1;have:=(C.mT.Vm v).2;omega⟩
theorem uz.more (R:uz G T Y o v via dn s S Bs){d:Int}(h1:s.met (T d)≠0)(h2:(G.lp (d/2)/\(d/2,[d/2])∈s.ins)\/d/2=via\/d/2∈S\/d/2∈Bs.flatten):uz G T Y o v via (dn++[d]) s S Bs:=
 {R with
  GI:=λd' xw=>by
   rcases aI.1 xw with h|h
   .exact R.GI d' h
   rw[av.1 h];exact h1
  KQ:=λd' xw=>by
   rcases aI.1 xw with h|h
   .exact R.KQ d' h
   rw[av.1 h];exact h2
  src:=λf hf hv y hy hY=>by
   obtain⟨d',xw,e⟩:=R.src f hf hv y hy hY;exact⟨d',aS _ xw,e⟩}
theorem uz.lp (R:uz G T Y o v via dn s S Bs){e:Int}(hL:e∈G.L)(hl:G.lp e):uz G T Y o v via dn {s with ins:=s.ins++[(e,[e])]} S Bs:=
 {R with
  mT:={R.mT with
   Rr:=λq hq=>by
    rcases aI.1 hq with h|h
    .exact R.mT.Rr q h
    rw[av.1 h];exact .inl ⟨rfl,hL,hl⟩
   Rt:=λb hb=>aS _ (R.mT.Rt b hb)}
  cov:=λx hx mc f hf hi=>(R.cov x hx mc f hf hi).imp_left λh=>⟨h.1,aS _ h.2⟩
  KQ:=λd hd=>(R.KQ d hd).imp_left λh=>⟨h.1,aS _ h.2⟩
  D4:=λq hq=>aS _ (R.D4 q hq)}
theorem uz.Z4 (C:Ctx G Y o v via)(R:uz G T Y o v via dn s S Bs){w:Int}(hw:s.met w≠0)(pg:s.met w<s.met v)(adS:G.Fy w v):Y w:=by
 have ho:o.met w≠0:=λh0=>by
  have:=R.new w ⟨h0,hw⟩;rw[R.Iw] at pg;omega
 exact bT λhn=>C.black w v ho hn adS C.new
theorem uz.back (HD:wE G D T)(C:Ctx G Y o v via)(R:uz G T Y o v via dn s S Bs){d:Int}(hd:d∈D v)(MK:∀x∈dn,x∈D v)(O7:d∉dn)(h1:T d≠v)(h2:d/2≠via)(h3:s.met (T d)≠0)(h4:s.met (T d)<s.met v):
  uz G T Y o v via (dn++[d]) {s with wS:=s.wS++[d/2],low:=vq s.low v (min (s.low v) (s.met (T d)))} (S++[d/2]) Bs:=by
 obtain⟨hL,hj⟩:=HD.mem v d hd;have adS:G.Fy v (T d):=⟨_,hL,hj⟩;have hY:Y (T d):=R.Z4 C h3 h4 adS.symm;have MB:=R.KR C;have MC:¬G.lp (d/2):=λh=>by
  rcases hj with⟨a,b⟩|⟨a,b⟩
  .exact h1 (by rw[<-a,<-b];exact h.symm)
  exact h1 (by rw[<-a,<-b];exact h)
 have Z5:d/2∉s.lV.flatten:=λh=>by
  rw[R.lV,cK,aI] at h;rcases h with h|h
  .exact C.mT.bv _ h v hj.left C.new
  exact C.uy _ hY (R.bE _ h (T d) hj.right).1
 have NB:d/2∉s.wS:=λh=>by
  rw[R.wS,aI] at h;rcases h with h|h
  .rcases C.sv _ h with e|e
   .exact h2 e
   exact e v hj.left C.new
  obtain⟨d',xw,e⟩:=R.src _ h hj.left _ hj.right hY;exact O7 (HD.one v d d' hd (MK d' xw) e.symm h1▸xw)
 have aiX:∀x,o.met x≠0->vq s.low v (min (s.low v) (s.met (T d))) x=s.low x:=λx hx=>NA _ _ (λe=>hx (by rw[e];exact C.new));have Fo:vq s.low v (min (s.low v) (s.met (T d))) v=min (s.low v) (s.met (T d)):=D3 _ _ _;refine⟨⟨R.mT.Vm,R.mT.inj,R.mT.bv,?_,R.mT.jW,R.mT.Rr,R.mT.Rt,R.mT.ne⟩,R.old,λx hx=>(aiX x hx).trans (R.Ru x hx),R.new,R.Iw,by simp only[R.wS,bC],R.lV,R.seen,λd' xw=>?_,λf hf=>?_,R.bE,λx hx mc f hf hi=>?_,λd' xw=>?_,λf hf hv y hy E9=>?_,?_,λf hf y E9 hi=>?_,λh=>?_,λf hf z hz=>?_,R.conn,R.D4⟩
 .show(s.lV.flatten++(s.wS++[d/2])).Nodup;rw[<-bC,dF];refine⟨R.mT.nd,by simp,λa ha b hb=>?_⟩;rw[av.1 hb];rintro rfl;exact(aI.1 ha).elim Z5 NB
 .rcases aI.1 xw with h|h
  .exact R.GI d' h
  rw[av.1 h];exact h3
 .rcases aI.1 hf with h|h
  .exact R.sE f h
  rw[av.1 h];exact⟨hL,MC,h2,v,T d,MB,.inr hY,hj⟩
 .rcases R.cov x hx mc f hf hi with h|h|h
  .exact .inl h
  .exact .inr (.inl (aS _ h))
  exact .inr (.inr h)
 .rcases aI.1 xw with h|h
  .rcases R.KQ d' h with h|h|h|h
   .exact .inl h
   .exact .inr (.inl h)
   .exact .inr (.inr (.inl (aS _ h)))
   exact .inr (.inr (.inr h))
  exact .inr (.inr (.inl (bl _ (by rw[av.1 h];simp))))
 .rcases aI.1 hf with h|h
  .obtain⟨d',xw,e⟩:=R.src f h hv y hy E9;exact⟨d',aS _ xw,e⟩
  exact⟨d,by simp,(av.1 h).symm⟩
 .show vq s.low v _ v<=s.met v;rw[Fo];have:=R.Z2;omega
 .show vq s.low v _ v<=s.met y;rw[Fo];rcases aI.1 hf with h|h
  .have:=R.Vn f h y E9 hi;omega
  rw[av.1 h] at hi;rcases hj.of hi with rfl|rfl
  .exact absurd C.new (C.uy _ E9)
  omega
 .have h:vq s.low v (min (s.low v) (s.met (T d))) v<s.met v:=h;show ∃f∈_,∃x y,_/\_/\_/\s.met y<=vq s.low v _ v;rw[Fo] at h ⊢
  by_cases hm:s.low v<s.met (T d)
  .obtain⟨f,hf,x,y,a,b,c,e⟩:=R.Z3 (by omega);exact⟨f,aS _ hf,x,y,a,b,c,by omega⟩
  exact⟨d/2,by simp,v,T d,MB,hY,hj,by omega⟩
 rcases aI.1 hf with h|h
 .exact R.out f h z hz
 rw[av.1 h];have mc:T d≠z:=λe=>C.uy _ hY (by rw[e];exact hz.1);exact⟨T d,T d,hj.right,mc,hY,.refl ⟨.inr hY,mc⟩⟩
end
end Go.Proofs.YtnfdimfepbbbpaaGreatDoor.Deep
namespace Go.Proofs.YtnfdimfepbbbpaaGreatDoor.Deep
section
variable {G:Gr}{D:Int->List Int}{T:Int->Int}{Y:Int->Prop}{o s s1:St}{v via:Int}{dn S S1:List Int}{Bs B1:List (List Int)}
abbrev KS (Y:Int->Prop)(v x:Int):Prop:=Y x\/x=v
abbrev tC (s:St)(e:Int):St:={s with wS:=s.wS++[e]}
theorem uz.Vo (C:Ctx G Y o v via)(R:uz G T Y o v via dn s S Bs){e w:Int}(hi:G.inc e w)(hw:s.met w=0)(mc:e≠via):e∉s.wS:=by
 intro h;rw[R.wS,aI] at h;rcases h with h|h
 .rcases C.sv _ h with q|q
  .exact mc q
  exact q w hi (by
   have:=R.old w;exact bT λhh=>hh (by have:=this hh;omega))
 obtain⟨_,_,_,x,y,hx,hy,hj⟩:=R.sE e h;rcases hj.of hi with rfl|rfl
 .exact hx.2 hw
 rcases hy with hy|hy
 .exact hy.2 hw
 have h1:=C.uy _ hy;have:=R.old _ h1;omega
theorem uz.child (HD:wE G D T)(C:Ctx G Y o v via)(R:uz G T Y o v via dn s S Bs){d:Int}(hd:d∈D v)(h1:T d≠v)(h2:d/2≠via)(h3:s.met (T d)=0):
  Ctx G (KS Y v) (tC s (d/2)) (T d) (d/2):=by
 obtain⟨hL,hj⟩:=HD.mem v d hd;have MB:=R.KR C;have NB:d/2∉s.wS:=R.Vo C hj.right h3 h2;have Z5:d/2∉s.lV.flatten:=λh=>R.mT.bv _ h _ hj.right h3;refine⟨⟨R.mT.Vm,R.mT.inj,R.mT.bv,?_,R.mT.jW,R.mT.Rr,R.mT.Rt,R.mT.ne⟩,h3,λx hx=>?_,λx y hx hn ha=>?_,.inr ⟨hL,v,.inr rfl,hj,λx hx=>?_⟩,λf hf=>?_⟩
 .show(s.lV.flatten++(s.wS++[d/2])).Nodup;rw[<-bC,dF];refine⟨R.mT.nd,by simp,λa ha b hb=>?_⟩;rw[av.1 hb];rintro rfl;exact(aI.1 ha).elim Z5 NB
 .rcases hx with hx|rfl
  .have:=C.uy x hx;show s.met x≠0;rw[R.old x this];exact this
  exact MB.2
 .show s.met y≠0;have hx:s.met x≠0:=hx
  by_cases ho:o.met x=0
  .exact R.seen x y ⟨ho,hx⟩ (λe=>hn (.inr e)) ha
  have hy:=C.black x y ho (λe=>hn (.inl e)) ha;rw[R.old y hy];exact hy
 .rcases hx with hx|rfl
  .have h:=C.uy x hx;show s.met x<=s.met v;rw[R.old x h,R.Iw];have:=(C.mT.Vm x).2;omega
  exact bM _
 rcases aI.1 hf with h|h
 .refine .inr λx hi=>?_;show s.met x≠0;intro h0
  by_cases e:f=via
  .rcases C.up with⟨_,_,hs⟩|⟨_,p,hp,hjp,_⟩
   .rw[R.wS,hs,cT] at h;exact(R.sE f h).2.2.1 e
   rw[e] at hi;rcases hjp.of hi with rfl|rfl
   .have h1:=C.uy _ hp;have:=R.old _ h1;omega
   exact MB.2 h0
  exact R.Vo C hi h0 e h
 exact .inl (av.1 h)
structure aiY (G:Gr)(Y:Int->Prop)(o s s1:St)(v e w:Int)(S1:List Int)(B1:List (List Int)):Prop where
 nw:∀x,New o s1 x↔New o s x\/New s s1 x
 met:∀x,s.met x≠0->s1.met x=s.met x
 old:∀x,o.met x≠0->s1.met x=o.met x
 vs:s1.met v=s.met v
 lv:s1.low v=s.low v
 Vp:New s s1 w
 lt:s1.met v<s1.met w
theorem uz.behind (HD:wE G D T)(C:Ctx G Y o v via)(R:uz G T Y o v via dn s S Bs){d:Int}(hd:d∈D v)(h1:T d≠v)(h2:d/2≠via)(h3:s.met (T d)=0)
  (R1:uz G T (KS Y v) (tC s (d/2)) (T d) (d/2) (D (T d)) s1 S1 B1):aiY G Y o s s1 v (d/2) (T d) S1 B1:=by
 have C1:=R.child HD C hd h1 h2 h3;have MB:=R.KR C;have hm:∀x,s.met x≠0->s1.met x=s.met x:=R1.old;have hw:=R1.KR C1;refine⟨λx=>⟨λ⟨a,b⟩=>?_,λh=>?_⟩,hm,λx hx=>?_,hm v MB.2,R1.Ru v MB.2,hw,?_⟩
 .by_cases q:s.met x=0
  .exact .inr ⟨q,b⟩
  exact .inl ⟨a,q⟩
 .rcases h with⟨a,b⟩|⟨a,b⟩
  .exact⟨a,by rw[hm x b];exact b⟩
  refine⟨bT λq=>?_,b⟩;have:=R.old x q;omega
 .have:=R.old x hx;rw[hm x (by omega)];exact this
 rw[hm v MB.2];have:=R1.new _ hw;have h4:(tC s (d/2)).cnt=s.cnt:=rfl;have:=(R.mT.Vm v).2;omega
theorem uz.Z6 (HD:wE G D T)(R:uz G T Y o v via (D v) s S Bs)(x:Int)(hx:New o s x)(f:Int)(hf:f∈G.L)(hi:G.inc f x):(G.lp f/\(f,[f])∈s.ins)\/f=via\/f∈S\/f∈Bs.flatten:=by
 by_cases e:x=v
 .subst e;obtain⟨d,hd,rfl⟩:=HD.all f x hf hi;exact R.KQ d hd
 rcases R.cov x hx e f hf hi with h|h
 .exact .inl h
 exact .inr (.inr h)
theorem uz.Vq (HD:wE G D T)(R:uz G T Y o v via (D v) s S Bs)(x y:Int)(hx:New o s x)(ha:G.Fy x y):s.met y≠0:=by
 by_cases e:x=v
 .subst e;have⟨f,hf,hj⟩:=ha;obtain⟨d,hd,rfl⟩:=HD.all f x hf hj.left;obtain⟨_,QG⟩:=HD.mem x d hd;have:=R.GI d hd;rcases QG.of hj.right with rfl|rfl
  .exact hx.2
  exact this
 exact R.seen x y hx e ha
theorem uz.nbr (HD:wE G D T)(C:Ctx G Y o v via)(R:uz G T Y o v via (D v) s S Bs){x y:Int}(hx:New o s x)(ha:G.Fy x y):New o s y\/Y y:=by
 have hy:=R.Vq HD x y hx ha
 by_cases ho:o.met y=0
 .exact .inl ⟨ho,hy⟩
 exact .inr (bT λhn=>C.black y x ho hn ha.symm hx.1)
theorem uz.Vr (HD:wE G D T)(C:Ctx G Y o v via)(R:uz G T Y o v via dn s S Bs){d:Int}(hd:d∈D v)(h1:T d≠v)(h2:d/2≠via)(h3:s.met (T d)=0)
  (R1:uz G T (KS Y v) (tC s (d/2)) (T d) (d/2) (D (T d)) s1 S1 B1) (HA:¬s1.low (T d)<s1.met v) {f y:Int} (hf:f∈S1) (hy:KS Y v y) (hi:G.inc f y):y=v:=by
 have B:=R.behind HD C hd h1 h2 h3 R1;rcases hy with hy|hy
 .have h4:=R1.Vn f hf y (.inl hy) hi;have h5:=C.uy y hy;rw[B.old y h5] at h4;rw[B.vs,R.Iw] at HA;have:=(C.mT.Vm y).2;omega
 exact hy
theorem uz.stays (HD:wE G D T)(C:Ctx G Y o v via)(R:uz G T Y o v via dn s S Bs){d:Int}(hd:d∈D v)(h1:T d≠v)(h2:d/2≠via)(h3:s.met (T d)=0)
  (R1:uz G T (KS Y v) (tC s (d/2)) (T d) (d/2) (D (T d)) s1 S1 B1) (HA:¬s1.low (T d)<s1.met v) {x y:Int} (hx:New s s1 x) (ha:G.Fy x y):New s s1 y\/y=v:=by
 have C1:=R.child HD C hd h1 h2 h3;rcases R1.nbr HD C1 hx ha with h|h
 .exact .inl h
 refine .inr ?_;have⟨f,hf,hj⟩:=ha;have hyx:y≠x:=λe=>by
  have:=C1.uy y h;rw[e] at this;exact this hx.1
 rcases R1.Z6 HD x hx f hf hj.left with q|q|q|q
 .exfalso;have:G.A f=G.B f:=q.1;rcases hj with⟨a,b⟩|⟨a,b⟩
  .exact hyx (by rw[<-a,<-b,this])
  exact hyx (by rw[<-a,<-b,this])
 .obtain⟨_,hjd⟩:=HD.mem v d hd;rw[q] at hj;rcases hjd.of hj.right with e|e
  .exact e
  exfalso;have:=C1.uy y h;rw[e] at this;exact this h3
 .exact R.Vr HD C hd h1 h2 h3 R1 HA q h hj.right
 exfalso;exact C1.uy y h (R1.bE f q y hj.right).1
theorem uz.block (HD:wE G D T)(C:Ctx G Y o v via)(R:uz G T Y o v via dn s S Bs){d:Int}(hd:d∈D v)(h1:T d≠v)(h2:d/2≠via)(h3:s.met (T d)=0)
  (R1:uz G T (KS Y v) (tC s (d/2)) (T d) (d/2) (D (T d)) s1 S1 B1) (HA:¬s1.low (T d)<s1.met v):Good G ([]++s1.lV.flatten) (d/2::S1):=by
 obtain⟨hL,hj⟩:=HD.mem v d hd;have C1:=R.child HD C hd h1 h2 h3;have hw:=R1.KR C1;have hnv:¬New s s1 v:=λh=>(R.KR C).2 h.1;have MC:¬G.lp (d/2):=λh=>by
  rcases hj with⟨a,b⟩|⟨a,b⟩
  .exact h1 (by rw[<-a,<-b];exact h.symm)
  exact h1 (by rw[<-a,<-b];exact h)
 have GJ:∀f∈d/2::S1,f∈G.L/\¬G.lp f/\∃x y,New s s1 x/\(New s s1 y\/y=v)/\G.qc f x y:=by
  intro f hf;rcases aC.1 hf with rfl|hf
  .exact⟨hL,MC,T d,v,hw,.inr rfl,hj.symm⟩
  obtain⟨a,b,_,x,y,hx,hy,D5⟩:=R1.sE f hf;refine⟨a,b,x,y,hx,?_,D5⟩;rcases hy with hy|hy
  .exact .inl hy
  exact .inr (R.Vr HD C hd h1 h2 h3 R1 HA hf hy D5.right)
 have hstay:∀x y,New s s1 x->G.Fy x y->New s s1 y\/y=v:=λx y hx ha=>R.stays HD C hd h1 h2 h3 R1 HA hx ha;have sQ:∀f∈d/2::S1,∀z,∃a,G.inc f a/\a≠z/\G.qI (· ≠z) a (if New s s1 z then v else T d):=by
  intro f hf z
  by_cases hz:New s s1 z
  .rw[ak hz];have S5:v≠z:=λe=>hnv (e▸hz);rcases aC.1 hf with rfl|hf'
   .exact⟨v,hj.left,S5,.refl S5⟩
   obtain⟨a,y,hia,haz,hy,hr⟩:=R1.out f hf' z hz;refine⟨a,hia,haz,?_⟩;have E3:G.qI (· ≠z) a y:=hr.mono λx hx=>hx.2;have hQ:(New s s1 a\/G.qI (· ≠z) a v):=by
    obtain⟨_,_,x,y',hx,Rb,D5⟩:=GJ f hf;rcases D5.of hia with e|e
    .rw[e];exact .inl hx
    rcases Rb with Rb|Rb
    .rw[e];exact .inl Rb
    rw[e,Rb];exact .inr (.refl S5)
   have Fz:=Gr.qI.closed (P:=(· ≠z)) (Q:=λx=>G.qI (· ≠z) a x/\(New s s1 x\/G.qI (· ≠z) a v)) (λx y ⟨hx,CA⟩ ha hp=>by
    refine⟨.step hx ha hp,?_⟩;rcases CA with CA|CA
    .rcases hstay x y CA ha with h|h
     .exact .inl h
     exact .inr (h▸.step hx ha hp)
    exact .inr CA) E3 ⟨.refl haz,hQ⟩
   rcases Fz.2 with h|h
   .exact absurd h.1 (C1.uy y hy)
   exact h
  rw[ah hz];obtain⟨_,_,x,y,hx,hy,D5⟩:=GJ f hf;refine⟨x,D5.left,λe=>hz (e▸hx),(Gr.qI.mono (P:=New s s1) (P':=(· ≠z)) (λu hu=>λe:u=z=>hz (e▸hu)) (R1.conn x hx)).symm⟩
 refine⟨v,New s s1,hnv,⟨d/2,by simp,hj.left⟩,GJ,hstay,λx hx f hf hi=>?_,λf hf g hg z=>?_⟩
 .rcases R1.Z6 HD x hx f hf hi with q|q|q|q
  .exact .inl q.1
  .exact .inr (.inl (by rw[q];simp))
  .exact .inr (.inl (aE _ q))
  refine .inr (.inr ?_);rw[cT,R1.lV,cK];exact bl _ q
 obtain⟨a,ha,haz,hra⟩:=sQ f hf z;obtain⟨b,hb,hbz,hrb⟩:=sQ g hg z;exact⟨a,b,ha,haz,hb,hbz,hra.trans hrb.symm⟩
end
end Go.Proofs.YtnfdimfepbbbpaaGreatDoor.Deep
namespace Go.Proofs.YtnfdimfepbbbpaaGreatDoor.Deep
section
variable {G:Gr}{D:Int->List Int}{T:Int->Int}{Y:Int->Prop}{o s s1:St}{v via:Int}{dn S S1:List Int}{Bs B1:List (List Int)}
theorem uz.keep (HD:wE G D T)(C:Ctx G Y o v via)(R:uz G T Y o v via dn s S Bs){d:Int}(hd:d∈D v)(h1:T d≠v)(h2:d/2≠via)(h3:s.met (T d)=0)
  (R1:uz G T (KS Y v) (tC s (d/2)) (T d) (d/2) (D (T d)) s1 S1 B1) (pg:s1.low (T d)<s1.met v):
  uz G T Y o v via (dn++[d]) {s1 with low:=vq s1.low v (min (s1.low v) (s1.low (T d)))} (S++d/2::S1) (Bs++B1):=by
 obtain⟨hL,hj⟩:=HD.mem v d hd;have C1:=R.child HD C hd h1 h2 h3;have B:=R.behind HD C hd h1 h2 h3 R1;have MB:=R.KR C;have HE:New o s1 v:=(B.nw v).2 (.inl MB);have Rm:New o s1 (T d):=(B.nw _).2 (.inr B.Vp);have hYm:∀y,Y y->s1.met y=s.met y:=λy hy=>B.met y (C1.uy y (.inl hy));have MC:¬G.lp (d/2):=λh=>by
  rcases hj with⟨a,b⟩|⟨a,b⟩
  .exact h1 (by rw[<-a,<-b];exact h.symm)
  exact h1 (by rw[<-a,<-b];exact h)
 have Fo:vq s1.low v (min (s1.low v) (s1.low (T d))) v=min (s1.low v) (s1.low (T d)):=D3 _ _ _;have hold:∀x,o.met x≠0->vq s1.low v (min (s1.low v) (s1.low (T d))) x=o.low x:=λx hx=>by
  rw[NA _ _ (λe=>hx (by rw[e];exact C.new))];exact(R1.Ru x (by have:=R.old x hx;show s.met x≠0;omega)).trans (R.Ru x hx)
 have uu:∀x,New o s1 x->o.cnt<s1.met x:=λx hx=>by
  rcases(B.nw x).1 hx with h|h
  .rw[B.met x h.2];exact R.new x h
  have h4:=R1.new x h;have h5:(tC s (d/2)).cnt=s.cnt:=rfl;have:=(R.mT.Vm v).2;have:=R.Iw;omega
 have Vs:∀x y,New o s1 x->x≠v->G.Fy x y->s1.met y≠0:=λx y hx mc ha=>by
  rcases(B.nw x).1 hx with h|h
  .have:=R.seen x y h mc ha;rw[B.met y this];exact this
  exact R1.Vq HD x y h ha
 have NC:∀d'∈dn++[d],s1.met (T d')≠0:=λd' xw=>by
  rcases aI.1 xw with h|h
  .have:=R.GI d' h;rw[B.met _ this];exact this
  rw[av.1 h];exact B.Vp.2
 have hbE:∀f∈(Bs++B1).flatten,∀x,G.inc f x->New o s1 x:=λf hf x hi=>by
  rw[cK,aI] at hf;rcases hf with h|h
  .exact(B.nw x).2 (.inl (R.bE f h x hi))
  exact(B.nw x).2 (.inr (R1.bE f h x hi))
 have Vt:∀f∈S,G.inc f v->∀y,G.inc f y->Y y->∃d'∈dn++[d],d'/2=f:=λf hf hv y hy E9=>by
  obtain⟨d',xw,e⟩:=R.src f hf hv y hy E9;exact⟨d',aS _ xw,e⟩
 have Vu:min (s1.low v) (s1.low (T d))<=s1.met v:=by
  have:=R.Z2;rw[B.vs,B.lv];omega
 have Vv:∀f∈S,∀z,New o s1 z->∃a y,G.inc f a/\a≠z/\Y y/\G.qI (λx=>(New o s1 x\/Y x)/\x≠z) a y:=λf hf z hz=>by
  rcases(B.nw z).1 hz with h|h
  .obtain⟨a,y,k1,k2,k3,k4⟩:=R.out f hf z h;exact⟨a,y,k1,k2,k3,k4.mono λx hx=>⟨hx.1.imp_left λq=>(B.nw x).2 (.inl q),hx.2⟩⟩
  obtain⟨a,y,k1,k2,k3,k4⟩:=R.out f hf v MB;have xj:∀x,New o s x\/Y x->x≠z:=λx hx e=>by
   have h0:s.met z=0:=h.1;rw[<-e] at h0;rcases hx with hx|hx
   .exact hx.2 h0
   exact C1.uy x (.inl hx) h0
  exact⟨a,y,k1,xj a k4.first.1,k3,k4.mono λx hx=>⟨hx.1.imp_left λq=>(B.nw x).2 (.inl q),xj x hx.1⟩⟩
 have hvw:G.Fy v (T d):=⟨_,hL,hj⟩;have Vw:∀x,New o s1 x->G.qI (New o s1) v x:=λx hx=>by
  rcases(B.nw x).1 hx with h|h
  .exact(R.conn x h).mono λy hy=>(B.nw y).2 (.inl hy)
  exact(Gr.qI.one HE hvw Rm).trans (Gr.qI.mono (P:=New s s1) (λy hy=>(B.nw y).2 (.inr hy)) (R1.conn x h))
 have adT:∀q∈o.ins,q∈s1.ins:=λq hq=>R1.D4 q (R.D4 q hq);have adU:∀f∈S,f∈G.L/\¬G.lp f/\f≠via/\∃x y,New o s1 x/\(New o s1 y\/Y y)/\G.qc f x y:=λf hf=>by
  obtain⟨k1,k2,k3,x,y,hx,hy,D5⟩:=R.sE f hf;exact⟨k1,k2,k3,x,y,(B.nw x).2 (.inl hx),hy.imp_left λq=>(B.nw y).2 (.inl q),D5⟩
 obtain⟨f0,S6,x0,y0,QZ,hy0,Ab,aiZ⟩:=R1.Z3 (by have:=B.lt;omega);have QZ:New s s1 x0:=QZ;have hY0:Y y0:=by
  rcases hy0 with h|h
  .exact h
  rw[h] at aiZ;omega
 have hp:∃p,Y p/\G.Fy v p:=by
  rcases C.up with⟨_,h,_⟩|⟨hvL,p,hp,hjp,_⟩
  .exact absurd hY0 (h _)
  exact⟨p,hp,via,hvL,hjp.symm⟩
 have⟨p,hYp,hvp⟩:=hp;have YN:∀f∈S1,f∈G.L:=λf hf=>(R1.sE f hf).1;have Z7:¬New s s1 v:=λh=>MB.2 h.1;have hYn:∀y,Y y->¬New o s1 y:=λy hy h=>C.uy y hy h.1;have agz:∀y,Y y->¬New s s1 y:=λy hy h=>C1.uy y (.inl hy) h.1;refine⟨⟨R1.mT.Vm,R1.mT.inj,R1.mT.bv,R1.mT.nd,R1.mT.jW,R1.mT.Rr,R1.mT.Rt,R1.mT.ne⟩,B.old,hold,uu,B.vs.trans R.Iw,?_,?_,Vs,NC,λf hf=>?_,hbE,λx hx mc f hf hi=>?_,λd' xw=>?_,λf hf hv y hy E9=>?_,?_,λf hf y E9 hi=>?_,λh=>?_,λf hf z hz=>?_,Vw,adT⟩
 .show s1.wS=_;rw[R1.wS];show s.wS++[d/2]++S1=_;rw[R.wS];simp
 .show s1.lV=_;rw[R1.lV];show s.lV++B1=_;rw[R.lV];simp
 .rcases aI.1 hf with hf|hf
  .exact adU f hf
  rcases aC.1 hf with rfl|hf
  .exact⟨hL,MC,h2,v,T d,HE,.inl Rm,hj⟩
  obtain⟨k1,k2,k3,x,y,hx,hy,D5⟩:=R1.sE f hf;have hx:New s s1 x:=hx;refine⟨k1,k2,λe=>?_,x,y,(B.nw x).2 (.inr hx),?_,D5⟩
  .rcases C.up with⟨h,_⟩|⟨_,q,hq,hjq,_⟩
   .exact h (e▸k1)
   rw[e] at D5;rcases hjq.of D5.left with e'|e'
   .exact agz q hq (e'▸hx)
   exact Z7 (e'▸hx)
  rcases hy with hy|hy|hy
  .exact .inl ((B.nw y).2 (.inr hy))
  .exact .inr hy
  exact .inl (hy▸HE)
 .rcases(B.nw x).1 hx with h|h
  .rcases R.cov x h mc f hf hi with q|q|q
   .exact .inl ⟨q.1,R1.D4 _ q.2⟩
   .exact .inr (.inl (aS _ q))
   exact .inr (.inr (by rw[cK];exact aS _ q))
  rcases R1.Z6 HD x h f hf hi with q|q|q|q
  .exact .inl q
  .exact .inr (.inl (by rw[q];simp))
  .exact .inr (.inl (bl _ (aE _ q)))
  exact .inr (.inr (by rw[cK];exact bl _ q))
 .rcases aI.1 xw with h|h
  .rcases R.KQ d' h with q|q|q|q
   .exact .inl ⟨q.1,R1.D4 _ q.2⟩
   .exact .inr (.inl q)
   .exact .inr (.inr (.inl (aS _ q)))
   exact .inr (.inr (.inr (by rw[cK];exact aS _ q)))
  rw[av.1 h];exact .inr (.inr (.inl (by simp)))
 .rcases aI.1 hf with hf|hf
  .exact Vt f hf hv y hy E9
  rcases aC.1 hf with rfl|hf
  .exact⟨d,by simp,rfl⟩
  exfalso;obtain⟨k1,k2,k3,x,y',hx,Rb,D5⟩:=R1.sE f hf;have hx:New s s1 x:=hx;have hvy:v=y':=by
   rcases D5.of hv with e|e
   .exact absurd (e▸hx) Z7
   exact e
  have:y=y':=by
   rcases D5.of hy with e|e
   .exact absurd (e▸hx) (agz y E9)
   exact e
  rw[this,<-hvy] at E9;exact C.uy v E9 C.new
 .show vq s1.low v _ v<=s1.met v;rw[Fo];exact Vu
 .show vq s1.low v _ v<=s1.met y;rw[Fo];rcases aI.1 hf with hf|hf
  .have:=R.Vn f hf y E9 hi;rw[hYm y E9,B.lv];omega
  rcases aC.1 hf with rfl|hf
  .exfalso;rcases hj.of hi with e|e
   .exact C.uy y E9 (by rw[e];exact C.new)
   exact C1.uy y (.inl E9) (by rw[e];exact h3)
  have:=R1.Vn f hf y (.inl E9) hi;omega
 .have h:vq s1.low v (min (s1.low v) (s1.low (T d))) v<s1.met v:=h;show ∃f∈_,∃x y,_/\_/\_/\s1.met y<=vq s1.low v _ v;rw[Fo] at h ⊢
  by_cases hm:s1.low v<=s1.low (T d)
  .obtain⟨f,hf,x,y,k1,k2,k3,k4⟩:=R.Z3 (by rw[<-B.lv,<-B.vs];omega);exact⟨f,aS _ hf,x,y,(B.nw x).2 (.inl k1),k2,k3,by rw[hYm y k2];have:=B.lv;omega⟩
  exact⟨f0,bl _ (aE _ S6),x0,y0,(B.nw x0).2 (.inr QZ),hY0,Ab,by omega⟩
 rcases aI.1 hf with hf|hf
 .exact Vv f hf z hz
 have hup:v≠z->G.qI (λx=>(New o s1 x\/Y x)/\x≠z) v p:=λmc=>Gr.qI.one ⟨.inl HE,mc⟩ hvp ⟨.inr hYp,λe=>hYn p hYp (e▸hz)⟩;have vr:¬New s s1 z->∀x,New s s1 x->G.qI (λx=>(New o s1 x\/Y x)/\x≠z) (T d) x:=λhnz x hx=>
  Gr.qI.mono (P:=New s s1) (λy hy=>⟨.inl ((B.nw y).2 (.inr hy)),λe=>hnz (e▸hy)⟩) (R1.conn x hx)
 have agA:G.Fy x0 y0:=⟨f0,YN f0 S6,Ab⟩;rcases aC.1 hf with rfl|hf
 .by_cases S5:v=z
  .have hnz:¬New s s1 z:=S5▸Z7;exact⟨T d,y0,hj.right,λe=>hnz (e▸B.Vp),hY0,(vr hnz x0 QZ).step agA ⟨.inr hY0,λe=>hYn y0 hY0 (e▸hz)⟩⟩
  exact⟨v,p,hj.left,S5,hYp,hup S5⟩
 by_cases Ad:New s s1 z
 .obtain⟨a,y,k1,k2,k3,k4⟩:=R1.out f hf z Ad;have S5:v≠z:=λe=>Z7 (e▸Ad);have k4':G.qI (λx=>(New o s1 x\/Y x)/\x≠z) a y:=k4.mono λx hx=>by
   refine⟨?_,hx.2⟩;rcases hx.1 with h|h|h
   .exact .inl ((B.nw x).2 (.inr h))
   .exact .inr h
   exact .inl (h▸HE)
  rcases k3 with k3|k3
  .exact⟨a,y,k1,k2,k3,k4'⟩
  rw[k3] at k4';exact⟨a,p,k1,k2,hYp,k4'.trans (hup S5)⟩
 obtain⟨_,_,_,x,y,hx,hy,D5⟩:=R1.sE f hf;have hx:New s s1 x:=hx;have hxz:x≠z:=λe=>Ad (e▸hx);have acC:=(vr Ad x hx).symm
 by_cases S5:v=z
 .exact⟨x,y0,D5.left,hxz,hY0,(acC.trans (vr Ad x0 QZ)).step agA ⟨.inr hY0,λe=>hYn y0 hY0 (e▸hz)⟩⟩
 exact⟨x,p,D5.left,hxz,hYp,(acC.step hvw.symm ⟨.inl HE,S5⟩).trans (hup S5)⟩
theorem uz.take (HD:wE G D T)(C:Ctx G Y o v via)(R:uz G T Y o v via dn s S Bs){d:Int}(hd:d∈D v)(h1:T d≠v)(h2:d/2≠via)(h3:s.met (T d)=0)
  (R1:uz G T (KS Y v) (tC s (d/2)) (T d) (d/2) (D (T d)) s1 S1 B1) (HA:¬s1.low (T d)<s1.met v):
  uz G T Y o v via (dn++[d]) {s1 with low:=vq s1.low v (min (s1.low v) (s1.low (T d))),wS:=s.wS,lV:=s1.lV++[d/2::S1],ins:=s1.ins++[key (d/2::S1)]} S (Bs++B1++[d/2::S1]):=by
 obtain⟨hL,hj⟩:=HD.mem v d hd;have C1:=R.child HD C hd h1 h2 h3;have B:=R.behind HD C hd h1 h2 h3 R1;have MB:=R.KR C;have HE:New o s1 v:=(B.nw v).2 (.inl MB);have Rm:New o s1 (T d):=(B.nw _).2 (.inr B.Vp);have hYm:∀y,Y y->s1.met y=s.met y:=λy hy=>B.met y (C1.uy y (.inl hy));have MC:¬G.lp (d/2):=λh=>by
  rcases hj with⟨a,b⟩|⟨a,b⟩
  .exact h1 (by rw[<-a,<-b];exact h.symm)
  exact h1 (by rw[<-a,<-b];exact h)
 have Fo:vq s1.low v (min (s1.low v) (s1.low (T d))) v=min (s1.low v) (s1.low (T d)):=D3 _ _ _;have hold:∀x,o.met x≠0->vq s1.low v (min (s1.low v) (s1.low (T d))) x=o.low x:=λx hx=>by
  rw[NA _ _ (λe=>hx (by rw[e];exact C.new))];exact(R1.Ru x (by have:=R.old x hx;show s.met x≠0;omega)).trans (R.Ru x hx)
 have uu:∀x,New o s1 x->o.cnt<s1.met x:=λx hx=>by
  rcases(B.nw x).1 hx with h|h
  .rw[B.met x h.2];exact R.new x h
  have h4:=R1.new x h;have h5:(tC s (d/2)).cnt=s.cnt:=rfl;have:=(R.mT.Vm v).2;have:=R.Iw;omega
 have Vs:∀x y,New o s1 x->x≠v->G.Fy x y->s1.met y≠0:=λx y hx mc ha=>by
  rcases(B.nw x).1 hx with h|h
  .have:=R.seen x y h mc ha;rw[B.met y this];exact this
  exact R1.Vq HD x y h ha
 have NC:∀d'∈dn++[d],s1.met (T d')≠0:=λd' xw=>by
  rcases aI.1 xw with h|h
  .have:=R.GI d' h;rw[B.met _ this];exact this
  rw[av.1 h];exact B.Vp.2
 have hbE:∀f∈(Bs++B1).flatten,∀x,G.inc f x->New o s1 x:=λf hf x hi=>by
  rw[cK,aI] at hf;rcases hf with h|h
  .exact(B.nw x).2 (.inl (R.bE f h x hi))
  exact(B.nw x).2 (.inr (R1.bE f h x hi))
 have Vt:∀f∈S,G.inc f v->∀y,G.inc f y->Y y->∃d'∈dn++[d],d'/2=f:=λf hf hv y hy E9=>by
  obtain⟨d',xw,e⟩:=R.src f hf hv y hy E9;exact⟨d',aS _ xw,e⟩
 have Vu:min (s1.low v) (s1.low (T d))<=s1.met v:=by
  have:=R.Z2;rw[B.vs,B.lv];omega
 have Vv:∀f∈S,∀z,New o s1 z->∃a y,G.inc f a/\a≠z/\Y y/\G.qI (λx=>(New o s1 x\/Y x)/\x≠z) a y:=λf hf z hz=>by
  rcases(B.nw z).1 hz with h|h
  .obtain⟨a,y,k1,k2,k3,k4⟩:=R.out f hf z h;exact⟨a,y,k1,k2,k3,k4.mono λx hx=>⟨hx.1.imp_left λq=>(B.nw x).2 (.inl q),hx.2⟩⟩
  obtain⟨a,y,k1,k2,k3,k4⟩:=R.out f hf v MB;have xj:∀x,New o s x\/Y x->x≠z:=λx hx e=>by
   have h0:s.met z=0:=h.1;rw[<-e] at h0;rcases hx with hx|hx
   .exact hx.2 h0
   exact C1.uy x (.inl hx) h0
  exact⟨a,y,k1,xj a k4.first.1,k3,k4.mono λx hx=>⟨hx.1.imp_left λq=>(B.nw x).2 (.inl q),xj x hx.1⟩⟩
 have hvw:G.Fy v (T d):=⟨_,hL,hj⟩;have Vw:∀x,New o s1 x->G.qI (New o s1) v x:=λx hx=>by
  rcases(B.nw x).1 hx with h|h
  .exact(R.conn x h).mono λy hy=>(B.nw y).2 (.inl hy)
  exact(Gr.qI.one HE hvw Rm).trans (Gr.qI.mono (P:=New s s1) (λy hy=>(B.nw y).2 (.inr hy)) (R1.conn x h))
 have adT:∀q∈o.ins,q∈s1.ins:=λq hq=>R1.D4 q (R.D4 q hq);have adU:∀f∈S,f∈G.L/\¬G.lp f/\f≠via/\∃x y,New o s1 x/\(New o s1 y\/Y y)/\G.qc f x y:=λf hf=>by
  obtain⟨k1,k2,k3,x,y,hx,hy,D5⟩:=R.sE f hf;exact⟨k1,k2,k3,x,y,(B.nw x).2 (.inl hx),hy.imp_left λq=>(B.nw y).2 (.inl q),D5⟩
 have Kn:=R.block HD C hd h1 h2 h3 R1 HA;have GJ:∀f∈d/2::S1,∀x,G.inc f x->New o s1 x:=λf hf x hi=>by
  rcases aC.1 hf with rfl|hf
  .rcases hj.of hi with e|e
   .rw[e];exact HE
   rw[e];exact Rm
  obtain⟨_,_,_,x',y',hx,hy,D5⟩:=R1.sE f hf;rcases D5.of hi with e|e
  .rw[e];exact(B.nw x').2 (.inr hx)
  rcases hy with hy|hy
  .rw[e];exact(B.nw y').2 (.inr hy)
  rw[e,R.Vr HD C hd h1 h2 h3 R1 HA hf hy D5.right];exact HE
 have O7:(s1.lV.flatten++(s.wS++d/2::S1)).Nodup:=by
  have:=R1.mT.nd;rw[R1.wS] at this;simpa[tC] using this
 have ZE:min (s1.low v) (s1.low (T d))=s.low v:=by
  have:=R.Z2;rw[B.vs] at HA;rw[B.lv];omega
 refine⟨⟨R1.mT.Vm,R1.mT.inj,λf hf x hi=>?_,?_,R1.mT.jW.snoc Kn,λq hq=>?_,λb hb=>?_,λb hb=>?_⟩,B.old,hold,uu,B.vs.trans R.Iw,R.wS,?_,Vs,NC,adU,λf hf x hi=>?_,λx hx mc f hf hi=>?_,λd' xw=>?_,Vt,?_,λf hf y E9 hi=>?_,λh=>?_,Vv,Vw,λq hq=>aS _ (adT q hq)⟩
 .have hf:f∈(s1.lV++[d/2::S1]).flatten:=hf;rw[cK,aI] at hf;rcases hf with hf|hf
  .exact R1.mT.bv f hf x hi
  exact(GJ f (by simpa using hf) x hi).2
 .show((s1.lV++[d/2::S1]).flatten++s.wS).Nodup;rw[cK,bC];refine(List.Perm.nodup_iff (List.Perm.append_left _ ?_)).2 O7;simp only[alW,amt,bq];exact aou
 .rcases aI.1 hq with h|h
  .rcases R1.mT.Rr q h with h|⟨b,hb,e⟩
   .exact .inl h
   exact .inr ⟨b,aS _ hb,e⟩
  exact .inr ⟨_,bl _ (by simp),av.1 h⟩
 .rcases aI.1 hb with h|h
  .exact aS _ (R1.mT.Rt b h)
  rw[av.1 h];exact bl _ (by simp)
 .rcases aI.1 hb with h|h
  .exact R1.mT.ne b h
  rw[av.1 h];simp
 .show s1.lV++[d/2::S1]=_;rw[R1.lV];show s.lV++B1++_=_;rw[R.lV];simp
 .rw[cK,aI] at hf;rcases hf with hf|hf
  .exact hbE f hf x hi
  exact GJ f (by simpa using hf) x hi
 .rcases(B.nw x).1 hx with h|h
  .rcases R.cov x h mc f hf hi with q|q|q
   .exact .inl ⟨q.1,aS _ (R1.D4 _ q.2)⟩
   .exact .inr (.inl q)
   exact .inr (.inr (by simp only[cK,aI];exact .inl (.inl q)))
  rcases R1.Z6 HD x h f hf hi with q|q|q|q
  .exact .inl ⟨q.1,aS _ q.2⟩
  .exact .inr (.inr (by rw[q];simp))
  .exact .inr (.inr (by simp[q]))
  exact .inr (.inr (by simp only[cK,aI];exact .inl (.inr q)))
 .rcases aI.1 xw with h|h
  .rcases R.KQ d' h with q|q|q|q
   .exact .inl ⟨q.1,aS _ (R1.D4 _ q.2)⟩
   .exact .inr (.inl q)
   .exact .inr (.inr (.inl q))
   exact .inr (.inr (.inr (by simp only[cK,aI];exact .inl (.inl q))))
  rw[av.1 h];exact .inr (.inr (.inr (by simp)))
 .show vq s1.low v _ v<=s1.met v;rw[Fo];exact Vu
 .show vq s1.low v _ v<=s1.met y;rw[Fo,ZE,hYm y E9];exact R.Vn f hf y E9 hi
 have h:vq s1.low v (min (s1.low v) (s1.low (T d))) v<s1.met v:=h;show ∃f∈_,∃x y,_/\_/\_/\s1.met y<=vq s1.low v _ v;rw[Fo,ZE] at h ⊢;rw[B.vs] at h;obtain⟨f,hf,x,y,k1,k2,k3,k4⟩:=R.Z3 h;exact⟨f,hf,x,y,(B.nw x).2 (.inl k1),k2,k3,by rw[hYm y k2];exact k4⟩
end
end Go.Proofs.YtnfdimfepbbbpaaGreatDoor.Deep
namespace Go.Proofs.YtnfdimfepbbbpaaGreatDoor.Deep
section
variable {G:Gr}{D:Int->List Int}{T:Int->Int}
def left (U:List Int)(s:St):Nat:=(U.filter λx=>decide (s.met x=0)).length
end
end Go.Proofs.YtnfdimfepbbbpaaGreatDoor.Deep
namespace Go.Proofs.YtnfdimfepbbbpaaGreatDoor
open Go.RowKit
abbrev FA (l:List Int):Prop:=l.Pairwise (· < ·)
theorem iK {l:List Int}{n:Int}:kT l n↔FA l/\∀x∈l,0<=x/\x<n:=by
 constructor
 .intro h;refine⟨akB.2 λi j hi hj JB=>?_,λx hx=>?_⟩
  .have:=Ac h JB hj;simpa[aH,aR hi,aR hj] using this
  obtain⟨j,hj,rfl⟩:=pN.1 hx;have:=h j hj;omega
 rintro⟨h1,h2⟩ j hj;have hm:=h2 (l.getD j 0) (pN.2 ⟨j,hj,rfl⟩);refine⟨hm.1,hm.2,λh0=>?_⟩;have:=akB.1 h1 (j-1) j (by omega) hj (by omega);simpa[aH,aR hj,aR (show j-1<l.length by omega)] using this
theorem O8 {l m:List Int}(hl:FA l)(hm:FA m)(h:∀x,x∈l↔x∈m):l=m:=by
 induction l generalizing m with
 |nil=>
  cases m with
  |nil=>rfl
  |cons b m=>exact absurd ((h b).2 aA) (by simp)
 |cons a l ih=>
  cases m with
  |nil=>exact absurd ((h a).1 aA) (by simp)
  |cons b m=>
   obtain⟨a1,a2⟩:=akJ.1 hl;obtain⟨b1,b2⟩:=akJ.1 hm;have e:a=b:=by
    rcases aC.1 ((h a).1 aA) with q|q
    .exact q
    rcases aC.1 ((h b).2 aA) with p|p
    .exact p.symm
    have:=b1 a q;have:=a1 b p;omega
   subst e
   congr 1
   refine ih a2 b2 λx=>⟨λhx=>?_,λhx=>?_⟩
   .rcases aC.1 ((h x).1 (aE _ hx)) with q|q
    .subst q;have:=a1 x hx;omega
    exact q
   rcases aC.1 ((h x).2 (aE _ hx)) with q|q
   .subst q;have:=b1 x hx;omega
   exact q
theorem afE {E:List (Int×Int)}{L:List Int}{x:Int}:x∈acA E L↔∃e∈L,Iv E e x:=by
 unfold acA Iv;simp only[cy,aC,ak6,or_false];constructor<;>rintro⟨e,he,h⟩<;>exact⟨e,he,by rcases h with h|h;exact .inl h.symm;exact .inr h.symm⟩
theorem oC {E:List (Int×Int)}{L:List Int}{v d:Int}:d∈oB E L v↔d/2∈L/\iO E d=v:=by
 unfold oB nD;simp only[cy,aI];constructor
 .rintro⟨e,he,h⟩;rcases h with h|h
  .split at h
   .rename_i q;simp at h;subst h;refine⟨by rw[show(2*e)/2=e by omega];exact he,?_⟩;have:=q.2;rw[show 2*e+0=2*e by omega] at this;exact this
   simp at h
  split at h
  .rename_i q;simp at h;subst h;exact⟨by rw[show(2*e+1)/2=e by omega];exact he,q.2⟩
  simp at h
 rintro⟨he,h⟩;refine⟨d/2,he,?_⟩
 by_cases c:d%2=0
 .left;rw[ak ⟨by omega,by rw[show 2*(d/2)+0=d by omega];exact h⟩];simp;omega
 right;rw[ak ⟨by omega,by rw[show 2*(d/2)+1=d by omega];exact h⟩];simp;omega
theorem yI {E:List (Int×Int)}{e v s d:Int}(h:d∈nD E e v s):d=2*e\/d=2*e+1:=by
 unfold nD at h;rcases aI.1 h with h|h<;>split at h<;>simp at h<;>omega
theorem FB (E:List (Int×Int))(e v s:Int):FA (nD E e v s):=by
 unfold nD;split<;>split<;>simp<;>omega
theorem Iy {E:List (Int×Int)}{L:List Int}{v m:Int}(h:kT L m):kT (oB E L v) (2*m):=by
 obtain⟨h1,h2⟩:=iK.1 h;refine iK.2 ⟨?_,λx hx=>by have:=h2 _ (oC.1 hx).1;omega⟩;unfold oB;rw[FA,List.pairwise_flatMap];refine⟨λe _=>FB E e v 0,h1.imp λJE x hx y hy=>?_⟩;have:=yI hx;have:=yI hy;omega
end Go.Proofs.YtnfdimfepbbbpaaGreatDoor
namespace Go.Proofs.YtnfdimfepbbbpaaGreatDoor
open Go.Proofs.YtnfdimfepbbbpaaGreatDoor.Deep
def eA (E:List (Int×Int))(f:Int):Int:=(E.getD f.toNat (0,0)).1
def eB (E:List (Int×Int))(f:Int):Int:=(E.getD f.toNat (0,0)).2
abbrev grE (E:List (Int×Int))(L:List Int):Gr:=⟨L,eA E,eB E⟩
def jB (E:List (Int×Int))(d:Int):Int:=if d%2=0 then eB E (d/2) else eA E (d/2)
theorem CM {E:List (Int×Int)}{d:Int}:iO E d=if d%2=0 then eA E (d/2) else eB E (d/2):=rfl
theorem nG {l:List Int}(h:FA l):l.Nodup:=h.imp λh e=>by omega
theorem KT {E:List (Int×Int)}{L:List Int}{m:Int}(hL:kT L m):wE (grE E L) (oB E L) (jB E):=by
 have hj:∀v d,d∈oB E L v->(grE E L).qc (d/2) v (jB E d):=λv d hd=>by
  obtain⟨h1,h2⟩:=oC.1 hd;rw[CM] at h2;unfold jB Gr.qc;split at h2
  .rename_i h;rw[ak h];exact .inl ⟨h2,rfl⟩
  rename_i h;rw[ah h];exact .inr ⟨rfl,h2⟩
 refine⟨λv d hd=>⟨(oC.1 hd).1,hj v d hd⟩,λf x hf hi=>?_,λv d d' h1 h2 he mc=>?_,λv=>nG (iK.1 (Iy hL)).1⟩
 .rcases hi with h|h
  .refine⟨2*f,oC.2 ⟨by rw[show 2*f/2=f by omega];exact hf,?_⟩,by omega⟩;rw[CM,ak (by omega),show 2*f/2=f by omega];exact h
  refine⟨2*f+1,oC.2 ⟨by rw[show(2*f+1)/2=f by omega];exact hf,?_⟩,by omega⟩;rw[CM,ah (by omega),show(2*f+1)/2=f by omega];exact h
 refine bT λhd=>mc ?_;have t1:=(oC.1 h1).2;have t2:=(oC.1 h2).2;rw[CM] at t1 t2;unfold jB
 by_cases c:d%2=0
 .rw[ah (by omega),<-he] at t2;rw[ak c];exact t2
 rw[ak (by omega),<-he] at t2;rw[ah c];exact t2
def adV (E:List (Int×Int))(but:Int)(i:Nat)(m:List Int)(e:Int):List Int:=
 let m1:=if eA E e=m.getD i 0/\eB E e≠but/\eB E e∉m then m++[eB E e] else m
 if eB E e=m1.getD i 0/\eA E e≠but/\eA E e∉m1 then m1++[eA E e] else m1
def Z8 (E:List (Int×Int))(but:Int)(i:Nat)(l:List Int)(m:List Int):List Int:=l.foldl (adV E but i) m
def spF (E:List (Int×Int))(L:List Int)(but:Int):Nat->Nat->List Int->List Int
 |0,_,m=>m
 |f+1,i,m=>if i<m.length then spF E L but f (i+1) (Z8 E but i L m) else m
def spread (E:List (Int×Int))(L:List Int)(a but:Int):List Int:=spF E L but (2*L.length+1) 0 [a]
theorem Vx {m r:List Int}{i:Nat}(h:i<m.length):(m++r).getD i 0=m.getD i 0:=by
 rw[aH,aH,cX h]
section
variable {n:Int}{E:List (Int×Int)}{V L:List Int}{s:St}
end
def yJ (E:List (Int×Int))(m:List (Int×List Int))(e:Int):List (Int×List Int):=
 jM (jM m (E.getD e.toNat (0,0)).1 ((iC m (E.getD e.toNat (0,0)).1).getD []++[2*e])) (E.getD e.toNat (0,0)).2
  ((iC (jM m (E.getD e.toNat (0,0)).1 ((iC m (E.getD e.toNat (0,0)).1).getD []++[2*e])) (E.getD e.toNat (0,0)).2).getD []++[2*e+1])
def jT (E:List (Int×Int))(L:List Int):List (Int×List Int):=L.foldl (yJ E) []
theorem Rw {E:List (Int×Int)}{L M:List Int}{x:Int}:oB E (L++M) x=oB E L x++oB E M x:=by unfold oB;rw[List.flatMap_append]
theorem ND {E:List (Int×Int)}{L:List Int}{i:Int}(h0:0<=i)(h:i<(L.length:Int)):jT E (L.take (i+1).toNat)=yJ E (jT E (L.take i.toNat)) (L.getD i.toNat 0):=by
 unfold jT;rw[show(i+1).toNat=i.toNat+1 by omega,eC (by omega),dm,aH,aR (show i.toNat<L.length by omega)];rfl
theorem NF {E:List (Int×Int)}{m:List (Int×List Int)}{e v:Int}:(iC (yJ E m e) v).getD []=(iC m v).getD []++nD E e v 0:=by
 unfold yJ nD;rw[jI,jI,jI,Z0,Z1];generalize (E.getD e.toNat (0,0)).1=A;generalize (E.getD e.toNat (0,0)).2=B
 by_cases h1:A=v<;>by_cases h2:B=v
 .simp[h1,h2]
 .simp[h1,h2]
 .have:¬A=B:=λq=>h1 (q.trans h2);simp[h1,h2,this]
 simp[h1,h2]
theorem D6 (E:List (Int×Int))(v:Int):∀(L M:List Int),(∀x,(iC (M.foldl (yJ E) []) x).getD []=oB E M x)->(iC ((L.foldl (yJ E) (M.foldl (yJ E) []))) v).getD []=oB E (M++L) v
 |[],M,h=>by rw[bq];exact h v
 |e::L,M,h=>by
  have:=D6 E v L (M++[e]) λx=>by
   rw[dm,dG,aov,NF,h x,Rw];simp[oB]
  rw[dm,dG,aov] at this;rw[dG,this,bC];rfl
theorem ye {E:List (Int×Int)}{L:List Int}{v:Int}:(iC (jT E L) v).getD []=oB E L v:=by
 have:=D6 E v L [] λx=>rfl;exact this
theorem FC (E:List (Int×Int))(e v s:Int):(nD E e v s).length<=2:=by
 unfold nD;split<;>split<;>simp
theorem D7 (E:List (Int×Int))(v:Int):∀L:List Int,(oB E L v).length<=2*L.length
 |[]=>by simp[oB]
 |e::L=>by
  have h1:=FC E e v 0;have h2:=D7 E v L;show(nD E e v 0++oB E L v).length<=_;rw[aO,bA];omega
theorem GK (E:List (Int×Int)):∀(L:List Int) (m:List (Int×List Int)),(L.foldl (yJ E) m).length<=m.length+2*L.length
 |[],m=>by simp
 |e::L,m=>by
  have h1:=GK E L (yJ E m e);have h2:(yJ E m e).length<=m.length+2:=aU (mY _ _ _) (amZ (mY _ _ _));rw[dG,bA];omega
theorem O9 {n:Int}{E:List (Int×Int)}(hr:jA n E=0){e:Int}(h0:0<=e)(h1:e<(E.length:Int)):0<=(E.getD e.toNat (0,0)).1/\(E.getD e.toNat (0,0)).1<n/\0<=(E.getD e.toNat (0,0)).2/\(E.getD e.toNat (0,0)).2<n:=by
 obtain⟨_,_,_,h⟩:=kF hr;obtain⟨a,b,c,d⟩:=h e.toNat (by omega);exact⟨a,b,c,d⟩
theorem D8 {n:Int}{E:List (Int×Int)}{V L:List Int}(hp:jr n E V L=0){i:Int}{m:List (Int×List Int)}(hm:m=jT E (L.take i.toNat))(h0:0<=i)(h1:i<(L.length:Int)):
  (0<=L.getD i.toNat 0/\L.getD i.toNat 0<(E.length:Int)/\(E.length:Int)<=1024)/\
  (0<=(E.getD (L.getD i.toNat 0).toNat (0,0)).1/\(E.getD (L.getD i.toNat 0).toNat (0,0)).1<1024/\0<=(E.getD (L.getD i.toNat 0).toNat (0,0)).2/\(E.getD (L.getD i.toNat 0).toNat (0,0)).2<1024)/\
  ((iC m (E.getD (L.getD i.toNat 0).toNat (0,0)).1).getD []).length<=4096/\
  m.length<=4096/\
  ((iC (jM m (E.getD (L.getD i.toNat 0).toNat (0,0)).1 ((iC m (E.getD (L.getD i.toNat 0).toNat (0,0)).1).getD []++[2*L.getD i.toNat 0])) (E.getD (L.getD i.toNat 0).toNat (0,0)).2).getD []).length<=4096/\
  (jM m (E.getD (L.getD i.toNat 0).toNat (0,0)).1 ((iC m (E.getD (L.getD i.toNat 0).toNat (0,0)).1).getD []++[2*L.getD i.toNat 0])).length<=4096:=by
 subst hm;obtain⟨hr,hV,hL,_⟩:=jH hp;obtain⟨r1,r2,r3,r4⟩:=kF hr;have hlen:=l6 hL (by omega);obtain⟨k1,k2,_⟩:=hL i.toNat (by omega);obtain⟨e1,e2,e3,e4⟩:=O9 hr k1 k2;have Il:(L.take i.toNat).length<=1024:=by rw[aX];omega
 have hd:∀v,((iC (jT E (L.take i.toNat)) v).getD []).length<=2048:=λv=>by
  rw[ye];exact aU (D7 E v _) (by omega)
 have hl:=GK E (L.take i.toNat) [];have hl:(jT E (L.take i.toNat)).length<=2048:=by
  unfold jT;simp only[cq] at hl;omega
 refine⟨⟨k1,k2,by omega⟩,⟨e1,by omega,e3,by omega⟩,aU (hd _) (by omega),by omega,?_,aU (mY _ _ _) (by omega)⟩;rw[jI];split
 .have:=hd (E.getD (L.getD i.toNat 0).toNat (0,0)).1;simp only[dA,aO,cP];omega
 exact aU (hd _) (by omega)
def mE (E:List (Int×Int))(v shut:Int)(s:List (Int×Int)×List Int)(d:Int):List (Int×Int)×List Int:=
 if(iC s.1 (jB E d)).isSome=true\/jB E d=shut then s else(jM s.1 (jB E d) ((iC s.1 v).getD 0+1),s.2++[jB E d])
def ng (E:List (Int×Int))(M:List (Int×List Int))(v shut:Int)(s:List (Int×Int)×List Int):List (Int×Int)×List Int:=((iC M v).getD []).foldl (mE E v shut) s
def Bn (E:List (Int×Int))(M:List (Int×List Int))(shut:Int):Nat->Int->List (Int×Int)×List Int->List (Int×Int)
 |0,_,s=>s.1
 |f+1,v,s=>match(ng E M v shut s).2 with
  |[]=>(ng E M v shut s).1
  |x::q=>Bn E M shut f x ((ng E M v shut s).1,q)
def l7 (E:List (Int×Int))(M:List (Int×List Int))(a shut:Int):List (Int×Int):=Bn E M shut (2*E.length+2) a ([(a,0)],[])
theorem KU {α:Type}{l:List (Int×α)}{x:Int}{v:α}(h:iC l x=none):(jM l x v).length=l.length+1:=by
 rw[(J2 h).length_eq];rfl
structure Rx (U:List Int)(s:List (Int×Int)×List Int):Prop where
 nd:(s.1.map (·.1)).Nodup
 sub:∀p∈s.1,p.1∈U
theorem Rx.len {U:List Int}{s:List (Int×Int)×List Int}(h:Rx U s):s.1.length<=U.length:=by
 have:=List.Nodup.length_le_of_subset h.nd (l₂:=U) (λx hx=>by obtain⟨p,hp,rfl⟩:=aN.1 hx;exact h.sub p hp);rwa[aV] at this
theorem NG {U:List Int}{E:List (Int×Int)}{v shut d:Int}{s:List (Int×Int)×List Int}(h:Rx U s)(hd:jB E d∈U):Rx U (mE E v shut s d)/\(mE E v shut s d).1.length+s.2.length=s.1.length+(mE E v shut s d).2.length:=by
 unfold mE;split
 .exact⟨h,rfl⟩
 rename_i q;have hn:iC s.1 (jB E d)=none:=by
  cases hl:iC s.1 (jB E d) with
  |none=>rfl
  |some z=>exact(q (.inl (by rw[hl];rfl))).elim
 refine⟨⟨?_,λp hp=>?_⟩,?_⟩
 .have:=(J2 (v:=(iC s.1 v).getD 0+1) hn).map (·.1);refine this.nodup_iff.2 (akO.2 ⟨λhm=>?_,h.nd⟩);obtain⟨p,hp,e⟩:=aN.1 hm;exact uH.1 hn p.2 (by rw[show(jB E d,p.2)=p from Prod.ext e.symm rfl];exact hp)
 .rcases Oz.1 hp with rfl|⟨hp,_⟩
  .exact hd
  exact h.sub p hp
 show(jM s.1 _ _).length+s.2.length=s.1.length+(s.2++[jB E d]).length;rw[KU hn,aO];simp;omega
theorem agB {a:Bool}{p:Prop}(h:a=false/\¬p):¬(a=true\/p):=λq=>q.elim (λz=>by rw[h.1] at z;cases z) h.2
theorem Z9 {l:List Int}(h:¬l=[]):l=l.getD 0 0::l.drop 1:=by
 cases l with
 |nil=>exact(h rfl).elim
 |cons x l=>rfl
theorem KV {n:Int}{E:List (Int×Int)}(hr:jA n E=0){d:Int}(h0:0<=d)(h1:d/2<(E.length:Int)):0<=jB E d/\jB E d<1024/\jB E d∈E.flatMap λe=>[e.1,e.2]:=by
 have hn:=(kF hr).2.1;obtain⟨a,b,c,e⟩:=O9 hr (e:=d/2) (by omega) h1;have hm:E.getD (d/2).toNat (0,0)∈E:=by
  rw[aH,aR (show(d/2).toNat<E.length by omega)];exact cU _
 unfold jB eA eB;split
 .exact⟨c,by omega,cy.2 ⟨_,hm,by simp⟩⟩
 exact⟨a,by omega,cy.2 ⟨_,hm,by simp⟩⟩
def DOk (E:List (Int×Int))(M:List (Int×List Int)):Prop:=∀v,∀d∈(iC M v).getD [],0<=d/\d/2<(E.length:Int)
def univ (E:List (Int×Int))(a:Int):List Int:=a::E.flatMap λe=>[e.1,e.2]
theorem KW (E:List (Int×Int))(a:Int):(univ E a).length=2*E.length+1:=by
 have:∀E:List (Int×Int),(E.flatMap λe=>[e.1,e.2]).length=2*E.length:=λE=>by
  induction E with
  |nil=>rfl
  |cons e E ih=>rw[cx,aO,ih];simp;omega
 show(E.flatMap λe=>[e.1,e.2]).length+1=_;rw[this]
theorem aaa {n:Int}{E:List (Int×Int)}(hr:jA n E=0){a:Int}(h0:0<=a)(h1:a<1024):∀x∈univ E a,0<=x/\x<1024:=λx hx=>by
 have hn:=(kF hr).2.1;rcases aC.1 hx with rfl|hx
 .exact⟨h0,h1⟩
 obtain⟨e,he,hx⟩:=cy.1 hx;obtain⟨j,hj,rfl⟩:=akN he;have:=(kF hr).2.2.2 j hj;rw[aH,aR hj] at this;have⟨p,q,r,t⟩:=this;simp only[dA] at p q r t;rcases aC.1 hx with rfl|hx
 .exact⟨p,by omega⟩
 rw[av.1 hx];exact⟨r,by omega⟩
structure NH (E:List (Int×Int))(a:Int)(v:Int)(k:Nat)(m:List (Int×Int))(q:List Int):Prop where
 s:Rx (univ E a) (m,q)
 vU:v∈univ E a
 qU:∀x∈q,x∈univ E a
 n:m.length=k+1+q.length
 b:∀p∈m,0<=p.2/\p.2<=(k:Int)+1
 vM:(iC m v).isSome=true
 qM:∀x∈q,(iC m x).isSome=true
 c:0<=(iC m v).getD 0/\(iC m v).getD 0<=(k:Int)
structure Iz (E:List (Int×Int))(M:List (Int×List Int))(a shut v:Int)(ok:Bool)(q:List Int)(m:List (Int×Int))(k:Nat):Prop where
 go:ok=true->NH E a v k m q/\(∀p∈m,p.2<=(k:Int))/\l7 E M a shut=Bn E M shut (2*E.length+2-k) v (m,q)
 done:ok=false->m=l7 E M a shut
 kB:k<=2*E.length+1
theorem vQ {m:List (Int×Int)}{P:Int->Prop}(h0:P 0)(h:∀p∈m,P p.2)(v:Int):P ((iC m v).getD 0):=by
 cases hl:iC m v with
 |none=>exact h0
 |some z=>exact h _ (vD hl)
theorem Pa {α:Type}(a:Int)(y:α):iC [(a,y)] a=some y:=by
 cases h:iC [(a,y)] a with
 |none=>exact(uH.1 h y aA).elim
 |some z=>have:=av.1 (vD h);cases this;rfl
theorem Iz.init (E:List (Int×Int))(M:List (Int×List Int))(a shut:Int):Iz E M a shut a true [] [(a,0)] 0:=by
 refine⟨λ_=>⟨⟨⟨by simp,λp hp=>?_⟩,aA,λx hx=>(by cases hx),rfl,λp hp=>?_,by rw[Pa];rfl,λx hx=>(by cases hx),vQ (P:=λy=>0<=y/\y<=((0:Nat):Int)) ⟨by omega,by omega⟩ (λp hp=>by rw[av.1 hp];exact⟨by simp,by simp⟩) a⟩,λp hp=>?_,rfl⟩,(λq=>by cases q),by omega⟩
 .rw[av.1 hp];exact aA
 .rw[av.1 hp];exact⟨by simp,by simp⟩
 rw[av.1 hp];simp
theorem NH.bd {E:List (Int×Int)}{a v:Int}{k:Nat}{m:List (Int×Int)}{q:List Int}(h:NH E a v k m q):m.length<=2*E.length+1/\k<=2*E.length:=by
 have h1:=h.s.len;rw[KW] at h1;have h2:=h.n;simp only at h1;exact⟨h1,by omega⟩
theorem NH.agC {E:List (Int×Int)}{a v shut d:Int}{k:Nat}{m:List (Int×Int)}{q:List Int}(h:NH E a v k m q)(hd:jB E d∈univ E a)(hn:¬((iC m (jB E d)).isSome=true\/jB E d=shut)):
  NH E a v k (jM m (jB E d) ((iC m v).getD 0+1)) (q++[jB E d]):=by
 have hv:=h.vM;have e:mE E v shut (m,q) d=(jM m (jB E d) ((iC m v).getD 0+1),q++[jB E d]):=by unfold mE;rw[ah hn]
 obtain⟨k1,k2⟩:=NG (v:=v) (shut:=shut) h.s hd;rw[e] at k1 k2;have mc:¬jB E d=v:=λz=>hn (.inl (by rw[z];exact hv));refine⟨k1,h.vU,λx hx=>?_,?_,λp hp=>?_,?_,λx hx=>?_,?_⟩
 .rcases aI.1 hx with hx|hx
  .exact h.qU x hx
  rw[av.1 hx];exact hd
 .have:=h.n;simp only at k2;omega
 .have hc:=h.c;rcases Oz.1 hp with rfl|⟨hp,_⟩
  .exact⟨by show 0<=(iC m v).getD 0+1;omega,by show(iC m v).getD 0+1<=(k:Int)+1;omega⟩
  exact h.b p hp
 .rw[jI,ah mc];exact hv
 .rw[jI];split
  .rfl
  rename_i z;rcases aI.1 hx with hx|hx
  .exact h.qM x hx
  rw[av.1 hx] at z;exact(z rfl).elim
 rw[jI,ah mc];exact h.c
theorem tD {α:Type}(f:α->Int->α){l:List Int}{i:Int}(s:α)(h0:0<=i)(h:i<(l.length:Int)):(l.take (i+1).toNat).foldl f s=f ((l.take i.toNat).foldl f s) (l.getD i.toNat 0):=by
 rw[show(i+1).toNat=i.toNat+1 by omega,eC (by omega),dm,aH,aR (show i.toNat<l.length by omega)];rfl
theorem Iz.step {E:List (Int×Int)}{M:List (Int×List Int)}{a shut v:Int}{ok:Bool}{q q' q2:List Int}{m m':List (Int×Int)}{k:Nat}(h:Iz E M a shut v ok q m k)(qj:ok=true)(he:ng E M v shut (m,q)=(m',q'))(hm:NH E a v k m' q'):
  (q'=[]->Iz E M a shut 0 false q2 m' (k+1))/\(∀x t,q'=x::t->Iz E M a shut x true t m' (k+1)):=by
 obtain⟨h1,h2,h3⟩:=h.go qj;have⟨b1,b2⟩:=hm.bd;have hf:2*E.length+2-k=(2*E.length+2-(k+1))+1:=by omega
 have jU:l7 E M a shut=(match(m',q').2 with
  |[]=>(m',q').1
  |x::t=>Bn E M shut (2*E.length+2-(k+1)) x ((m',q').1,t)):=by
  rw[h3,hf,<-he];rfl
 refine⟨λz=>?_,λx t z=>?_⟩
 .subst z;exact⟨λw=>(by cases w),λ_=>jU.symm,by omega⟩
 subst z;refine⟨λ_=>⟨⟨⟨hm.s.nd,hm.s.sub⟩,hm.qU x aA,λy hy=>hm.qU y (aE _ hy),?_,λp hp=>?_,?_,?_,?_⟩,λp hp=>?_,jU⟩,λw=>(by cases w),by omega⟩
 .have:=hm.n;rw[bA] at this;omega
 .have:=hm.b p hp;exact⟨this.1,by omega⟩
 .exact hm.qM x aA
 .exact λy hy=>hm.qM y (aE _ hy)
 .exact vQ (P:=λy=>0<=y/\y<=((k+1:Nat):Int)) ⟨by omega,by omega⟩ (λp hp=>by have:=hm.b p hp;exact⟨this.1,by omega⟩) x
 have:=hm.b p hp;omega
def rX (l:List Int)(i:Int):List Int:=l.drop i.toNat++l.take i.toNat
def nh (l:List Int):Nat->Int
 |0=>0
 |k+1=>if l.getD k 0<l.getD (nh l k).toNat 0 then(k:Int) else nh l k
def iE (l:List Int):List Int:=rX l (nh l l.length)
theorem qy (l:List Int):∀k:Nat,0<=nh l k/\(nh l k=0\/nh l k<(k:Int))
 |0=>⟨bM _,.inl rfl⟩
 |k+1=>by
  obtain⟨h1,h2⟩:=qy l k;unfold nh;split
  .exact⟨by omega,.inr (by omega)⟩
  exact⟨h1,h2.imp id λh=>by omega⟩
theorem uk (l:List Int){i:Int}(h:0<=i):nh l (i+1).toNat=if l.getD i.toNat 0<l.getD (nh l i.toNat).toNat 0 then i else nh l i.toNat:=by
 rw[show(i+1).toNat=i.toNat+1 by omega];show(if _ then((i.toNat:Nat):Int) else _)=_;rw[cA h]
theorem kM (l:List Int):(iE l).length=l.length:=by
 unfold iE rX;rw[aO,bw,aX];have:=qy l l.length;omega
theorem tF {l:List Int}{x:Int}(h:x∈iE l):x∈l:=by
 unfold iE rX at h;rcases aI.1 h with h|h
 .exact dV h
 exact dh h
def Ae (P:List (Int×Int))(t:List Int):Nat->List (Int×Int)
 |0=>P
 |k+1=>jM (Ae P t k) (t.getD k 0) (k:Int)
def rY (T:List (List Int)):Nat->List (Int×Int)
 |0=>[]
 |v+1=>Ae (rY T v) (iE (T.getD v [])) (iE (T.getD v [])).length
theorem Ry {P:List (Int×Int)}{t:List Int}{i:Int}(h:0<=i):Ae P t (i+1).toNat=jM (Ae P t i.toNat) (t.getD i.toNat 0) i:=by
 rw[show(i+1).toNat=i.toNat+1 by omega];show jM _ _ ((i.toNat:Nat):Int)=_;rw[cA h]
theorem Rz {T:List (List Int)}{i:Int}(h:0<=i):rY T (i+1).toNat=Ae (rY T i.toNat) (iE (T.getD i.toNat [])) (iE (T.getD i.toNat [])).length:=by
 rw[show(i+1).toNat=i.toNat+1 by omega];rfl
theorem D9 (P:List (Int×Int))(t:List Int):∀k,(Ae P t k).length<=P.length+k
 |0=>ay _
 |k+1=>by
  have:=D9 P t k;have:=mY (Ae P t k) (t.getD k 0) (k:Int);show(jM _ _ _).length<=_;omega
theorem RA {α β:Type}{f:α->β}{T:List α}{i:Int}(d:α)(h0:0<=i)(h1:i<(T.length:Int)):(T.take (i+1).toNat).map f=(T.take i.toNat).map f++[f (T.getD i.toNat d)]:=by
 rw[show(i+1).toNat=i.toNat+1 by omega,amu,bX,aR (by omega)]
 congr 1
 rw[aH,aR (by omega)];rfl
theorem iL {α:Type}{l:List α}{i:Nat}{d:α}(h:i<l.length):l.getD i d∈l:=by
 rw[aH,aR h];exact cU _
def kC (T:List (List Int)):Prop:=∀l∈T,∀d∈l,-9223372036854775808<=d/\d<=9223372036854775807
def jo (T:List (List Int)):Prop:=T.length<=10000/\∀l∈T,l.length<=10000
theorem KX {T:List (List Int)}(h:jo T):∀v,(rY T v).length<=v*10000
 |0=>by simp[rY]
 |v+1=>by
  have h1:=KX h v;have h2:=D9 (rY T v) (iE (T.getD v [])) (iE (T.getD v [])).length;have h3:(T.getD v []).length<=10000:=by
   by_cases q:v<T.length
   .exact h.2 _ (iL q)
   rw[aH,cN (by omega)];simp
  rw[kM] at h2;show(Ae _ _ _).length<=_;rw[bZ,kM];omega
abbrev vR:Type:=List (List Int)×(List (Int×Int)×(List (Int×Int)×List Int))
def lq (r:Option vR)(d s:Int):Int×Bool:=match r with
 |none=>(0,false)
 |some (T,lv,pl,ds)=>match iC lv d with
  |none=>(0,false)
  |some v=>((T.getD v.toNat []).getD (((iC pl d).getD 0+s+((T.getD v.toNat []).length:Int))%((T.getD v.toNat []).length:Int)).toNat 0,true)
def Ea (r:Option vR)(d:Int):Prop:=match r with
 |none=>False
 |some (T,lv,pl,ds)=> ∀v,iC lv d=some v->0<=v/\v<(T.length:Int)/\(T.getD v.toNat []).length<=10000/\0<=(iC pl d).getD 0/\(iC pl d).getD 0<((T.getD v.toNat []).length:Int)
theorem Ea.some {r:Option vR}{d:Int}(h:Ea r d):∃x,r=Option.some x:=by
 cases r with
 |none=>exact h.elim
 |some x=>exact⟨x,rfl⟩
def Cu (M:List (Int×Int))(k v:Int):List (Int×Int):=jM (jM M k ((iC M k).getD 0)) k v
theorem Eb (M:List (Int×Int))(k v:Int):(Cu M k v).length<=M.length+2:=by
 have h1:=mY M k ((iC M k).getD 0);have h2:=mY (jM M k ((iC M k).getD 0)) k v;unfold Cu;omega
def lv1 (E:List (Int×Int))(M:List (Int×Int))(e:Int):List (Int×Int):=Cu (Cu M (2*e) (E.getD e.toNat (0,0)).1) (2*e+1) (E.getD e.toNat (0,0)).2
def AM (E:List (Int×Int))(L:List Int):Nat->List (Int×Int)
 |0=>[]
 |k+1=>lv1 E (AM E L k) (L.getD k 0)
def m7 (L:List Int):Nat->List Int
 |0=>[]
 |k+1=>m7 L k++[2*L.getD k 0,2*L.getD k 0+1]
theorem Vy {E:List (Int×Int)}{L:List Int}{i:Int}(h:0<=i):AM E L (i+1).toNat=lv1 E (AM E L i.toNat) (L.getD i.toNat 0):=by
 rw[show(i+1).toNat=i.toNat+1 by omega];rfl
theorem Vz {L:List Int}{i:Int}(h:0<=i):m7 L (i+1).toNat=m7 L i.toNat++[2*L.getD i.toNat 0,2*L.getD i.toNat 0+1]:=by
 rw[show(i+1).toNat=i.toNat+1 by omega];rfl
theorem Pb (E:List (Int×Int))(L:List Int):∀k,(AM E L k).length<=4*k
 |0=>ay _
 |k+1=>by
  have h:=Pb E L k;have h1:=Eb (AM E L k) (2*L.getD k 0) (E.getD (L.getD k 0).toNat (0,0)).1;have h2:=Eb (Cu (AM E L k) (2*L.getD k 0) (E.getD (L.getD k 0).toNat (0,0)).1) (2*L.getD k 0+1) (E.getD (L.getD k 0).toNat (0,0)).2;show(Cu _ _ _).length<=_;omega
theorem Af (L:List Int):∀k,(m7 L k).length=2*k
 |0=>rfl
 |k+1=>by
  have:=Af L k;show(m7 L k++[2*L.getD k 0,2*L.getD k 0+1]).length=_;rw[aO];simp;omega
def JF (lv:List (Int×Int))(v:Int)(t:List Int)(P:List (Int×Int)):Nat->Option (List (Int×Int))
 |0=>some P
 |k+1=>match JF lv v t P k with
  |none=>none
  |some Q=>if(iC lv (t.getD k 0)).isSome=true/\(iC lv (t.getD k 0)).getD 0=v/\(iC Q (t.getD k 0)).isSome=false then some (jM Q (t.getD k 0) (k:Int)) else none
def IA (lv:List (Int×Int))(T:List (List Int)):Nat->Option (List (Int×Int))
 |0=>some []
 |v+1=>match IA lv T v with
  |none=>none
  |some P=>JF lv (v:Int) (T.getD v []) P (T.getD v []).length
theorem KY {lv:List (Int×Int)}{v:Int}{t:List Int}{P:List (Int×Int)}{k:Nat}(h:JF lv v t P k=none):∀ {m:Nat},k<=m->JF lv v t P m=none
 |0,hm=>by rw[show k=0 by omega] at h;exact h
 |m+1,hm=>by
  by_cases q:k=m+1
  .rw[<-q];exact h
  have:=KY h (m:=m) (by omega);unfold JF;rw[this]
theorem KZ {lv:List (Int×Int)}{T:List (List Int)}{k:Nat}(h:IA lv T k=none):∀ {m:Nat},k<=m->IA lv T m=none
 |0,hm=>by rw[show k=0 by omega] at h;exact h
 |m+1,hm=>by
  by_cases q:k=m+1
  .rw[<-q];exact h
  have:=KZ h (m:=m) (by omega);unfold IA;rw[this]
theorem K0 {lv:List (Int×Int)}{v:Int}{t:List Int}{P Q:List (Int×Int)}{i:Int}(h:0<=i)(hQ:JF lv v t P i.toNat=some Q):
  JF lv v t P (i+1).toNat=if(iC lv (t.getD i.toNat 0)).isSome=true/\(iC lv (t.getD i.toNat 0)).getD 0=v/\(iC Q (t.getD i.toNat 0)).isSome=false then some (jM Q (t.getD i.toNat 0) i) else none:=by
 rw[show(i+1).toNat=i.toNat+1 by omega]
 conv=>lhs;unfold JF
 rw[hQ];show(if _ then some (jM Q _ ((i.toNat:Nat):Int)) else none)=_;rw[cA h]
theorem La {lv:List (Int×Int)}{T:List (List Int)}{P:List (Int×Int)}{v:Int}(h:0<=v)(hP:IA lv T v.toNat=some P):IA lv T (v+1).toNat=JF lv v (T.getD v.toNat []) P (T.getD v.toNat []).length:=by
 rw[show(v+1).toNat=v.toNat+1 by omega]
 conv=>lhs;unfold IA
 rw[hP];show JF lv ((v.toNat:Nat):Int) _ _ _=_;rw[cA h]
theorem IB {lv:List (Int×Int)}{v:Int}{t:List Int}{P:List (Int×Int)}:∀ {k:Nat} {Q:List (Int×Int)},JF lv v t P k=some Q->Q.length<=P.length+k
 |0,Q,h=>by cases h;omega
 |k+1,Q,h=>by
  unfold JF at h;split at h
  .cases h
  rename_i R hR;have:=IB hR;split at h
  .cases h;have:=mY R (t.getD k 0) (k:Int);omega
  cases h
theorem IC {lv:List (Int×Int)}{T:List (List Int)}(hs:jo T):∀ {v:Nat} {Q:List (Int×Int)},IA lv T v=some Q->Q.length<=v*10000
 |0,Q,h=>by cases h;simp
 |v+1,Q,h=>by
  unfold IA at h;split at h
  .cases h
  rename_i R hR;have h1:=IC hs hR;have h2:=IB h;have h3:(T.getD v []).length<=10000:=by
   by_cases q:v<T.length
   .exact hs.2 _ (iL q)
   rw[aH,cN (by omega)];simp
  rw[bZ];omega
def mF (n:Int)(E:List (Int×Int))(V L:List Int)(T:List (List Int)):Option vR×Int:=
 if jr n E V L≠0 then(none,jr n E V L) else if(T.length:Int)≠n then(none,5) else match IA (AM E L L.length) T T.length with
  |none=>(none,5)
  |some P=>if(P.length:Int)≠((AM E L L.length).length:Int) then(none,5) else(some (T.map iE,AM E L L.length,rY T T.length,m7 L L.length),0)
theorem VA {n:Int}{E:List (Int×Int)}{V L:List Int}{T:List (List Int)}(h1:jr n E V L=0)(h2:(T.length:Int)=n)(h3:IA (AM E L L.length) T T.length=none):mF n E V L T=(none,5):=by
 unfold mF;rw[ah (by omega),ah (by omega),h3]
theorem VB {n:Int}{E:List (Int×Int)}{V L:List Int}{T:List (List Int)}(h1:jr n E V L=0)(h2:¬(T.length:Int)=n):mF n E V L T=(none,5):=by
 unfold mF;rw[ah (by omega),ak h2]
theorem VC {n:Int}{E:List (Int×Int)}{V L:List Int}{T:List (List Int)}{P:List (Int×Int)}(h1:jr n E V L=0)(h2:(T.length:Int)=n)(h3:IA (AM E L L.length) T T.length=some P)(h4:¬(P.length:Int)=((AM E L L.length).length:Int)):mF n E V L T=(none,5):=by
 unfold mF;rw[ah (by omega),ah (by omega),h3];exact ak h4
theorem Pd {n:Int}{E:List (Int×Int)}{V L:List Int}{T:List (List Int)}{P:List (Int×Int)}(h1:jr n E V L=0)(h2:(T.length:Int)=n)(h3:IA (AM E L L.length) T T.length=some P)(h4:(P.length:Int)=((AM E L L.length).length:Int)):mF n E V L T=(some (T.map iE,AM E L L.length,rY T T.length,m7 L L.length),0):=by
 unfold mF;rw[ah (by omega),ah (by omega),h3];exact ah (by omega)
theorem cover {α:Type}[DecidableEq α]{l m:List α}(hl:l.Nodup)(hs:∀x∈l,x∈m)(h:m.length<=l.length):∀x∈m,x∈l:=λx hx=>bT λq=>by
 have h1:(x::l).Nodup:=akO.2 ⟨q,hl⟩;have:=h1.length_le_of_subset (l₂:=m) λy hy=>(aC.1 hy).elim (λe=>e▸hx) (hs y);simp at this;omega
theorem nY {α:Type}{l:List α}{z:α}(h:l.Nodup){i j:Nat}(hi:i<l.length)(hj:j<l.length)(e:l.getD i z=l.getD j z):i=j:=by
 rw[aH,aH,aR hi,aR hj] at e;exact(List.getElem_inj h).1 e
theorem iV {α:Type}{l:List α}{z x:α}:x∈l↔∃j,j<l.length/\l.getD j z=x:=by
 constructor
 .intro h;obtain⟨j,hj,e⟩:=akN h;exact⟨j,hj,by rw[aH,aR hj];exact e⟩
 rintro⟨j,hj,e⟩;rw[aH,aR hj] at e;exact e▸cU hj
def jy (L:List Int)(d:Int):Prop:=d/2∈L
theorem y6 {L:List Int}{d:Int}:jy L d↔∃e∈L,d=2*e\/d=2*e+1:=by
 constructor
 .exact λh=>⟨d/2,h,by omega⟩
 rintro⟨e,he,q⟩;have:d/2=e:=by omega
 unfold jy;rw[this];exact he
theorem CN {L:List Int}:∀ {k:Nat},k<=L.length->∀d,d∈m7 L k↔jy (L.take k) d
 |0,_,d=>by simp[m7,jy]
 |k+1,h,d=>by
  have ih:=CN (L:=L) (k:=k) (by omega) d;have e:L.take (k+1)=L.take k++[L.getD k 0]:=by
   rw[amu,aH,aR (by omega)];rfl
  unfold jy at ih ⊢;rw[e,m7,aI,ih,aI];simp only[aC,ak6,or_false];constructor
  .rintro(q|q|q)
   .exact .inl q
   .exact .inr (by omega)
   exact .inr (by omega)
  rintro(q|q)
  .exact .inl q
  exact .inr (by omega)
theorem mH {L:List Int}(d:Int):d∈m7 L L.length↔jy L d:=by rw[CN (ay _),bL]
theorem yf {L:List Int}(h:L.Nodup):∀ {k:Nat},k<=L.length->(m7 L k).Nodup
 |0,_=>akK
 |k+1,hk=>by
  have hn:L.getD k 0∉L.take k:=λq=>by
   obtain⟨j,hj,e⟩:=iV (z:=0).1 q;rw[aX] at hj;rw[aH,bP,ak (by omega),<-aH] at e;have:=nY h (by omega) (by omega) e;omega
  have O7:∀d,d/2=L.getD k 0->d∉m7 L k:=λd hd q=>hn (by have:=(CN (by omega) d).1 q;unfold jy at this;rwa[hd] at this);rw[m7,dF];refine⟨yf h (by omega),?_,?_⟩
  .simp only[akO,av,ak6,not_false_eq_true,akK,and_true];omega
  intro a ha b hb e;subst e;simp only[aC,ak6,or_false] at hb;exact O7 a (by omega) ha
theorem Lb {M:List (Int×Int)}{k v x:Int}:iC (Cu M k v) x=if k=x then some v else iC M x:=by
 unfold Cu;rw[jI,jI];split<;>rfl
theorem tG {E:List (Int×Int)}{L:List Int}:∀ {k:Nat},k<=L.length->∀d,iC (AM E L k) d=if d∈m7 L k then some (iO E d) else none
 |0,_,d=>by simp[m7,AM];rfl
 |k+1,h,d=>by
  have ih:=tG (E:=E) (L:=L) (k:=k) (by omega) d;show iC (lv1 E (AM E L k) (L.getD k 0)) d=_;unfold lv1;rw[Lb,Lb,ih,m7]
  by_cases h1:2*L.getD k 0+1=d
  .rw[ak h1,ak (bl _ (by simp[<-h1]))];rw[<-h1];congr 1;unfold iO
   rw[ah (by omega),show(2*L.getD k 0+1)/2=L.getD k 0 by omega]
  rw[ah h1]
  by_cases h2:2*L.getD k 0=d
  .rw[ak h2,ak (bl _ (by simp[<-h2]))];rw[<-h2];congr 1;unfold iO
   rw[ak (by omega),show(2*L.getD k 0)/2=L.getD k 0 by omega]
  rw[ah h2];have e:(d∈m7 L k++[2*L.getD k 0,2*L.getD k 0+1])↔d∈m7 L k:=by
   rw[aI];constructor
   .rintro(q|q)
    .exact q
    simp only[aC,ak6,or_false] at q;omega
   exact .inl
  by_cases h3:d∈m7 L k
  .rw[ak h3,ak (e.2 h3)]
  rw[ah h3,ah λq=>h3 (e.1 q)]
def KN {α:Type}(m:List (Int×α)):Prop:=(m.map (·.1)).Nodup
theorem VD {α:Type}{m:List (Int×α)}(h:KN m)(x:Int):KN (Dk m x):=h.sublist (apb _ List.filter_sublist)
theorem Lc {α:Type}{m:List (Int×α)}(h:KN m)(x:Int)(v:α):KN (jM m x v):=by
 have hp:(jM m x v).Perm ((x,v)::Dk m x):=AX (k:=.int) (x,v) (ox (k:=.int) m x);unfold KN;rw[(hp.map (·.1)).nodup_iff,bn,akO];refine⟨λq=>?_,VD h x⟩;obtain⟨p,hp,e⟩:=aN.1 q;have:iC (Dk m x) x=none:=by rw[Dl,ak rfl]
 have e:p.1=x:=e;exact uH.1 this p.2 (by obtain⟨p1,p2⟩:=p;subst e;exact hp)
theorem ID {α:Type}:KN ([]:List (Int×α)):=akK
theorem mem_keys {α:Type}{m:List (Int×α)}{x:Int}:x∈m.map (·.1)↔(iC m x).isSome=true:=by
 constructor
 .intro h;obtain⟨p,hp,e⟩:=aN.1 h;cases hq:iC m x with
  |some _=>rfl
  |none=>exact(uH.1 hq p.2 (by obtain⟨p1,p2⟩:=p;have e:p1=x:=e;subst e;exact hp)).elim
 intro h;obtain⟨v,hv⟩:=bD.1 h;exact aN.2 ⟨_,vD hv,rfl⟩
theorem IE {α:Type}{m:List (Int×α)}(h:KN m){l:List Int}(hl:l.Nodup)(he:∀x,x∈l↔(iC m x).isSome=true):m.length=l.length:=by
 have h1:=hl.length_le_of_subset (l₂:=m.map (·.1)) λx hx=>mem_keys.2 ((he x).1 hx);have h2:=h.length_le_of_subset (l₂:=l) λx hx=>(he x).2 (mem_keys.1 hx);rw[aV] at h1 h2;omega
theorem GL {α:Type}{m:List (Int×α)}(h:KN m){x:Int}(hx:(iC m x).isSome=true):(Dk m x).length+1=m.length:=by
 have hn:x∉(Dk m x).map (·.1):=λq=>by
  have:=mem_keys.1 q;rw[Dl,ak rfl] at this;cases this
 have hc:(x::(Dk m x).map (·.1)).Nodup:=akO.2 ⟨hn,VD h x⟩;have:=IE h hc λy=>by
  rw[aC,mem_keys,Dl];constructor
  .rintro(rfl|q)
   .exact hx
   split at q
   .cases q
   exact q
  intro q
  by_cases e:x=y
  .exact .inl e.symm
  exact .inr (by rw[ah e];exact q)
 simp at this;omega
theorem VE {M:List (Int×Int)}(h:KN M)(k v:Int):KN (Cu M k v):=Lc (Lc h _ _) _ _
theorem acD (E:List (Int×Int))(L:List Int):∀k,KN (AM E L k)
 |0=>ID
 |k+1=>VE (VE (acD E L k) _ _) _ _
theorem Ec {E:List (Int×Int)}{L:List Int}(h:L.Nodup):(AM E L L.length).length=(m7 L L.length).length:=
 IE (acD E L _) (yf h (ay _)) λd=>by
  rw[tG (ay _)]
  by_cases q:d∈m7 L L.length
  .rw[ak q];exact⟨λ_=>rfl,λ_=>q⟩
  rw[ah q];exact⟨λz=>(q z).elim,λz=>by cases z⟩
theorem nZ {α:Type}{l:List α}{k:Nat}(h:k<l.length)(z:α):l.take (k+1)=l.take k++[l.getD k z]:=by
 rw[amu,aH,aR h];rfl
structure Gd (lv:List (Int×Int))(v:Int)(l:List Int)(P:List (Int×Int))(Q:List (Int×Int)):Prop where
 nd:l.Nodup
 fr:∀d∈l,iC P d=none
 lk:∀d∈l,iC lv d=some v
 ks:∀d,(iC Q d).isSome=true↔(iC P d).isSome=true\/d∈l
 kn:KN Q
theorem Ed {lv:List (Int×Int)}{v:Int}{t:List Int}{P:List (Int×Int)}(hP:KN P):∀ {k:Nat} {Q:List (Int×Int)},k<=t.length->JF lv v t P k=some Q->Gd lv v (t.take k) P Q
 |0,Q,_,h=>by
  have h:some P=some Q:=h;cases h;exact⟨by rw[List.take_zero];exact akK,λd hd=>by simp at hd,λd hd=>by simp at hd,λd=>by simp,hP⟩
 |k+1,Q,hk,h=>by
  unfold JF at h;split at h
  .cases h
  rename_i R hR;obtain⟨g1,g2,g3,g4,g5⟩:=Ed hP (k:=k) (by omega) hR;split at h
  .rename_i hc;cases h;have⟨c1,c2,c3⟩:=hc;have hn:¬(iC R (t.getD k 0)).isSome=true:=by rw[c3];simp
   have hx:¬((iC P (t.getD k 0)).isSome=true\/t.getD k 0∈t.take k):=λq=>hn ((g4 _).2 q);rw[nZ (by omega) 0];refine⟨?_,λd hd=>?_,λd hd=>?_,λd=>?_,Lc g5 _ _⟩
   .rw[dF];exact⟨g1,by simp,λa ha b hb e=>by subst e;have:=av.1 hb;subst this;exact hx (.inr ha)⟩
   .rcases aI.1 hd with hd|hd
    .exact g2 d hd
    have:=av.1 hd;subst this;cases hq:iC P (t.getD k 0) with
    |none=>rfl
    |some _=>exact(hx (.inl (by rw[hq];rfl))).elim
   .rcases aI.1 hd with hd|hd
    .exact g3 d hd
    have:=av.1 hd;subst this;obtain⟨u,hu⟩:=bD.1 c1;rw[hu] at c2 ⊢;exact aG some c2
   rw[jI,aI,av]
   by_cases e:t.getD k 0=d
   .rw[ak e];exact⟨λ_=>.inr (.inr e.symm),λ_=>rfl⟩
   rw[ah e,g4];exact⟨λq=>q.elim .inl λq=>.inr (.inl q),λq=>q.elim .inl λq=>q.elim .inr λq=>(e q.symm).elim⟩
  cases h
theorem VF {lv:List (Int×Int)}{v:Int}{t:List Int}{P:List (Int×Int)}(hP:KN P)(h1:t.Nodup)(h2:∀d∈t,iC P d=none)(h3:∀d∈t,iC lv d=some v):∀ {k:Nat},k<=t.length->∃Q,JF lv v t P k=some Q
 |0,_=>⟨P,rfl⟩
 |k+1,hk=>by
  obtain⟨R,hR⟩:=VF hP h1 h2 h3 (k:=k) (by omega);have g:=Ed hP (k:=k) (by omega) hR;have hm:t.getD k 0∈t:=iV.2 ⟨k,by omega,rfl⟩;have hnt:t.getD k 0∉t.take k:=λq=>by
   obtain⟨j,hj,e⟩:=iV (z:=0).1 q;rw[aX] at hj;rw[aH,bP,ak (by omega),<-aH] at e;have:=nY h1 (by omega) (by omega) e;omega
  have agD:(iC R (t.getD k 0)).isSome=false:=by
   cases hq:(iC R (t.getD k 0)).isSome with
   |false=>rfl
   |true=>
    rcases(g.ks _).1 hq with z|z
    .rw[h2 _ hm] at z;cases z
    exact(hnt z).elim
  refine⟨jM R (t.getD k 0) (k:Int),?_⟩;unfold JF;rw[hR];exact ak ⟨by rw[h3 _ hm];rfl,by rw[h3 _ hm];rfl,agD⟩
structure GdF (lv:List (Int×Int))(T:List (List Int))(v:Nat)(Q:List (Int×Int)):Prop where
 nd:(T.take v).flatten.Nodup
 lk:∀u,u<v->∀d∈T.getD u [],iC lv d=some (u:Int)
 ks:∀d,(iC Q d).isSome=true↔d∈(T.take v).flatten
 kn:KN Q
theorem sO {T:List (List Int)}{v:Nat}(h:v<=T.length){d:Int}:d∈(T.take v).flatten↔∃u,u<v/\d∈T.getD u []:=by
 rw[List.mem_flatten];constructor
 .rintro⟨l,hl,hd⟩;obtain⟨j,hj,e⟩:=iV (z:=[]).1 hl;rw[aX] at hj;rw[aH,bP,ak (by omega),<-aH] at e;exact⟨j,by omega,by rw[e];exact hd⟩
 rintro⟨u,hu,hd⟩;refine⟨T.getD u [],iV (z:=[]).2 ⟨u,by rw[aX];omega,?_⟩,hd⟩;rw[aH,bP,ak hu,<-aH]
theorem Ag {lv:List (Int×Int)}{T:List (List Int)}:∀ {v:Nat} {Q:List (Int×Int)},v<=T.length->IA lv T v=some Q->GdF lv T v Q
 |0,Q,_,h=>by
  have h:some []=some Q:=h;cases h;exact⟨by simp,λu hu=>by omega,λd=>by simp;rfl,ID⟩
 |v+1,Q,hv,h=>by
  unfold IA at h;split at h
  .cases h
  rename_i P hP;obtain⟨f1,f2,f3,f4⟩:=Ag (v:=v) (by omega) hP;obtain⟨g1,g2,g3,g4,g5⟩:=Ed f4 (ay _) h;rw[bL] at g1 g2 g3 g4;refine⟨?_,λu hu d hd=>?_,λd=>?_,g5⟩
  .rw[nZ (by omega) [],cK,alW,amt,bq,dF];exact⟨f1,g1,λa ha b hb e=>by subst e;have:=(f3 a).2 ha;rw[g2 a hb] at this;cases this⟩
  .by_cases q:u=v
   .subst q;exact g3 d hd
   exact f2 u (by omega) d hd
  rw[g4,f3,nZ (by omega) [],cK,alW,amt,bq,aI]
theorem VG {lv:List (Int×Int)}{T:List (List Int)}(h1:∀u,u<T.length->(T.getD u []).Nodup)(h2:∀u,u<T.length->∀d∈T.getD u [],iC lv d=some (u:Int)):∀ {v:Nat},v<=T.length->∃Q,IA lv T v=some Q
 |0,_=>⟨[],rfl⟩
 |v+1,hv=>by
  obtain⟨P,hP⟩:=VG h1 h2 (v:=v) (by omega);have g:=Ag (v:=v) (by omega) hP;unfold IA;rw[hP];refine VF g.kn (h1 v (by omega)) (λd hd=>?_) (h2 v (by omega)) (ay _);cases hq:iC P d with
  |none=>rfl
  |some _=>
   obtain⟨u,hu,hdu⟩:=(sO (by omega)).1 ((g.ks d).1 (by rw[hq];rfl));have e1:=h2 u (by omega) d hdu;rw[h2 v (by omega) d hd] at e1;injection e1 with e1
   omega
structure nS (n:Int)(E:List (Int×Int))(L:List Int)(T:List (List Int)):Prop where
 len:(T.length:Int)=n
 nd:∀v,v<T.length->(T.getD v []).Nodup
 mem:∀v,v<T.length->∀d,d∈T.getD v []↔jy L d/\iO E d=(v:Int)
theorem Ld {L:List Int}{n:Int}(h:kT L n):L.Nodup:=nG (iK.1 h).1
theorem y7 {n:Int}{E:List (Int×Int)}{V L:List Int}{T:List (List Int)}(h:(mF n E V L T).2=0):
  jr n E V L=0/\nS n E L T/\(mF n E V L T).1=some (T.map iE,AM E L L.length,rY T T.length,m7 L L.length):=by
 unfold mF at h ⊢;split at h
 .rename_i q;exact(q h).elim
 rename_i hp;rw[ah hp];split at h
 .cases h
 rename_i hlen;rw[ah hlen];split at h
 .cases h
 rename_i P hP;split at h
 .cases h
 rename_i ai0;have yz:jr n E V L=0:=by omega
 obtain⟨_,_,hL,_⟩:=jH yz;have hLn:=Ld hL;obtain⟨f1,f2,f3,f4⟩:=Ag (Nat.le_refl _) hP;rw[List.take_length] at f1 f3;have e1:P.length=T.flatten.length:=IE f4 f1 λd=>(f3 d).symm;have e2:=Ec (E:=E) hLn;have wP:∀d∈T.flatten,d∈m7 L L.length:=λd hd=>by
  obtain⟨u,hu,hdu⟩:=(sO (Nat.le_refl T.length)).1 (by rw[List.take_length];exact hd);have:=f2 u hu d hdu;rw[tG (Nat.le_refl _)] at this;split at this
  .rename_i q;exact q
  cases this
 have ai1:=cover f1 wP (by omega);refine⟨yz,⟨by omega,λv hv=>?_,λv hv d=>⟨λhd=>?_,λ⟨hd,ht⟩=>?_⟩⟩,by rw[ah ai0]⟩
 .have hm:T.getD v []∈T:=iV.2 ⟨v,hv,rfl⟩;exact f1.sublist (List.sublist_flatten_of_mem hm)
 .have:=f2 v hv d hd;rw[tG (Nat.le_refl _)] at this;split at this
  .rename_i q;exact⟨(mH d).1 q,by injection this⟩
  cases this
 have hdf:=ai1 d ((mH d).2 hd);obtain⟨u,hu,hdu⟩:=(sO (Nat.le_refl T.length)).1 (by rw[List.take_length];exact hdf);have:=f2 u hu d hdu;rw[tG (Nat.le_refl _),ak ((mH d).2 hd),ht] at this;injection this with this
 have:u=v:=by omega
 subst this;exact hdu
theorem Ee {n:Int}{E:List (Int×Int)}{V L:List Int}{T:List (List Int)}(hp:jr n E V L=0)(h:nS n E L T):(mF n E V L T).2=0:=by
 obtain⟨hr,_,hL,_⟩:=jH hp;have hLn:=Ld hL;have E5:∀u,u<T.length->∀d∈T.getD u [],iC (AM E L L.length) d=some (u:Int):=λu hu d hd=>by
  obtain⟨h1,h2⟩:=(h.mem u hu d).1 hd;rw[tG (Nat.le_refl _),ak ((mH d).2 h1),h2]
 obtain⟨P,hP⟩:=VG h.nd E5 (Nat.le_refl T.length);obtain⟨f1,f2,f3,f4⟩:=Ag (Nat.le_refl _) hP;rw[List.take_length] at f1 f3;have VH:=yf hLn (Nat.le_refl L.length);have Il:∀d,jy L d->0<=iO E d/\(iO E d).toNat<T.length:=λd hd=>by
  obtain⟨e,he,q⟩:=y6.1 hd;obtain⟨r1,r2,r3,r4⟩:=kF hr;have hb:=(iK.1 hL).2 e he;have qj:=r4 e.toNat (by omega);unfold Ny at qj;have hlen:=h.len;rcases q with rfl|rfl
  .have e0:iO E (2*e)=(E.getD e.toNat (0,0)).1:=by unfold iO;rw[ak (by omega),show 2*e/2=e by omega]
   rw[e0];omega
  have e0:iO E (2*e+1)=(E.getD e.toNat (0,0)).2:=by unfold iO;rw[ah (by omega),show(2*e+1)/2=e by omega]
  rw[e0];omega
 have e1:P.length=(m7 L L.length).length:=IE f4 VH λd=>by
  rw[f3];constructor
  .intro hd;have hd:=(mH d).1 hd;obtain⟨t0,t1⟩:=Il d hd;have:=(h.mem _ t1 d).2 ⟨hd,by omega⟩;have:=(sO (Nat.le_refl T.length)).2 ⟨_,t1,this⟩;rwa[List.take_length] at this
  intro hd;obtain⟨u,hu,hdu⟩:=(sO (Nat.le_refl T.length)).1 (by rw[List.take_length];exact hd);exact(mH d).2 ((h.mem u hu d).1 hdu).1
 have e2:=Ec (E:=E) hLn;rw[Pd hp h.len hP (by omega)]
abbrev S4:Type:=qn×(List Int×(List Int×Int))
def uY (U:List Int):Nat:=(List.range U.length).countP λi:Nat=>decide (iU U (i:Int)=(i:Int))
structure Ef (s:S4):Prop where
 rep:y5 s.1 s.2.1 s.2.2.1
 cnt:s.2.2.2=(uY s.2.2.1:Int)
def Rl (s:S4)(x y:Int):Prop:=∃i j,iC s.1 x=some i/\iC s.1 y=some j/\iU s.2.2.1 i=iU s.2.2.1 j
def mM (s:S4)(x:Int):S4:=(jX s.1 s.2.1 x,kA s.1 s.2.1 x,kK s.1 s.2.1 s.2.2.1 x,sr s.1 s.2.2.2 x)
def RB (s:S4)(x y:Int):S4:=(jnM s.1 s.2.1 x y,jnL s.1 s.2.1 x y,SZ s.1 s.2.1 s.2.2.1 x y,Rp s.1 s.2.1 s.2.2.1 s.2.2.2 x y)
def jnT (s:S4)(x y:Int):Bool:=Vi s.1 s.2.1 s.2.2.1 x y
def smB (s:S4)(x y:Int):Bool:=match iC s.1 x,iC s.1 y with
 |some i,some j=>decide (Ct s.2.2.1 i=Ct (qQ s.2.2.1 i) j)
 |_,_=>false
section
variable {s:S4}{x y a b:Int}
theorem aab (U:List Int):uY U<=U.length:=by
 unfold uY;have:=List.countP_le_length (p:=λi:Nat=>decide (iU U (i:Int)=(i:Int))) (l:=bH U.length);rwa[List.length_range] at this
theorem Ef.nil:Ef ([],[],[],0):=⟨y5.nil,rfl⟩
theorem Ef.bd (h:Ef s):0<=s.2.2.2/\s.2.2.2<=(s.2.1.length:Int):=by
 have:=aab s.2.2.1;have:=h.rep.len;have:=h.cnt;omega
theorem Rl.refl (h:(iC s.1 x).isSome=true):Rl s x x:=by
 obtain⟨i,hi⟩:=bD.1 h;exact⟨i,i,hi,hi,rfl⟩
theorem Rl.symm (h:Rl s a b):Rl s b a:=let⟨i,j,h1,h2,h3⟩:=h;⟨j,i,h2,h1,h3.symm⟩
theorem Rl.trans {c:Int}(h:Rl s a b)(k:Rl s b c):Rl s a c:=by
 have⟨i,j,h1,h2,h3⟩:=h;obtain⟨j',l,k1,k2,k3⟩:=k;rw[h2] at k1;cases k1;exact⟨i,l,h1,k2,h3.trans k3⟩
theorem Rl.left (h:Rl s a b):(iC s.1 a).isSome=true:=let⟨i,_,h1,_⟩:=h;by rw[h1];rfl
theorem Rl.right (h:Rl s a b):(iC s.1 b).isSome=true:=h.symm.left
theorem xF {p q:Nat->Bool}{l:List Nat}(h:∀x∈l,p x=q x):l.countP p=l.countP q:=by
 induction l with
 |nil=>rfl
 |cons x l ih=>
  rw[alG,alG,ih λz hz=>h z (aE _ hz),h x aA]
theorem vS {p q:Nat->Bool}{n m:Nat}(hm:m<n)(hp:p m=true)(hq:q m=false)(h:∀x,x<n->x≠m->p x=q x):(bH n).countP q+1=(bH n).countP p:=by
 induction n with
 |zero=>omega
 |succ n ih=>
  rw[alY,anp,anp]
  by_cases e:m=n
  .subst e;have:=xF (p:=p) (q:=q) (l:=bH m) λx hx=>h x (by have:=cg.1 hx;omega) (by have:=cg.1 hx;omega);rw[this];simp[alG,hp,hq]
  have:=ih (by omega) λx hx=>h x (by omega);have e2:[n].countP q=[n].countP p:=by rw[alG,alG,h n (by omega) (λz=>e z.symm)];rfl
  rw[e2];omega
theorem Ef.add (h:Ef s)(x:Int):Ef (mM s x)/\∀a b,Rl (mM s x) a b↔Rl s a b\/(a=x/\b=x):=by
 obtain⟨M,L,U,g⟩:=s;have⟨hr,hc⟩:=h;change y5 M L U at hr;change g=(uY U:Int) at hc;refine⟨⟨(hr.put x).1,?_⟩,λa b=>?_⟩
 .show sr M g x=(uY (kK M L U x):Int);unfold sr kK;split
  .exact hc
  have hlen:=hr.len;obtain⟨a1,a2,a3⟩:=Nw hr.ok;rw[hlen] at a1 a2 a3;have e:uY (U++[(L.length:Int)])=uY U+1:=by
   unfold uY;rw[aO,cP,alY,anp];have h1:=xF (p:=λi:Nat=>decide (iU (U++[(L.length:Int)]) (i:Int)=(i:Int))) (q:=λi:Nat=>decide (iU U (i:Int)=(i:Int))) (l:=bH U.length) λz hz=>by
    have hz:=cg.1 hz;rw[a2 z (by omega) (by omega)]
   rw[h1,hlen];have h2:[L.length].countP (λi:Nat=>decide (iU (U++[(L.length:Int)]) (i:Int)=(i:Int)))=1:=by
    rw[alG];simp[a3]
   rw[h2]
  rw[e];omega
 show(∃i j,iC (jX M L x) a=some i/\iC (jX M L x) b=some j/\iU (kK M L U x) i=iU (kK M L U x) j)↔(∃i j,iC M a=some i/\iC M b=some j/\iU U i=iU U j)\/_;cases hx:iC M x with
 |some k=>
  have e1:jX M L x=M:=by unfold jX;rw[hx];rfl
  have e3:kK M L U x=U:=by unfold kK;rw[hx];rfl
  rw[e1,e3];exact⟨.inl,λq=>q.elim id λ⟨q1,q2⟩=>by subst q1;subst q2;exact⟨k,k,hx,hx,rfl⟩⟩
 |none=>
  have e1:jX M L x=jM M x (L.length:Int):=by unfold jX;rw[hx];rfl
  have e3:kK M L U x=U++[(L.length:Int)]:=by unfold kK;rw[hx];rfl
  rw[e1,e3];have hlen:=hr.len;obtain⟨a1,a2,a3⟩:=Nw hr.ok;rw[hlen] at a1 a2 a3;have key:∀z i,iC M z=some i->0<=i/\i<(L.length:Int)/\iU U i<=i:=λz i hz=>by
   obtain⟨q1,q2,_⟩:=hr.at_ z i hz;exact⟨q1,q2,(pM hr.ok q1 (by omega)).2.1⟩
  constructor
  .rintro⟨i,j,h1,h2,h3⟩;rw[jI] at h1 h2
   by_cases qa:x=a<;>by_cases qb:x=b
   .exact .inr ⟨qa.symm,qb.symm⟩
   .rw[ak qa] at h1;rw[ah qb] at h2;cases h1;obtain⟨k1,k2,k3⟩:=key b j h2;rw[a3,a2 j k1 k2] at h3;omega
   .rw[ah qa] at h1;rw[ak qb] at h2;cases h2;obtain⟨k1,k2,k3⟩:=key a i h1;rw[a3,a2 i k1 k2] at h3;omega
   rw[ah qa] at h1;rw[ah qb] at h2;obtain⟨k1,k2,_⟩:=key a i h1;obtain⟨l1,l2,_⟩:=key b j h2;rw[a2 i k1 k2,a2 j l1 l2] at h3;exact .inl ⟨i,j,h1,h2,h3⟩
  rintro(⟨i,j,h1,h2,h3⟩|⟨rfl,rfl⟩)
  .obtain⟨k1,k2,_⟩:=key a i h1;obtain⟨l1,l2,_⟩:=key b j h2;have qa:x≠a:=λe=>by rw[e,h1] at hx;cases hx
   have qb:x≠b:=λe=>by rw[e,h2] at hx;cases hx
   exact⟨i,j,by rw[jI,ah qa];exact h1,by rw[jI,ah qb];exact h2,by rw[a2 i k1 k2,a2 j l1 l2];exact h3⟩
  exact⟨_,_,by rw[jI,ak rfl],by rw[jI,ak rfl],rfl⟩
theorem Ef.up (h:Ef s){U':List Int}(h1:pL U')(h2:U'.length=s.2.2.1.length)(h3:∀j,0<=j->j<(s.2.2.1.length:Int)->iU U' j=iU s.2.2.1 j):Ef (s.1,s.2.1,U',s.2.2.2)/\∀a b,Rl (s.1,s.2.1,U',s.2.2.2) a b↔Rl s a b:=by
 have hlen:=h.rep.len;refine⟨⟨⟨h1,h2.trans h.rep.len,h.rep.at_,h.rep.Fx,h.rep.ex⟩,?_⟩,λa b=>?_⟩
 .show s.2.2.2=(uY U':Int);rw[h.cnt]
  congr 1
  unfold uY;rw[h2];exact xF λz hz=>by
   have hz:=cg.1 hz;rw[h3 z (by omega) (by omega)]
 have key:∀z i,iC s.1 z=some i->iU U' i=iU s.2.2.1 i:=λz i hz=>by
  obtain⟨q1,q2,_⟩:=h.rep.at_ z i hz;exact h3 i q1 (by omega)
 constructor
 .rintro⟨i,j,k1,k2,k3⟩;have k3:iU U' i=iU U' j:=k3;exact⟨i,j,k1,k2,by rw[<-key a i k1,<-key b j k2];exact k3⟩
 rintro⟨i,j,k1,k2,k3⟩;exact⟨i,j,k1,k2,by show iU U' i=iU U' j;rw[key a i k1,key b j k2];exact k3⟩
theorem Y3 (h:Ef s){i j:Int}(hi:iC s.1 x=some i)(hj:iC s.1 y=some j):pL (qQ (qQ s.2.2.1 i) j)/\(qQ (qQ s.2.2.1 i) j).length=s.2.2.1.length/\(∀k,0<=k->k<(s.2.2.1.length:Int)->iU (qQ (qQ s.2.2.1 i) j) k=iU s.2.2.1 k)/\Ct s.2.2.1 i=iU s.2.2.1 i/\Ct (qQ s.2.2.1 i) j=iU s.2.2.1 j:=by
 have hlen:=h.rep.len;obtain⟨i0,i1,_⟩:=h.rep.at_ x i hi;obtain⟨j0,j1,_⟩:=h.rep.at_ y j hj;obtain⟨a1,a2,a3,a4⟩:=DW (i.toNat+1) s.2.2.1 i h.rep.ok i0 (by omega) (cQ _);have a3:(qQ s.2.2.1 i).length=s.2.2.1.length:=a3;have a2:pL (qQ s.2.2.1 i):=a2;have a4:∀k,0<=k->k<(s.2.2.1.length:Int)->iU (qQ s.2.2.1 i) k=iU s.2.2.1 k:=a4;obtain⟨b1,b2,b3,b4⟩:=DW (j.toNat+1) (qQ s.2.2.1 i) j a2 j0 (by omega) (cQ _);have b1:Ct (qQ s.2.2.1 i) j=iU (qQ s.2.2.1 i) j:=b1;exact⟨b2,b3.trans a3,λk k0 k1=>(b4 k k0 (by omega)).trans (a4 k k0 k1),a1,by rw[b1,a4 j j0 (by omega)]⟩
theorem aac {M:qn}{L U:List Int}(h:y5 M L U){z i:Int}(hz:iC M z=some i)(x:Int):iC (jX M L x) z=some i:=by
 unfold jX;split
 .exact hz
 rename_i q;rw[jI,ah]
 .exact hz
 intro e;rw[e,hz] at q;exact q rfl
theorem Ef.jn (h:Ef s)(x y:Int):Ef (RB s x y)/\(jnT s x y=true↔¬(Rl s x y\/x=y))/\∀a b,Rl (RB s x y) a b↔(Rl (mM (mM s x) y) a b\/(Rl (mM (mM s x) y) a x/\Rl (mM (mM s x) y) y b)\/(Rl (mM (mM s x) y) a y/\Rl (mM (mM s x) y) x b)):=by
 obtain⟨h1,r1⟩:=h.add x;obtain⟨h2,r2⟩:=h1.add y;obtain⟨_,p0,p1,px⟩:=h.rep.put x;obtain⟨_,p2,p3,py⟩:=h1.rep.put y;have px:iC (mM (mM s x) y).1 x=some (lQ s.1 s.2.1 x):=aac h1.rep px y;have py:iC (mM (mM s x) y).1 y=some (lQ (mM s x).1 (mM s x).2.1 y):=py;obtain⟨a1,a2,a3,a4,a5⟩:=Y3 h2 px py;have Ol:yY s.1 s.2.1 s.2.2.1 x y=iU (mM (mM s x) y).2.2.1 (lQ s.1 s.2.1 x):=a4;have hrj:yZ s.1 s.2.1 s.2.2.1 x y=iU (mM (mM s x) y).2.2.1 (lQ (mM s x).1 (mM s x).2.1 y):=a5;have hT:Rl (mM (mM s x) y) x y↔yY s.1 s.2.1 s.2.2.1 x y=yZ s.1 s.2.1 s.2.2.1 x y:=by
  rw[Ol,hrj];constructor
  .rintro⟨i,j,k1,k2,k3⟩;rw[px] at k1;rw[py] at k2;cases k1;cases k2;exact k3
  exact λq=>⟨_,_,px,py,q⟩
 have hT2:Rl (mM (mM s x) y) x y↔Rl s x y\/x=y:=by
  rw[r2,r1];constructor
  .rintro((q|q)|q)
   .exact .inl q
   .exact .inr q.2.symm
   exact .inr q.1
  rintro(q|q)
  .exact .inl (.inl q)
  exact .inl (.inr ⟨rfl,q.symm⟩)
 have hS:∀U',SZ s.1 s.2.1 s.2.2.1 x y=U'->RB s x y=((mM (mM s x) y).1,(mM (mM s x) y).2.1,U',Rp s.1 s.2.1 s.2.2.1 s.2.2.2 x y):=λU' e=>by rw[<-e];rfl
 have hU2:Vh s.1 s.2.1 s.2.2.1 x y=qQ (qQ (mM (mM s x) y).2.2.1 (lQ s.1 s.2.1 x)) (lQ (mM s x).1 (mM s x).2.1 y):=rfl;have hb:jnT s x y=true↔¬yY s.1 s.2.1 s.2.2.1 x y=yZ s.1 s.2.1 s.2.2.1 x y:=by
  unfold jnT Vi;split
  .rename_i q;exact⟨(λz=>by cases z),λz=>(z q).elim⟩
  rename_i q;exact⟨λ_=>q,λ_=>rfl⟩
 rw[hb,<-hT,hT2];generalize hs2:mM (mM s x) y=s2 at*
 have aka:=h2.rep.len;obtain⟨i0,i1,_⟩:=h2.rep.at_ _ _ px;obtain⟨j0,j1,_⟩:=h2.rep.at_ _ _ py
 by_cases q:yY s.1 s.2.1 s.2.2.1 x y=yZ s.1 s.2.1 s.2.2.1 x y
 .have eU:SZ s.1 s.2.1 s.2.2.1 x y=Vh s.1 s.2.1 s.2.2.1 x y:=ak q;have eG:Rp s.1 s.2.1 s.2.2.1 s.2.2.2 x y=s2.2.2.2:=by
   unfold Rp;rw[ak q,<-hs2];rfl
  rw[hS _ (eU.trans hU2),eG];obtain⟨b1,b2⟩:=h2.up a1 a2 a3;refine⟨b1,Iff.rfl,λa b=>?_⟩;rw[b2];have YJ:=hT.2 q;exact⟨.inl,λz=>z.elim id λz=>z.elim (λ⟨z1,z2⟩=>z1.trans (YJ.trans z2)) λ⟨z1,z2⟩=>z1.trans (YJ.symm.trans z2)⟩
 obtain⟨b1,b2⟩:=h2.up a1 a2 a3;generalize hv:qQ (qQ s2.2.2.1 (lQ s.1 s.2.1 x)) (lQ (mM s x).1 (mM s x).2.1 y)=V at*
 have eU:SZ s.1 s.2.1 s.2.2.1 x y=V.set (max (yY s.1 s.2.1 s.2.2.1 x y) (yZ s.1 s.2.1 s.2.2.1 x y)).toNat (min (yY s.1 s.2.1 s.2.2.1 x y) (yZ s.1 s.2.1 s.2.2.1 x y)):=by
  have:SZ s.1 s.2.1 s.2.2.1 x y=(Vh s.1 s.2.1 s.2.2.1 x y).set (max (yY s.1 s.2.1 s.2.2.1 x y) (yZ s.1 s.2.1 s.2.2.1 x y)).toNat (min (yY s.1 s.2.1 s.2.2.1 x y) (yZ s.1 s.2.1 s.2.2.1 x y)):=ah q;rw[this,hU2]
 have eG:Rp s.1 s.2.1 s.2.2.1 s.2.2.2 x y=s2.2.2.2-1:=by
  unfold Rp;rw[ah q,<-hs2];rfl
 rw[hS _ eU,eG,Ol,hrj];rw[Ol,hrj] at q;generalize hpi:lQ s.1 s.2.1 x=pi at*
 generalize hpj:lQ (mM s x).1 (mM s x).2.1 y=pj at*
 obtain⟨u1,u2,u3⟩:=pM h2.rep.ok i0 (show pi<(s2.2.2.1.length:Int) by omega);obtain⟨v1,v2,v3⟩:=pM h2.rep.ok j0 (show pj<(s2.2.2.1.length:Int) by omega);have VI:=vP h2.rep.ok i0 (show pi<(s2.2.2.1.length:Int) by omega);have VJ:=vP h2.rep.ok j0 (show pj<(s2.2.2.1.length:Int) by omega);generalize hr:iU s2.2.2.1 pi=r at*
 generalize ht:iU s2.2.2.1 pj=t at*
 have hrV:V.getD r.toNat 0=r:=by
  have e:=a3 r u1 (by omega);have:=(pM a1 u1 (show r<(V.length:Int) by omega)).2.2;rw[e,VI] at this;exact this
 have htV:V.getD t.toNat 0=t:=by
  have e:=a3 t v1 (by omega);have:=(pM a1 v1 (show t<(V.length:Int) by omega)).2.2;rw[e,VJ] at this;exact this
 obtain⟨c1,c2⟩:=ZY a1 u1 v1 (by omega) (by omega) hrV htV q;generalize hW:V.set (max r t).toNat (min r t)=Wn at*
 have YO:Wn.length=s2.2.2.1.length:=by rw[<-hW,bS];exact a2
 have c3:∀k,0<=k->k<(s2.2.2.1.length:Int)->iU Wn k=if iU s2.2.2.1 k=max r t then min r t else iU s2.2.2.1 k:=λk k0 k1=>by rw[c2 k k0 (by omega),a3 k k0 k1]
 have hmx:0<=max r t/\max r t<(s2.2.2.1.length:Int)/\iU s2.2.2.1 (max r t)=max r t/\max r t≠min r t/\iU s2.2.2.1 (min r t)=min r t:=by
  rcases alV r t with z|z
  .rw[amo z,amr z];exact⟨v1,by omega,VJ,λe=>q e.symm,VI⟩
  rw[amq z,ams z];exact⟨u1,by omega,VI,q,VJ⟩
 have⟨m1,m2,m3,m4,m5⟩:=hmx;refine⟨⟨⟨c1,YO.trans h2.rep.len,h2.rep.at_,h2.rep.Fx,h2.rep.ex⟩,?_⟩,Iff.rfl,λa b=>?_⟩
 .show s2.2.2.2-1=(uY Wn:Int);have ai2:uY Wn+1=uY s2.2.2.1:=by
   unfold uY;rw[YO];refine vS (m:=(max r t).toNat) (by omega) ?_ ?_ λk hk mc=>?_
   .rw[decide_eq_true_iff,cA m1];exact m3
   .rw[decide_eq_false_iff_not,cA m1,c3 _ m1 m2,ak m3];exact λe=>m4 e.symm
   rw[decide_eq_decide,c3 k (by omega) (by omega)]
   by_cases z:iU s2.2.2.1 (k:Int)=max r t
   .rw[ak z,z];constructor
    .intro e;omega
    intro e;have:iU s2.2.2.1 (k:Int)=min r t:=by rw[<-e];exact m5
    omega
   rw[ah z]
  have:=h2.cnt;omega
 have key:∀z i,iC s2.1 z=some i->0<=i/\i<(s2.2.2.1.length:Int):=λz i hz=>by
  obtain⟨q1,q2,_⟩:=h2.rep.at_ z i hz;exact⟨q1,by omega⟩
 constructor
 .rintro⟨i,j,k1,k2,k3⟩;have k3:iU Wn i=iU Wn j:=k3;obtain⟨e0,e1⟩:=key a i k1;obtain⟨f0,f1⟩:=key b j k2;rw[c3 i e0 e1,c3 j f0 f1] at k3;have Dh:(max r t=r/\min r t=t)\/(max r t=t/\min r t=r):=by
   rcases alV r t with z|z
   .exact .inr ⟨amo z,amr z⟩
   exact .inl ⟨amq z,ams z⟩
  have CA:∀z i,iC s2.1 z=some i->iU s2.2.2.1 i=r->Rl s2 z x:=λz i hz e=>⟨i,pi,hz,px,by rw[e,hr]⟩;have Rb:∀z i,iC s2.1 z=some i->iU s2.2.2.1 i=t->Rl s2 z y:=λz i hz e=>⟨i,pj,hz,py,by rw[e,ht]⟩;split at k3<;>split at k3
  .rename_i z1 z2;exact .inl ⟨i,j,k1,k2,z1.trans z2.symm⟩
  .rename_i z1 z2;rcases Dh with⟨n1,n2⟩|⟨n1,n2⟩
   .exact .inr (.inl ⟨CA a i k1 (z1.trans n1),(Rb b j k2 (k3.symm.trans n2)).symm⟩)
   exact .inr (.inr ⟨Rb a i k1 (z1.trans n1),(CA b j k2 (k3.symm.trans n2)).symm⟩)
  .rename_i z1 z2;rcases Dh with⟨n1,n2⟩|⟨n1,n2⟩
   .exact .inr (.inr ⟨Rb a i k1 (k3.trans n2),(CA b j k2 (z2.trans n1)).symm⟩)
   exact .inr (.inl ⟨CA a i k1 (k3.trans n2),(Rb b j k2 (z2.trans n1)).symm⟩)
  exact .inl ⟨i,j,k1,k2,k3⟩
 have akb:∀z i,iC s2.1 z=some i->iC (s2.1,s2.2.1,Wn,s2.2.2.2-1).1 z=some i:=λz i hz=>hz;have eqx:∀z,Rl s2 z x->∃i,iC s2.1 z=some i/\iU s2.2.2.1 i=r:=λz ⟨i,j,k1,k2,k3⟩=>by
  rw[px] at k2;cases k2;exact⟨i,k1,by rw[k3,hr]⟩
 have eqy:∀z,Rl s2 z y->∃i,iC s2.1 z=some i/\iU s2.2.2.1 i=t:=λz ⟨i,j,k1,k2,k3⟩=>by
  rw[py] at k2;cases k2;exact⟨i,k1,by rw[k3,ht]⟩
 have both:∀e,(e=r\/e=t)->(if e=max r t then min r t else e)=min r t:=λe he=>by
  rcases alV r t with z|z
  .rw[amo z,amr z];rcases he with rfl|rfl
   .split<;>rfl
   rw[ak rfl]
  rw[amq z,ams z];rcases he with rfl|rfl
  .rw[ak rfl]
  split<;>rfl
 rintro(⟨i,j,k1,k2,k3⟩|⟨z1,z2⟩|⟨z1,z2⟩)
 .obtain⟨e0,e1⟩:=key a i k1;obtain⟨f0,f1⟩:=key b j k2;exact⟨i,j,k1,k2,by show iU Wn i=iU Wn j;rw[c3 i e0 e1,c3 j f0 f1,k3]⟩
 .obtain⟨i,k1,k2⟩:=eqx a z1;obtain⟨j,l1,l2⟩:=eqy b z2.symm;obtain⟨e0,e1⟩:=key a i k1;obtain⟨f0,f1⟩:=key b j l1;exact⟨i,j,k1,l1,by show iU Wn i=iU Wn j;rw[c3 i e0 e1,c3 j f0 f1,both _ (.inl k2),both _ (.inr l2)]⟩
 obtain⟨i,k1,k2⟩:=eqy a z1;obtain⟨j,l1,l2⟩:=eqx b z2.symm;obtain⟨e0,e1⟩:=key a i k1;obtain⟨f0,f1⟩:=key b j l1;exact⟨i,j,k1,l1,by show iU Wn i=iU Wn j;rw[c3 i e0 e1,c3 j f0 f1,both _ (.inr k2),both _ (.inl l2)]⟩
theorem Ef.one (h:Ef s):s.2.2.2<=1↔∀a b,(iC s.1 a).isSome=true->(iC s.1 b).isSome=true->Rl s a b:=by
 have⟨hr,hc⟩:=h;have hlen:=hr.len;constructor
 .intro h1 a b ha hb;obtain⟨i,hi⟩:=bD.1 ha;obtain⟨j,hj⟩:=bD.1 hb;obtain⟨i0,i1,_⟩:=hr.at_ a i hi;obtain⟨j0,j1,_⟩:=hr.at_ b j hj;refine⟨i,j,hi,hj,bT λq=>?_⟩;obtain⟨u1,u2,_⟩:=pM hr.ok i0 (by omega);obtain⟨v1,v2,_⟩:=pM hr.ok j0 (by omega);have ui:=vP hr.ok i0 (by omega);have vi:=vP hr.ok j0 (by omega);have HA:2<=uY s.2.2.1:=by
   unfold uY;have e1:=vS (n:=s.2.2.1.length) (p:=λi:Nat=>decide (iU s.2.2.1 (i:Int)=(i:Int))) (q:=λk:Nat=>decide (iU s.2.2.1 (k:Int)=(k:Int)) && !decide (k=(iU s.2.2.1 i).toNat)) (m:=(iU s.2.2.1 i).toNat) (by omega) (by rw[decide_eq_true_iff,cA u1];exact ui) (by simp) λk hk mc=>by simp[mc]
   have e2:=vS (n:=s.2.2.1.length) (p:=λk:Nat=>decide (iU s.2.2.1 (k:Int)=(k:Int)) && !decide (k=(iU s.2.2.1 i).toNat)) (q:=λk:Nat=>(decide (iU s.2.2.1 (k:Int)=(k:Int)) && !decide (k=(iU s.2.2.1 i).toNat)) && !decide (k=(iU s.2.2.1 j).toNat)) (m:=(iU s.2.2.1 j).toNat) (by omega) (by
    rw[cA v1,bN vi];simp only[Bool.true_and,ali,decide_eq_false_iff_not];omega) (by simp) λk hk mc=>by simp[mc]
   omega
  omega
 intro h1;refine bT λq=>?_;have HA:2<=uY s.2.2.1:=by omega
 have hex:∃i,i<s.2.2.1.length/\iU s.2.2.1 (i:Int)=(i:Int):=by
  refine bT λz=>?_;have:uY s.2.2.1=0:=by
   unfold uY;rw[aow];intro k hk e;exact z ⟨k,cg.1 hk,aP e⟩
  omega
 have⟨i,hi,ei⟩:=hex;have ai3:∃j,j<s.2.2.1.length/\iU s.2.2.1 (j:Int)=(j:Int)/\j≠i:=by
  refine bT λz=>?_;have e1:=vS (n:=s.2.2.1.length) (p:=λi:Nat=>decide (iU s.2.2.1 (i:Int)=(i:Int))) (q:=λ_=>false) (m:=i) hi (bN ei) rfl λk hk mc=>bG λe=>z ⟨k,hk,e,mc⟩;have e2:(bH s.2.2.1.length).countP (λ_=>false)=0:=by rw[aow];intro k _ e;cases e
  unfold uY at HA;omega
 have⟨j,hj,ej,mc⟩:=ai3;have ai:=hr.ex i (by omega);have aj:=hr.ex j (by omega);obtain⟨i',j',k1,k2,k3⟩:=h1 _ _ (by rw[ai];rfl) (by rw[aj];rfl);rw[ai] at k1;rw[aj] at k2;cases k1;cases k2;rw[ei,ej] at k3;omega
end
open Go.RowKit
section
variable {E:List (Int×Int)}{M:List (Int×List Int)}{a shut v d:Int}{k f:Nat}{m:List (Int×Int)}{q:List Int}{n:Int}
theorem RC (h:NH E a v k m q)(hd:jB E d∈univ E a):NH E a v k (mE E v shut (m,q) d).1 (mE E v shut (m,q) d).2:=by
 by_cases hn:(iC m (jB E d)).isSome=true\/jB E d=shut
 .have e:mE E v shut (m,q) d=(m,q):=by unfold mE;rw[ak hn]
  rw[e];exact h
 have e:mE E v shut (m,q) d=(jM m (jB E d) ((iC m v).getD 0+1),q++[jB E d]):=by unfold mE;rw[ah hn]
 rw[e];exact h.agC hd hn
theorem GM:∀ {l:List Int} {m:List (Int×Int)} {q:List Int},NH E a v k m q->(∀d∈l,jB E d∈univ E a)->NH E a v k (l.foldl (mE E v shut) (m,q)).1 (l.foldl (mE E v shut) (m,q)).2
 |[],m,q,h,_=>h
 |d::l,m,q,h,hd=>by
  rw[dG];exact GM (RC h (hd d aA)) λx hx=>hd x (aE _ hx)
theorem NI {s:List (Int×Int)×List Int}{x:Int}(h:(iC s.1 x).isSome=true):(iC (mE E v shut s d).1 x).isSome=true:=by
 unfold mE;split
 .exact h
 show(iC (jM s.1 _ _) x).isSome=true;rw[jI];split
 .rfl
 exact h
theorem xG:∀ {l:List Int} {s:List (Int×Int)×List Int} {x:Int},(iC s.1 x).isSome=true->(iC (l.foldl (mE E v shut) s).1 x).isSome=true
 |[],_,_,h=>h
 |d::l,s,x,h=>by rw[dG];exact xG (NI h)
theorem Cb:∀ {l:List Int} {s:List (Int×Int)×List Int},∀d∈l,jB E d≠shut->(iC (l.foldl (mE E v shut) s).1 (jB E d)).isSome=true
 |e::l,s,d,hd,hs=>by
  rw[dG];rcases aC.1 hd with rfl|hd
  .refine xG ?_;unfold mE;split
   .rename_i h;exact h.resolve_right hs
   show(iC (jM s.1 _ _) _).isSome=true;rw[jI,ak rfl];rfl
  exact Cb d hd hs
theorem Ah:∀ {l:List Int} {s:List (Int×Int)×List Int} {x:Int},(iC (l.foldl (mE E v shut) s).1 x).isSome=true->(iC s.1 x).isSome=true\/x∈(l.foldl (mE E v shut) s).2
 |[],_,_,h=>.inl h
 |d::l,s,x,h=>by
  rw[dG] at h ⊢;rcases Ah h with h1|h1
  .unfold mE at h1;split at h1
   .exact .inl h1
   rename_i hn;have h1:(iC (jM s.1 (jB E d) _) x).isSome=true:=h1;rw[jI] at h1;split at h1
   .rename_i e;refine .inr ?_;have mono:∀ {l:List Int} {s:List (Int×Int)×List Int} {y:Int},y∈s.2->y∈(l.foldl (mE E v shut) s).2:=by
     intro l
     induction l with
     |nil=>intro s y h;exact h
     |cons e l ih=>
      intro s y h;rw[dG];refine ih ?_;unfold mE;split
      .exact h
      exact aS _ h
    refine mono ?_;unfold mE;rw[ah hn];exact bl _ (by rw[e];exact av.2 rfl)
   exact .inl h1
  exact .inr h1
theorem Cc:∀ {l:List Int} {s:List (Int×Int)×List Int} {y:Int},y∈s.2->y∈(l.foldl (mE E v shut) s).2
 |[],_,_,h=>h
 |d::l,s,y,h=>by
  rw[dG];refine Cc ?_;unfold mE;split
  .exact h
  exact aS _ h
theorem VK (hD:∀v,∀d∈(iC M v).getD [],jB E d∈univ E a):∀(f:Nat) (k:Nat) (v:Int) (m:List (Int×Int)) (q:List Int),NH E a v k m q->(∀p∈m,p.2<=(k:Int))->f+k=2*E.length+2->
  (∀x,(iC m x).isSome=true->x=v\/x∈q\/∀d∈(iC M x).getD [],jB E d≠shut->(iC m (jB E d)).isSome=true)->
  Rx (univ E a) (Bn E M shut f v (m,q),[])/\(∀x,(iC m x).isSome=true->(iC (Bn E M shut f v (m,q)) x).isSome=true)/\
   ∀x,(iC (Bn E M shut f v (m,q)) x).isSome=true->∀d∈(iC M x).getD [],jB E d≠shut->(iC (Bn E M shut f v (m,q)) (jB E d)).isSome=true
 |0,k,v,m,q,h,_,hf,_=>by have:=h.bd;omega
 |f+1,k,v,m,q,h,zG,hf,hc=>by
  have h1:NH E a v k (ng E M v shut (m,q)).1 (ng E M v shut (m,q)).2:=GM h (hD v);have VL:∀x,(iC m x).isSome=true->(iC (ng E M v shut (m,q)).1 x).isSome=true:=λx hx=>xG (s:=(m,q)) hx;have agE:∀x,(iC (ng E M v shut (m,q)).1 x).isSome=true->x∈(ng E M v shut (m,q)).2\/∀d∈(iC M x).getD [],jB E d≠shut->(iC (ng E M v shut (m,q)).1 (jB E d)).isSome=true:=λx hx=>by
   rcases Ah (s:=(m,q)) hx with h2|h2
   .rcases hc x h2 with rfl|h3|h3
    .exact .inr λd hd hs=>Cb d hd hs
    .exact .inl (Cc (s:=(m,q)) h3)
    exact .inr λd hd hs=>VL _ (h3 d hd hs)
   exact .inl h2
  have jU:Bn E M shut (f+1) v (m,q)=(match(ng E M v shut (m,q)).2 with
   |[]=>(ng E M v shut (m,q)).1
   |x::t=>Bn E M shut f x ((ng E M v shut (m,q)).1,t)):=rfl
  rw[jU];generalize hs:ng E M v shut (m,q)=s at*
  obtain⟨m',q'⟩:=s;cases q' with
  |nil=>
   refine⟨⟨h1.s.nd,h1.s.sub⟩,VL,λx hx d hd hs=>?_⟩;rcases agE x hx with h2|h2
   .cases h2
   exact h2 d hd hs
  |cons x t=>
   have hM:NH E a x (k+1) m' t:=by
    refine⟨⟨h1.s.nd,h1.s.sub⟩,h1.qU x aA,λy hy=>h1.qU y (aE _ hy),?_,λp hp=>?_,h1.qM x aA,λy hy=>h1.qM y (aE _ hy),?_⟩
    .have:=h1.n;simp only[bA] at this;omega
    .have:=h1.b p hp;exact⟨this.1,by omega⟩
    exact vQ (P:=λy=>0<=y/\y<=((k+1:Nat):Int)) ⟨by omega,by omega⟩ (λp hp=>by have:=h1.b p hp;exact⟨this.1,by omega⟩) x
   obtain⟨r1,r2,r3⟩:=VK hD f (k+1) x m' t hM (λp hp=>by have:=h1.b p hp;omega) (by omega) (λy hy=>by
    rcases agE y hy with h2|h2
    .rcases aC.1 h2 with rfl|h2
     .exact .inl rfl
     exact .inr (.inl h2)
    exact .inr (.inr h2))
   exact⟨r1,λy hy=>r2 y (VL y hy),r3⟩
theorem Le (hD:∀v,∀d∈(iC M v).getD [],jB E d∈univ E a):(l7 E M a shut).length<=2*E.length+1/\(∀p∈l7 E M a shut,p.1∈univ E a)/\(iC (l7 E M a shut) a).isSome=true/\
  ∀x,(iC (l7 E M a shut) x).isSome=true->∀d∈(iC M x).getD [],jB E d≠shut->(iC (l7 E M a shut) (jB E d)).isSome=true:=by
 obtain⟨h1,h2,_⟩:=(Iz.init E M a shut).go rfl;obtain⟨r1,r2,r3⟩:=VK (shut:=shut) hD (2*E.length+2) 0 a [(a,0)] [] h1 (λp hp=>by have:=h2 p hp;simpa using this) (by omega) (λx hx=>by
  left;cases hl:iC [(a,(0:Int))] x with
  |none=>rw[hl] at hx;cases hx
  |some z=>have:=av.1 (vD hl);cases this;rfl)
 have hlen:=r1.len;rw[KW] at hlen;exact⟨hlen,r1.sub,r2 a (by rw[Pa];rfl),r3⟩
theorem Eg {V L:List Int}(hp:jr n E V L=0):DOk E (jT E L):=λv d hd=>by
 rw[ye] at hd;obtain⟨h1,h2⟩:=oC.1 hd;have:=(iK.1 (jH hp).2.2.1).2 _ h1;constructor
 .omega
 exact this.2
theorem Lf (hr:jA n E=0)(hD:DOk E M)(a:Int):∀v,∀d∈(iC M v).getD [],jB E d∈univ E a:=λv d hd=>by
 obtain⟨h1,h2⟩:=hD v d hd;exact aE _ (KV hr h1 h2).2.2
theorem RD {V L:List Int}(hp:jr n E V L=0){x:Int}(h:(grE E L).qI (· ≠-1) a x):(iC (l7 E (jT E L) a (-1)) x).isSome=true:=by
 have hr:=(jH hp).1;obtain⟨_,_,h1,h2⟩:=Le (shut:= -1) (Lf hr (Eg hp) a);have hdk:=KT (E:=E) (jH hp).2.2.1;refine h.closed (Q:=λx=>(iC (l7 E (jT E L) a (-1)) x).isSome=true) (λx y hx ha hy=>?_) h1;have⟨f,hf,hj⟩:=ha;obtain⟨d,hd,hdf⟩:=hdk.all f x hf hj.left;obtain⟨_,Kz⟩:=hdk.mem x d hd;rw[hdf] at Kz;have hd2:d∈(iC (jT E L) x).getD []:=by rw[ye];exact hd
 by_cases e:jB E d=y
 .subst e;exact h2 x hx d hd2 hy
 have h3:=Kz.of (z:=y) hj.right;rcases h3 with rfl|h3
 .exact hx
 exact(e h3.symm).elim
end
def vT (pm m:List (Int×Int))(c:Int):List (Int×Int):=m.foldl (λp q=>jM p q.1 c) pm
open Classical in
theorem Ai {c:Int}:∀ {m pm:List (Int×Int)} {x:Int},iC (vT pm m c) x=if(iC m x).isSome=true then some c else iC pm x:=by
 have key:∀(m pm:List (Int×Int)) (x:Int),iC (vT pm m c) x=if ∃v,(x,v)∈m then some c else iC pm x:=by
  intro m
  induction m with
  |nil=>intro pm x;show iC pm x=_;rw[ah (by rintro⟨v,h⟩;cases h)]
  |cons p m ih=>
   intro pm x;show iC (vT (jM pm p.1 c) m c) x=_;rw[ih,jI]
   by_cases h1:∃v,(x,v)∈m
   .obtain⟨v,hv⟩:=h1;rw[ak ⟨v,hv⟩,ak ⟨v,aE _ hv⟩]
   rw[ah h1]
   by_cases h2:p.1=x
   .rw[ak h2,ak ⟨p.2,by rw[<-h2];exact aA⟩]
   rw[ah h2,ah];rintro⟨v,hv⟩;rcases aC.1 hv with e|hv
   .rw[<-e] at h2;exact h2 rfl
   exact h1 ⟨v,hv⟩
 intro m pm x;rw[key]
 by_cases h:∃v,(x,v)∈m
 .rw[ak h,ak];cases hl:iC m x with
  |none=>have⟨v,hv⟩:=h;exact(uH.1 hl v hv).elim
  |some z=>rfl
 rw[ah h,ah];intro q;obtain⟨z,hz⟩:=bD.1 q;exact h ⟨z,vD hz⟩
abbrev vt:=List (List Int×List Int)
def Lg (out:vt)(i v:Int):vt:=out.set i.toNat ((out.getD i.toNat ([],[])).1++[v],(out.getD i.toNat ([],[])).2)
def VM (out:vt)(i e:Int):vt:=out.set i.toNat ((out.getD i.toNat ([],[])).1,(out.getD i.toNat ([],[])).2++[e])
def nH (E:List (Int×Int))(M:List (Int×List Int))(s:List (Int×Int)×vt)(v:Int):List (Int×Int)×vt:=
 if(iC s.1 v).isSome=true then(s.1,Lg s.2 ((iC s.1 v).getD 0) v)
 else(vT s.1 (l7 E M v (-1)) (s.2.length:Int),Lg (s.2++[([],[])]) (s.2.length:Int) v)
def Eh (E:List (Int×Int))(pm:List (Int×Int))(out:vt)(e:Int):vt:=VM out ((iC pm (E.getD e.toNat (0,0)).1).getD 0) e
def vV (E:List (Int×Int))(V L:List Int):vt:=L.foldl (Eh E (V.foldl (nH E (jT E L)) ([],[])).1) (V.foldl (nH E (jT E L)) ([],[])).2
structure ItI (R pm:List (Int×Int))(c:Int)(lf:Int->Bool)(cnt:Nat)(vu:List (Int×Int)):Prop where
 a:∀z,lf z=true->(iC R z).isSome=true
 b:∀z,iC vu z=if(iC R z).isSome=true/\lf z=false then some c else iC pm z
 n:vu.length+cnt<=pm.length+R.length
theorem ItI.start (R pm:List (Int×Int))(c:Int):ItI R pm c (λz=>(iC R z).isSome) R.length pm:=
 ⟨λz h=>h,λz=>by rw[ah (by rintro⟨h1,h2⟩;rw[h1] at h2;cases h2)],ay _⟩
theorem ItI.step {R pm vu:List (Int×Int)}{c:Int}{lf:Int->Bool}{cnt rO:Nat}(h:ItI R pm c lf cnt vu){k v:Int}(hl:lf k=true)(hk:iC R k=some v)(hc:rO<cnt):
  ItI R pm c (λz=>lf z && !decide (z=k)) rO (jM vu k c):=by
 refine⟨λz hz=>?_,λz=>?_,?_⟩
 .rw[aQ] at hz;exact h.a z hz.1
 .rw[jI,h.b]
  by_cases e:k=z
  .subst e;rw[ak rfl,ak ⟨by rw[hk];rfl,by simp⟩]
  rw[ah e];have mc:¬z=k:=λq=>e q.symm;have:(lf z && !decide (z=k))=lf z:=by simp[mc]
  rw[this]
 have:=h.n;have:=mY vu k c;omega
theorem ItI.fin {R pm vu:List (Int×Int)}{c:Int}{lf:Int->Bool}{cnt:Nat}(h:ItI R pm c lf cnt vu)(hl:∀z,lf z=false):(∀z,iC vu z=if(iC R z).isSome=true then some c else iC pm z)/\vu.length<=pm.length+R.length:=by
 refine⟨λz=>?_,by have:=h.n;omega⟩;rw[h.b]
 by_cases e:(iC R z).isSome=true
 .rw[ak ⟨e,hl z⟩,ak e]
 rw[ah (λq=>e q.1),ah e]
structure wT (E:List (Int×Int))(V L:List Int)(i:Int)(pm:List (Int×Int))(out:vt):Prop where
 f:∃p',(V.take i.toNat).foldl (nH E (jT E L)) ([],[])=(p',out)/\∀x,iC pm x=iC p' x
 b:∀x c,iC pm x=some c->0<=c/\c<(out.length:Int)
 n:pm.length<=i.toNat*3000
 o:out.length<=i.toNat
 r:∀x∈out,x.1.length<=i.toNat/\x.2=[]
 d:∀j:Nat,(j:Int)<i->(iC pm (V.getD j 0)).isSome=true
theorem wT.zero (E:List (Int×Int))(V L:List Int):wT E V L 0 [] []:=⟨⟨[],rfl,λ_=>rfl⟩,(λx c h=>by cases h),bu _,bu _,(λx h=>by cases h),λj h=>by omega⟩
theorem Aj (out:vt)(i v:Int):(Lg out i v).length=out.length:=bS
theorem VN (out:vt)(i v:Int):(VM out i v).length=out.length:=bS
theorem Lh {out:vt}{i v:Int}{k:Nat}(h:∀x∈out,x.1.length<=k/\x.2=[]):∀x∈Lg out i v,x.1.length<=k+1/\x.2=[]:=λx hx=>by
 rcases anf hx with q|rfl
 .exact⟨anq (h x q).1,(h x q).2⟩
 have:∀j,(out.getD j ([],[])).1.length<=k/\(out.getD j ([],[])).2=[]:=λj=>by
  rw[aH];cases hj:out[j]? with
  |none=>exact⟨by simp,rfl⟩
  |some y=>exact h y (bO hj)
 obtain⟨q1,q2⟩:=this i.toNat;exact⟨by show(_++[v]).length<=_;rw[aO];simp;exact q1,q2⟩
section
variable {E:List (Int×Int)}{V L:List Int}{i:Int}{pm vu:List (Int×Int)}{out:vt}
theorem wT.met (h:wT E V L i pm out)(h0:0<=i)(h1:i<(V.length:Int))(hm:(iC pm (V.getD i.toNat 0)).isSome=true):wT E V L (i+1) pm (Lg out ((iC pm (V.getD i.toNat 0)).getD 0) (V.getD i.toNat 0)):=by
 have⟨p',f1,f2⟩:=h.f;have hi:(i+1).toNat=i.toNat+1:=by omega
 refine⟨⟨p',?_,f2⟩,λx c hx=>by rw[Aj];exact h.b x c hx,aU h.n (Nat.mul_le_mul_right _ (by omega)),by rw[Aj];have:=h.o;omega,by rw[hi];exact Lh h.r,λj hj=>?_⟩
 .rw[tD _ _ h0 h1,f1];unfold nH;simp only;rw[<-f2,ak hm]
 by_cases e:(j:Int)<i
 .exact h.d j e
 rw[show j=i.toNat by omega];exact hm
theorem wT.new (h:wT E V L i pm out)(h0:0<=i)(h1:i<(V.length:Int))(hm:(iC pm (V.getD i.toNat 0)).isSome=false)(hR:(iC (l7 E (jT E L) (V.getD i.toNat 0) (-1)) (V.getD i.toNat 0)).isSome=true)(hlen:(l7 E (jT E L) (V.getD i.toNat 0) (-1)).length<=3000)
  (hp:(∀z,iC vu z=if(iC (l7 E (jT E L) (V.getD i.toNat 0) (-1)) z).isSome=true then some (out.length:Int) else iC pm z)/\vu.length<=pm.length+(l7 E (jT E L) (V.getD i.toNat 0) (-1)).length):
  wT E V L (i+1) vu (Lg (out++[([],[])]) ((iC vu (V.getD i.toNat 0)).getD 0) (V.getD i.toNat 0))/\iC vu (V.getD i.toNat 0)=some (out.length:Int):=by
 have⟨p',f1,f2⟩:=h.f;have⟨p1,p2⟩:=hp;have hi:(i+1).toNat=i.toNat+1:=by omega
 have hv:iC vu (V.getD i.toNat 0)=some (out.length:Int):=by rw[p1,ak hR]
 refine⟨⟨⟨vT p' (l7 E (jT E L) (V.getD i.toNat 0) (-1)) (out.length:Int),?_,λx=>?_⟩,λx c hx=>?_,?_,?_,?_,λj hj=>?_⟩,hv⟩
 .rw[tD _ _ h0 h1,f1,hv];unfold nH;simp only;rw[<-f2,ah (by rw[hm];decide)];rfl
 .rw[p1,Ai,f2]
 .rw[Aj,aO];rw[p1] at hx;split at hx
  .cases hx;simp only[cP];omega
  have:=h.b x c hx;simp only[cP];omega
 .have:=h.n;rw[hi,bZ];omega
 .rw[Aj,aO];have:=h.o;simp only[cP];omega
 .rw[hi];refine Lh λx hx=>?_;rcases aI.1 hx with hx|hx
  .exact h.r x hx
  rw[av.1 hx];exact⟨by simp,rfl⟩
 rw[p1];split
 .rfl
 by_cases e:(j:Int)<i
 .exact h.d j e
 rename_i q;rw[show j=i.toNat by omega] at q;exact(q hR).elim
theorem wT.at_ (h:wT E V L i pm out)(h0:0<=i)(h1:i<=(V.length:Int)){x:Int}(hm:(iC pm x).isSome=true):(0<=(iC pm x).getD 0/\(iC pm x).getD 0<(out.length:Int))/\(out.getD ((iC pm x).getD 0).toNat ([],[])).1.length<=V.length:=by
 obtain⟨c,hc⟩:=bD.1 hm;rw[hc];refine⟨h.b x c hc,?_⟩;rw[aH];cases hj:out[c.toNat]? with
 |none=>simp[hj]
 |some y=>
  have:=(h.r y (bO hj)).1;simp[hj];omega
structure NJ (E:List (Int×Int))(V L:List Int)(j:Int)(m:Nat)(o2:vt):Prop where
 f:(L.take j.toNat).foldl (Eh E (V.foldl (nH E (jT E L)) ([],[])).1) (V.foldl (nH E (jT E L)) ([],[])).2=o2
 n:o2.length=m
 r:∀x∈o2,x.2.length<=j.toNat
theorem wT.fin (h:wT E V L i pm out)(h1:¬i<(V.length:Int)):(∀x,iC pm x=iC (V.foldl (nH E (jT E L)) ([],[])).1 x)/\(V.foldl (nH E (jT E L)) ([],[])).2=out/\NJ E V L 0 out.length out:=by
 have⟨p',f1,f2⟩:=h.f;rw[cM (by omega)] at f1;refine⟨λx=>by rw[f1];exact f2 x,by rw[f1],by rw[f1];rfl,rfl,λx hx=>by rw[(h.r x hx).2];simp⟩
theorem NJ.step {j:Int}{m:Nat}{o2:vt}(h:NJ E V L j m o2)(hp:∀x,iC pm x=iC (V.foldl (nH E (jT E L)) ([],[])).1 x)(h0:0<=j)(h1:j<(L.length:Int)):
  NJ E V L (j+1) m (VM o2 ((iC pm (E.getD (L.getD j.toNat 0).toNat (0,0)).1).getD 0) (L.getD j.toNat 0)):=by
 have hi:(j+1).toNat=j.toNat+1:=by omega
 refine⟨?_,by rw[VN];exact h.n,λx hx=>?_⟩
 .rw[tD _ _ h0 h1,h.f,hp];rfl
 rw[hi];rcases anf hx with q|rfl
 .exact anq (h.r x q)
 show(_++[_]).length<=_;rw[aO];have:∀k,(o2.getD k ([],[])).2.length<=j.toNat:=λk=>by
  rw[aH];cases hk:o2[k]? with
  |none=>simp
  |some y=>exact h.r y (bO hk)
 simp only[cP];exact amZ (this _)
theorem NJ.at_ {j:Int}{m:Nat}{o2:vt}(h:NJ E V L j m o2)(k:Nat):(o2.getD k ([],[])).2.length<=j.toNat:=by
 rw[aH];cases hk:o2[k]? with
 |none=>simp
 |some y=>exact h.r y (bO hk)
theorem wT.at2 {x:Int}(h:iC vu x=some (out.length:Int)):(0<=(iC vu x).getD 0/\(iC vu x).getD 0<((out++[([],[])]).length:Int))/\((out++[([],[])]).getD ((iC vu x).getD 0).toNat ([],[])).1.length<=0:=by
 rw[h];refine⟨by simp only[dA,aO,cP];omega,?_⟩;simp
theorem wT.all (h:wT E V L i pm out)(h1:¬i<(V.length:Int)){x:Int}(hx:x∈V):(iC pm x).isSome=true:=by
 obtain⟨j,hj,rfl⟩:=pN.1 hx;exact h.d j (by omega)
theorem NK {n:Int}{o2:vt}(hp:jr n E V L=0)(e:L.foldl (Eh E (V.foldl (nH E (jT E L)) ([],[])).1) (V.foldl (nH E (jT E L)) ([],[])).2=o2):((o2,(0:Int),()):vt×Int×Unit)=(if jr n E V L≠0 then[] else vV E V L,jr n E V L,()):=by
 rw[ah (λq=>q hp),hp,<-e];rfl
theorem Bo {n j:Int}(hp:jr n E V L=0)(h0:0<=j)(h1:j<(L.length:Int)):(E.getD (L.getD j.toNat 0).toNat (0,0)).1∈V/\(E.getD (L.getD j.toNat 0).toNat (0,0)).2∈V:=by
 obtain⟨hr,hV,hL,qj⟩:=jH hp;obtain⟨a,b⟩:=qj j.toNat (by omega);rw[KP hV] at a b;exact⟨aP a,aP b⟩
end
def ai4 (V l:List Int):List Int:=V.filter λv=>decide (v∈l)
def ai5 (E:List (Int×Int))(L l:List Int):List Int:=L.filter λe=>decide ((E.getD e.toNat (0,0)).1∈l) && decide ((E.getD e.toNat (0,0)).2∈l)
theorem GN {l:List Int}{i:Int}(h0:0<=i)(h1:i<=(l.length:Int)):(rX l i).length=l.length:=by
 unfold rX;rw[aO,bw,aX];omega
theorem Ak {l:List Int}{i:Int}(h0:0<=i)(h1:i<=(l.length:Int)){j:Nat}(hj:j<l.length):(rX l i).getD j 0=l.getD ((j+i.toNat)%l.length) 0:=by
 unfold rX;have hi:i.toNat<=l.length:=by omega
 rw[aH,aH,am8];rw[bw];split
 .rename_i q;rw[List.getElem?_drop,alC (by omega),Nat.add_comm]
 rename_i q;rw[bP,ak (by omega)];have e:(j+i.toNat)%l.length=j-(l.length-i.toNat):=by
  rw[show j+i.toNat=(j-(l.length-i.toNat))+l.length by omega,aox,alC (by omega)]
 rw[e]
def Cd (l:List Int)(x y:Int):Prop:=∃j,j<l.length/\l.getD j 0=x/\y=l.getD ((j+l.length-1)%l.length) 0
theorem RE {l:List Int}{i:Int}(h0:0<=i)(h1:i<=(l.length:Int)){x y:Int}(h:Cd (rX l i) x y):Cd l x y:=by
 have⟨j,hj,e1,e2⟩:=h;rw[GN h0 h1] at hj e2;have hl:0<l.length:=by omega
 have hm:(j+l.length-1)%l.length<l.length:=akz _ hl;rw[Ak h0 h1 hj] at e1;rw[Ak h0 h1 hm] at e2;refine⟨(j+i.toNat)%l.length,akz _ hl,e1,?_⟩;rw[e2]
 congr 1
 rw[aoy,show(j+i.toNat)%l.length+l.length-1=(j+i.toNat)%l.length+(l.length-1) by omega,aoy]
 congr 1
 omega
theorem VO {l:List Int}(hn:l.Nodup){x y z:Int}(h:Cd l x y)(k:Cd l x z):y=z:=by
 obtain⟨i,hi,e1,rfl⟩:=h;obtain⟨j,hj,e2,rfl⟩:=k;rw[nY hn hi hj (e1.trans e2.symm)]
theorem pred_inj {l:List Int}(hn:l.Nodup){x y z:Int}(h:Cd l x z)(k:Cd l y z):x=y:=by
 obtain⟨i,hi,rfl,e1⟩:=h;obtain⟨j,hj,rfl,e2⟩:=k;have hl:0<l.length:=by omega
 have:=nY hn (akz _ hl) (akz _ hl) (e1.symm.trans e2);have e:i=j:=by
  have key:∀a,a<l.length->(a+l.length-1)%l.length=if a=0 then l.length-1 else a-1:=λa ha=>by
   split
   .rename_i q;subst q;rw[cG,alC (by omega)]
   rw[show a+l.length-1=(a-1)+l.length by omega,aox,alC (by omega)]
  rw[key i hi,key j hj] at this;split at this<;>split at this<;>omega
 rw[e]
theorem VP {l:List Int}{x y:Int}(h:Cd l x y):y∈l:=by
 obtain⟨i,hi,_,rfl⟩:=h;exact iV.2 ⟨_,akz _ (by omega),rfl⟩
theorem GO {t:List Int}(hn:t.Nodup){P:List (Int×Int)}:∀ {k:Nat},k<=t.length->(∀j,j<k->iC (Ae P t k) (t.getD j 0)=some (j:Int))/\∀x,(∀j,j<k->t.getD j 0≠x)->iC (Ae P t k) x=iC P x
 |0,_=>⟨λj hj=>by omega,λx _=>rfl⟩
 |k+1,hk=>by
  obtain⟨h1,h2⟩:=GO hn (P:=P) (k:=k) (by omega);refine⟨λj hj=>?_,λx hx=>?_⟩
  .show iC (jM (Ae P t k) (t.getD k 0) (k:Int)) _=_;rw[jI]
   by_cases q:j=k
   .rw[q,ak rfl]
   rw[ah λe=>q (nY hn (by omega) (by omega) e.symm),h1 j (by omega)]
  show iC (jM (Ae P t k) (t.getD k 0) (k:Int)) _=_;rw[jI,ah (hx k (by omega)),h2 x λj hj=>hx j (by omega)]
theorem NL (l:List Int):∃i:Int,0<=i/\i<=(l.length:Int)/\iE l=rX l i:=by
 have:=qy l l.length;exact⟨nh l l.length,this.1,by omega,rfl⟩
theorem rz {l:List Int}{x:Int}:x∈iE l↔x∈l:=by
 constructor
 .exact tF
 intro h;unfold iE rX;rw[aI];rw[<-dO (nh l l.length).toNat l,aI] at h;exact h.symm
theorem Ce {l:List Int}(h:l.Nodup):(iE l).Nodup:=by
 unfold iE rX;rw[<-dO (nh l l.length).toNat l] at h;exact(aou.nodup_iff).1 h
theorem GQ {T:List (List Int)}(hn:∀v,v<T.length->(T.getD v []).Nodup)(hd:∀u v,u<T.length->v<T.length->∀d,d∈T.getD u []->d∈T.getD v []->u=v):∀ {k:Nat},k<=T.length->∀v,v<k->∀j,j<(T.getD v []).length->iC (rY T k) ((iE (T.getD v [])).getD j 0)=some (j:Int)
 |0,_,v,hv,_,_=>by omega
 |k+1,hk,v,hv,j,hj=>by
  have hnk:=Ce (hn k (by omega));obtain⟨h1,h2⟩:=GO hnk (P:=rY T k) (ay _);show iC (Ae (rY T k) (iE (T.getD k [])) (iE (T.getD k [])).length) _=_
  by_cases q:v=k
  .subst q;exact h1 j (by rw[kM];exact hj)
  rw[h2 _ λi hi e=>?_]
  .exact GQ hn hd (k:=k) (by omega) v (by omega) j hj
  have m1:(iE (T.getD v [])).getD j 0∈T.getD v []:=rz.1 (iV.2 ⟨j,by rw[kM];exact hj,rfl⟩);have m2:(iE (T.getD k [])).getD i 0∈T.getD k []:=rz.1 (iV.2 ⟨i,hi,rfl⟩);rw[e] at m2;exact q (hd v k (by omega) (by omega) _ m1 m2)
theorem Pe (d:Int):jG (jG d)=d:=by unfold jG;split<;>split<;>omega
theorem RF (d:Int):jG d/2=d/2:=by unfold jG;split<;>omega
theorem rZ {L:List Int}{d:Int}:jy L (jG d)↔jy L d:=by unfold jy;rw[RF]
theorem NM {n:Int}{E:List (Int×Int)}{L:List Int}{T:List (List Int)}(h:nS n E L T):∀u v,u<T.length->v<T.length->∀d,d∈T.getD u []->d∈T.getD v []->u=v:=λu v hu hv d h1 h2=>by
 have e1:=((h.mem u hu d).1 h1).2;have e2:=((h.mem v hv d).1 h2).2;omega
theorem yg {n:Int}{E:List (Int×Int)}{V L:List Int}{T:List (List Int)}(hp:jr n E V L=0)(h:nS n E L T){d:Int}(hd:jy L d):0<=iO E d/\(iO E d).toNat<T.length/\d∈T.getD (iO E d).toNat []:=by
 obtain⟨hr,_,hL,_⟩:=jH hp;obtain⟨r1,r2,r3,r4⟩:=kF hr;obtain⟨e,he,q⟩:=y6.1 hd;have hb:=(iK.1 hL).2 e he;have qj:=r4 e.toNat (by omega);unfold Ny at qj;have hlen:=h.len;have key:0<=iO E d/\(iO E d).toNat<T.length:=by
  rcases q with rfl|rfl
  .have e0:iO E (2*e)=(E.getD e.toNat (0,0)).1:=by unfold iO;rw[ak (by omega),show 2*e/2=e by omega]
   rw[e0];omega
  have e0:iO E (2*e+1)=(E.getD e.toNat (0,0)).2:=by unfold iO;rw[ah (by omega),show(2*e+1)/2=e by omega]
  rw[e0];omega
 exact⟨key.1,key.2,(h.mem _ key.2 d).2 ⟨hd,by omega⟩⟩
def VQ (E:List (Int×Int))(L:List Int)(T:List (List Int)):Option vR:=some (T.map iE,AM E L L.length,rY T T.length,m7 L L.length)
def Ei (E:List (Int×Int))(L:List Int)(T:List (List Int))(d:Int):Int:=(lq (VQ E L T) (jG d) (-1)).1
theorem Al {α β:Type}{f:α->β}{l:List α}{k:Nat}(h:k<l.length)(z:α)(y:β):(l.map f).getD k y=f (l.getD k z):=by
 rw[aH,cm,aH,aR h];rfl
theorem GR {n:Int}{E:List (Int×Int)}{V L:List Int}{T:List (List Int)}(hp:jr n E V L=0)(h:nS n E L T){t:Int}(ht:jy L t):
  ∃j:Nat,j<(T.getD (iO E t).toNat []).length/\iC (AM E L L.length) t=some (iO E t)/\iC (rY T T.length) t=some (j:Int)/\(iE (T.getD (iO E t).toNat [])).getD j 0=t:=by
 obtain⟨h0,h1,h2⟩:=yg hp h ht;obtain⟨j,hj,e⟩:=iV (z:=0).1 (rz.2 h2);rw[kM] at hj;refine⟨j,hj,?_,?_,e⟩
 .rw[tG (ay _),ak ((mH t).2 ht)]
 have:=GQ h.nd (NM h) (ay _) _ h1 j hj;rwa[e] at this
theorem yh {n:Int}{E:List (Int×Int)}{V L:List Int}{T:List (List Int)}(hp:jr n E V L=0)(h:nS n E L T){d:Int}(hd:jy L d):Cd (T.getD (iO E (jG d)).toNat []) (jG d) (Ei E L T d):=by
 have ht:=rZ.2 hd;obtain⟨h0,h1,h2⟩:=yg hp h ht;obtain⟨j,hj,e1,e2,e3⟩:=GR hp h ht;obtain⟨i,i0,i1,ei⟩:=NL (T.getD (iO E (jG d)).toNat []);refine RE i0 i1 ?_;rw[<-ei];refine⟨j,by rw[kM];exact hj,e3,?_⟩;have eT:(T.map iE).getD (iO E (jG d)).toNat []=iE (T.getD (iO E (jG d)).toNat []):=Al h1 _ _;unfold Ei lq VQ;simp only[e1,e2,eT,kM,dA]
 congr 1
 have:((j:Int)+ -1+((T.getD (iO E (jG d)).toNat []).length:Int))=((j+(T.getD (iO E (jG d)).toNat []).length-1:Nat):Int):=by omega
 rw[this,<-Int.natCast_emod];rfl
theorem Am {n:Int}{E:List (Int×Int)}{V L:List Int}{T:List (List Int)}(hp:jr n E V L=0)(h:nS n E L T)(hs:jo T){d:Int}(hd:jy L d):Ea (VQ E L T) (jG d)/\0<=d/\d<=1000000:=by
 have ht:=rZ.2 hd;obtain⟨h0,h1,h2⟩:=yg hp h ht;obtain⟨j,hj,e1,e2,e3⟩:=GR hp h ht;obtain⟨hr,_,hL,_⟩:=jH hp;obtain⟨r1,r2,r3,r4⟩:=kF hr;obtain⟨e,he,q⟩:=y6.1 hd;have hb:=(iK.1 hL).2 e he;refine⟨λv hv=>?_,by omega,by omega⟩;have hv:iC (AM E L L.length) (jG d)=some v:=hv;rw[e1] at hv;injection hv with hv
 subst hv;have eT:(T.map iE).getD (iO E (jG d)).toNat []=iE (T.getD (iO E (jG d)).toNat []):=Al h1 _ _;have hz:=hs.2 _ (iV (z:=[]).2 ⟨_,h1,rfl⟩);refine⟨h0,by rw[aV];omega,?_,?_,?_⟩
 .rw[eT,kM];exact hz
 .show 0<=(iC (rY T T.length) (jG d)).getD 0;rw[e2];exact Int.natCast_nonneg _
 show(iC (rY T T.length) (jG d)).getD 0<_;rw[e2,eT,kM];show(j:Int)<_;omega
theorem uZ {n:Int}{E:List (Int×Int)}{V L:List Int}{T:List (List Int)}(hp:jr n E V L=0)(h:nS n E L T){d:Int}(hd:jy L d):jy L (Ei E L T d)/\iO E (Ei E L T d)=iO E (jG d):=by
 obtain⟨h0,h1,h2⟩:=yg hp h (rZ.2 hd);have:=(h.mem _ h1 _).1 (VP (yh hp h hd));exact⟨this.1,by omega⟩
theorem Li {n:Int}{E:List (Int×Int)}{V L:List Int}{T:List (List Int)}(hp:jr n E V L=0)(h:nS n E L T){d e:Int}(hd:jy L d)(he:jy L e)(q:Ei E L T d=Ei E L T e):d=e:=by
 have p1:=yh hp h hd;have p2:=yh hp h he;have t1:=(uZ hp h hd).2;have t2:=(uZ hp h he).2;rw[q] at t1 p1;rw[<-t1,t2] at p1;have:=pred_inj (h.nd _ (yg hp h (rZ.2 he)).2.1) p1 p2;rw[<-Pe d,this,Pe]
def Cf (V:List Int)(T:List (List Int)):Nat->List (Int×List Int)
 |0=>[]
 |k+1=>if(T.getD (V.getD (V.length-1-k) 0).toNat []).length=0 then Cf V T k++[(-1-V.getD (V.length-1-k) 0,[])] else Cf V T k
theorem CO (V:List Int)(T:List (List Int)):∀k,(Cf V T k).length<=k
 |0=>ay _
 |k+1=>by
  have:=CO V T k;unfold Cf;split
  .rw[aO];simp;omega
  omega
def qz (r:Option vR):Nat->List (Int×Int)->Int->List Int->List (Int×Int)×List Int
 |0,m,_,acc=>(m,acc)
 |k+1,m,x,acc=>if(iC (Dk m x) (lq r (jG x) (-1)).1).isSome=true then qz r k (Dk m x) (lq r (jG x) (-1)).1 (acc++[x]) else(Dk m x,acc++[x])
def qR (r:Option vR)(s:List (Int×Int)×List (Int×List Int))(d:Int):List (Int×Int)×List (Int×List Int):=
 if(iC s.1 d).isSome=true then((qz r s.1.length s.1 d []).1,s.2++[(d,(qz r s.1.length s.1 d []).2)]) else s
def VR (ds:List Int):Nat->List (Int×Int)
 |0=>[]
 |k+1=>jM (VR ds k) (ds.getD k 0) (ds.getD k 0)
def l8 (r:Option vR)(ds:List Int)(out:List (Int×List Int)):Nat->List (Int×Int)×List (Int×List Int)
 |0=>(VR ds ds.length,out)
 |k+1=>qR r (l8 r ds out k) (ds.getD k 0)
def iA (n:Int)(E:List (Int×Int))(V L:List Int)(T:List (List Int)):List (Int×List Int)×Int:=
 if(mF n E V L T).2≠0 then([],(mF n E V L T).2) else((l8 (mF n E V L T).1 (m7 L L.length) (Cf V T V.length) (m7 L L.length).length).2,0)
theorem acE (ds:List Int):∀k,KN (VR ds k)
 |0=>ID
 |k+1=>Lc (acE ds k) _ _
theorem CP {ds:List Int}:∀ {k:Nat},k<=ds.length->∀x,(iC (VR ds k) x).isSome=true↔x∈ds.take k
 |0,_,x=>by simp[VR];rfl
 |k+1,h,x=>by
  show(iC (jM (VR ds k) (ds.getD k 0) (ds.getD k 0)) x).isSome=true↔_;rw[jI,nZ (by omega) 0,aI,av];split
  .rename_i e;exact⟨λ_=>.inr e.symm,λ_=>rfl⟩
  rename_i e;rw[CP (k:=k) (by omega)];exact⟨.inl,λq=>q.elim id λq=>(e q.symm).elim⟩
theorem IF (ds:List Int):∀k,(VR ds k).length<=k
 |0=>ay _
 |k+1=>by
  have:=IF ds k;have:=mY (VR ds k) (ds.getD k 0) (ds.getD k 0);show(jM _ _ _).length<=_;omega
theorem Lj {V:List Int}{T:List (List Int)}{i:Int}(h0:0<=i)(h1:i<(V.length:Int)):Cf V T (V.length-(i-1+1).toNat)=if(T.getD (V.getD i.toNat 0).toNat []).length=0 then Cf V T (V.length-(i+1).toNat)++[(-1-V.getD i.toNat 0,[])] else Cf V T (V.length-(i+1).toNat):=by
 rw[show V.length-(i-1+1).toNat=(V.length-(i+1).toNat)+1 by omega];show(if(T.getD (V.getD (V.length-1-(V.length-(i+1).toNat)) 0).toNat []).length=0 then _ else _)=_;rw[show V.length-1-(V.length-(i+1).toNat)=i.toNat by omega]
theorem aad {r:Option vR}{m:List (Int×Int)}{x:Int}{acc:List Int}{R:List (Int×Int)×List Int}(hk:KN m)(hs:(iC m x).isSome=true)(ho:qz r m.length m x acc=R):
  ((iC (Dk m x) (lq r (jG x) (-1)).1).isSome=true/\(iC (Dk m x) (lq r (jG x) (-1)).1).isSome=true/\qz r (Dk m x).length (Dk m x) (lq r (jG x) (-1)).1 (acc++[x])=R)\/((iC (Dk m x) (lq r (jG x) (-1)).1).isSome=false/\(Dk m x,acc++[x])=R):=by
 have e:=GL hk hs;rw[<-e] at ho;unfold qz at ho;split at ho
 .rename_i q;exact .inl ⟨q,q,ho⟩
 rename_i q;exact .inr ⟨by simpa using q,ho⟩
theorem CQ {L:List Int}{m:List (Int×Int)}(h:∀y,(iC m y).isSome=true->jy L y)(x:Int):∀y,(iC (Dk m x) y).isSome=true->jy L y:=λy hy=>by
 rw[Dl] at hy;split at hy
 .cases hy
 exact h y hy
def Ej (L:List Int)(r:Option vR)(ds:List Int)(out:List (Int×List Int))(k:Nat)(m2:List (Int×Int))(o2:List (Int×List Int)):Prop:=
 m2=(l8 r ds out k).1/\o2=(l8 r ds out k).2/\KN m2/\(∀y,(iC m2 y).isSome=true->jy L y)/\o2.length<=out.length+k
theorem aae {L:List Int}{r:Option vR}{ds:List Int}{out:List (Int×List Int)}{k:Nat}{m2:List (Int×Int)}{o2:List (Int×List Int)}(h:(iC (l8 r ds out k).1 (ds.getD k 0)).isSome=false)(hI:Ej L r ds out k m2 o2):Ej L r ds out (k+1) m2 o2:=by
 have⟨h1,h2,h3,h4,h5⟩:=hI;have e:l8 r ds out (k+1)=l8 r ds out k:=by
  show qR r (l8 r ds out k) (ds.getD k 0)=_;unfold qR;rw[ah (by rw[h];simp)]
 exact⟨by rw[e];exact h1,by rw[e];exact h2,h3,h4,by omega⟩
theorem VS {L:List Int}{r:Option vR}{ds:List Int}{out:List (Int×List Int)}{k:Nat}{m2 mm:List (Int×Int)}{o2:List (Int×List Int)}{acc:List Int}(hk:k<ds.length)(h:(iC (l8 r ds out k).1 (ds.getD k 0)).isSome=true)
  (hR:(mm,acc)=qz r (l8 r ds out k).1.length (l8 r ds out k).1 (ds.getD k 0) []) (kk:KN mm) (kd:∀y,(iC mm y).isSome=true->jy L y) (hI:Ej L r ds out k m2 o2):Ej L r ds out (k+1) mm (o2++[(ds.getD k 0,acc)]):=by
 have⟨h1,h2,h3,h4,h5⟩:=hI;have e:l8 r ds out (k+1)=(mm,(l8 r ds out k).2++[(ds.getD k 0,acc)]):=by
  show qR r (l8 r ds out k) (ds.getD k 0)=_;unfold qR;rw[ak h,<-hR]
 exact⟨by rw[e],by rw[e,h2],kk,kd,by rw[aO];simp;omega⟩
theorem VT {L:List Int}{m:List (Int×Int)}(h:KN m)(hd:∀y,(iC m y).isSome=true->jy L y):m.length<=(m7 L L.length).length:=by
 have:=h.length_le_of_subset (l₂:=m7 L L.length) λx hx=>(mH x).2 (hd x (mem_keys.1 hx));rwa[aV] at this
theorem u5 {n:Int}{E:List (Int×Int)}{V L:List Int}{T:List (List Int)}(h:(mF n E V L T).2=0):iA n E V L T=((l8 (mF n E V L T).1 (m7 L L.length) (Cf V T V.length) (m7 L L.length).length).2,0):=by
 unfold iA;rw[ah (by rw[h];exact λq=>q rfl)]
attribute [local instance 10] Classical.propDecidable
section
variable {E:List (Int×Int)}{M:List (Int×List Int)}{V L:List Int}{a shut:Int}{n:Int}
theorem Ek {Q:Int->Prop}{v:Int}:∀ {l:List Int} {s:List (Int×Int)×List Int},(∀d∈l,jB E d≠shut->Q (jB E d))->(∀x,(iC s.1 x).isSome=true->Q x)->(∀x∈s.2,Q x)->
  (∀x,(iC (l.foldl (mE E v shut) s).1 x).isSome=true->Q x)/\∀x∈(l.foldl (mE E v shut) s).2,Q x
 |[],s,_,h1,h2=>⟨h1,h2⟩
 |d::l,s,hd,h1,h2=>by
  rw[dG];refine Ek (λe he=>hd e (aE _ he)) (λx hx=>?_) λx hx=>?_
  .unfold mE at hx;split at hx
   .exact h1 x hx
   rename_i hn;have hx:(iC (jM s.1 (jB E d) _) x).isSome=true:=hx;rw[jI] at hx;split at hx
   .rename_i e;rw[<-e];exact hd d aA λe=>hn (.inr e)
   exact h1 x hx
  unfold mE at hx;split at hx
  .exact h2 x hx
  rename_i hn;rcases aI.1 hx with hx|hx
  .exact h2 x hx
  rw[av.1 hx];exact hd d aA λe=>hn (.inr e)
theorem Pf {Q:Int->Prop}(hQ:∀v,Q v->∀d∈(iC M v).getD [],jB E d≠shut->Q (jB E d)):∀(f:Nat) (v:Int) (m:List (Int×Int)) (q:List Int),Q v->(∀x,(iC m x).isSome=true->Q x)->(∀x∈q,Q x)->∀x,(iC (Bn E M shut f v (m,q)) x).isSome=true->Q x
 |0,v,m,q,_,h1,_,x,hx=>h1 x hx
 |f+1,v,m,q,hv,h1,h2,x,hx=>by
  obtain⟨k1,k2⟩:=Ek (Q:=Q) (v:=v) (s:=(m,q)) (hQ v hv) h1 h2;have jU:Bn E M shut (f+1) v (m,q)=(match(ng E M v shut (m,q)).2 with
   |[]=>(ng E M v shut (m,q)).1
   |x::t=>Bn E M shut f x ((ng E M v shut (m,q)).1,t)):=rfl
  rw[jU] at hx;have k1:∀x,(iC (ng E M v shut (m,q)).1 x).isSome=true->Q x:=k1;have k2:∀x∈(ng E M v shut (m,q)).2,Q x:=k2;generalize ng E M v shut (m,q)=s at*
  obtain⟨m',q'⟩:=s;cases q' with
  |nil=>exact k1 x hx
  |cons y t=>exact Pf hQ f y m' t (k2 y aA) k1 (λz hz=>k2 z (aE _ hz)) x hx
def Cn (E:List (Int×Int))(L:List Int)(x y:Int):Prop:=(grE E L).qI (· ≠-1) x y
theorem Bp (hp:jr n E V L=0)(ha:a≠-1){x:Int}:(iC (l7 E (jT E L) a (-1)) x).isSome=true↔Cn E L a x:=by
 refine⟨λh=>?_,RD hp⟩;have hdk:=KT (E:=E) (jH hp).2.2.1;refine Pf (Q:=λx=>Cn E L a x) (λv hv d hd hs=>?_) _ a [(a,0)] [] (.refl ha) (λx hx=>?_) (λx hx=>by cases hx) x h
 .rw[ye] at hd;obtain⟨h1,h2⟩:=hdk.mem v d hd;exact .step hv ⟨_,h1,h2⟩ hs
 cases hl:iC [(a,(0:Int))] x with
 |none=>rw[hl] at hx;cases hx
 |some z=>
  have:=av.1 (vD hl);cases this;exact .refl ha
noncomputable def j6 (E:List (Int×Int)) (L:List Int):List Int->List Int:=λV=>V.foldl (λr v=>if ∃a∈r,Cn E L a v then r else r++[v]) []
theorem GU (V:List Int)(v:Int):j6 E L (V++[v])=if ∃a∈j6 E L V,Cn E L a v then j6 E L V else j6 E L V++[v]:=by
 unfold j6;rw[dm];rfl
theorem IG {P:List Int->Prop}(h0:P [])(h1:∀l x,P l->P (l++[x])):∀l,P l:=λl=>by
 have key:∀l:List Int,P l.reverse:=by
  intro l
  induction l with
  |nil=>exact h0
  |cons x l ih=>rw[List.reverse_cons];exact h1 _ _ ih
 have:=key l.reverse;rwa[List.reverse_reverse] at this
theorem II:∀V:List Int,(∀v∈V,v≠-1)->(∀a∈j6 E L V,a∈V)/\(∀v∈V,∃a∈j6 E L V,Cn E L a v)/\(j6 E L V).Nodup/\∀a∈j6 E L V,∀b∈j6 E L V,Cn E L a b->a=b:=by
 refine IG (λ_=>⟨λa h=>(by cases h),λa h=>(by cases h),akK,λa h=>(by cases h)⟩) λV v ih hV=>?_;obtain⟨h1,h2,h3,h4⟩:=ih λx hx=>hV x (aS _ hx);have hv:=hV v (bl _ (av.2 rfl));rw[GU];split
 .rename_i q;refine⟨λa ha=>aS _ (h1 a ha),λx hx=>?_,h3,h4⟩;rcases aI.1 hx with hx|hx
  .exact h2 x hx
  rw[av.1 hx];exact q
 rename_i q;refine⟨λa ha=>?_,λx hx=>?_,?_,λa ha b hb JE=>?_⟩
 .rcases aI.1 ha with ha|ha
  .exact aS _ (h1 a ha)
  exact bl _ ha
 .rcases aI.1 hx with hx|hx
  .obtain⟨a,ha,hc⟩:=h2 x hx;exact⟨a,aS _ ha,hc⟩
  rw[av.1 hx];exact⟨v,bl _ (av.2 rfl),.refl hv⟩
 .rw[dF];exact⟨h3,by simp,λx hx y hy e=>by subst e;rw[av.1 hy] at hx;exact q ⟨v,hx,.refl hv⟩⟩
 rcases aI.1 ha with ha|ha<;>rcases aI.1 hb with hb|hb
 .exact h4 a ha b hb JE
 .rw[av.1 hb] at JE;exact(q ⟨a,ha,JE⟩).elim
 .rw[av.1 ha] at JE;exact(q ⟨b,hb,Gr.qI.symm JE⟩).elim
 rw[av.1 ha,av.1 hb]
noncomputable def oD (E:List (Int×Int)) (L V:List Int) (a:Int):List Int:=V.filter λv=>decide (Cn E L a v)
noncomputable def agF (E:List (Int×Int)) (L:List Int) (a:Int):List Int:=L.filter λe=>decide (Cn E L a (eA E e))
theorem An {v:Int}:v∈oD E L V a↔v∈V/\Cn E L a v:=by unfold oD;rw[cB];simp
theorem Em {α:Type}{r:List α}{f g:α->List Int×List Int}{i:Nat}(hi:i<r.length)(z:α)(h:∀j,j<r.length->j≠i->f (r.getD j z)=g (r.getD j z)):(r.map f).set i (g (r.getD i z))=r.map g:=by
 apply List.ext_getElem?;intro j;rw[anm]
 by_cases e:i=j
 .subst e;rw[ak rfl,aV,ak hi,cm,aH,aR hi];rfl
 rw[ah e,cm,cm]
 by_cases hj:j<r.length
 .have:=h j hj λq=>e q.symm;rw[aH,aR hj] at this;rw[aR hj];exact aG some this
 rw[cN (by omega)];rfl
theorem En {α:Type}{r:List α}{f:α->List Int×List Int}{i:Nat}(hi:i<r.length)(z:α):(r.map f).getD i ([],[])=f (r.getD i z):=Al hi z _
theorem agG (hp:jr n E V L=0):∀W:List Int,(∀v∈W,v≠-1)->
  (W.foldl (nH E (jT E L)) ([],[])).2=(j6 E L W).map (λa=>(oD E L W a,[]))/\
  (∀x,(∀i,i<(j6 E L W).length->Cn E L ((j6 E L W).getD i 0) x->iC (W.foldl (nH E (jT E L)) ([],[])).1 x=some (i:Int))/\((¬ ∃a∈j6 E L W,Cn E L a x)->iC (W.foldl (nH E (jT E L)) ([],[])).1 x=none)):=by
 refine IG (λ_=>⟨rfl,λx=>⟨λi hi=>by simp[j6] at hi,λ_=>rfl⟩⟩) λW v ih hW=>?_;have hW':∀x∈W,x≠-1:=λx hx=>hW x (aS _ hx);obtain⟨h1,h2⟩:=ih hW';have hv:=hW v (bl _ (av.2 rfl));obtain⟨r1,r2,r3,r4⟩:=II (E:=E) (L:=L) W hW';rw[dm];show(nH E (jT E L) (W.foldl (nH E (jT E L)) ([],[])) v).2=_/\∀x,(∀i,i<_->_->iC (nH E (jT E L) (W.foldl (nH E (jT E L)) ([],[])) v).1 x=_)/\(_->iC (nH E (jT E L) (W.foldl (nH E (jT E L)) ([],[])) v).1 x=none);generalize W.foldl (nH E (jT E L)) ([],[])=s at*
 obtain⟨pm,out⟩:=s;dsimp only at h1 h2;subst h1;rw[GU];have aaf:∀a,oD E L (W++[v]) a=if Cn E L a v then oD E L W a++[v] else oD E L W a:=λa=>by
  unfold oD;rw[ans];split
  .rename_i q;rw[aoA (by simpa using q)];rfl
  rename_i q;rw[amw (by simpa using q)];simp
 by_cases hc:∃a∈j6 E L W,Cn E L a v
 .rw[ak hc];have⟨a,ha,hav⟩:=hc;obtain⟨i,hi,rfl⟩:=iV (z:=0).1 ha;have E5:=(h2 v).1 i hi hav;have e:nH E (jT E L) (pm,(j6 E L W).map λa=>(oD E L W a,[])) v=(pm,Lg ((j6 E L W).map λa=>(oD E L W a,[])) (i:Int) v):=by
   unfold nH;dsimp only;rw[ak (by rw[E5];rfl),E5];rfl
  rw[e];refine⟨?_,h2⟩;show((j6 E L W).map λa=>(oD E L W a,[])).set (i:Int).toNat _=_;rw[cH,En hi 0];have:(oD E L W ((j6 E L W).getD i 0)++[v],([]:List Int))=(λa=>(oD E L (W++[v]) a,([]:List Int))) ((j6 E L W).getD i 0):=by
   show _=(oD E L (W++[v]) _,[]);rw[aaf,ak hav]
  show((j6 E L W).map λa=>(oD E L W a,[])).set i (oD E L W ((j6 E L W).getD i 0)++[v],[])=_;rw[this];refine Em (f:=λa=>(oD E L W a,[])) (g:=λa=>(oD E L (W++[v]) a,[])) hi 0 λj hj mc=>?_;rw[aaf,ah];intro q;have:=r4 _ (iV.2 ⟨j,hj,rfl⟩) _ ha ((Gr.qI.trans q (Gr.qI.symm hav)));exact mc (nY r3 hj hi this)
 rw[ah hc];have E5:=(h2 v).2 hc;have e:nH E (jT E L) (pm,(j6 E L W).map λa=>(oD E L W a,[])) v=(vT pm (l7 E (jT E L) v (-1)) ((j6 E L W).length:Int),Lg (((j6 E L W).map λa=>(oD E L W a,[]))++[([],[])]) ((j6 E L W).length:Int) v):=by
  unfold nH;dsimp only;rw[ah (by rw[E5];decide),aV]
 rw[e];have sQ:∀x,iC (vT pm (l7 E (jT E L) v (-1)) ((j6 E L W).length:Int)) x=if(iC (l7 E (jT E L) v (-1)) x).isSome=true then some ((j6 E L W).length:Int) else iC pm x:=λx=>Ai;refine⟨?_,λx=>⟨λi hi hx=>?_,λhx=>?_⟩⟩
 .have B3:∀a∈j6 E L W,oD E L (W++[v]) a=oD E L W a:=λa ha=>by rw[aaf,ah λq=>hc ⟨a,ha,q⟩]
  have uu:oD E L W v=[]:=by
   unfold oD;rw[List.filter_eq_nil_iff];intro x hx q;have q:Cn E L v x:=by simpa using q
   obtain⟨a,ha,hax⟩:=r2 x hx;exact hc ⟨a,ha,Gr.qI.trans hax (Gr.qI.symm q)⟩
  show(((j6 E L W).map λa=>(oD E L W a,[]))++[([],[])]).set ((j6 E L W).length:Int).toNat _=_;rw[cH];have hlen:((j6 E L W).map λa=>(oD E L W a,([]:List Int))).length=(j6 E L W).length:=aV ..;have eg:(((j6 E L W).map λa=>(oD E L W a,([]:List Int)))++[([],[])]).getD (j6 E L W).length ([],[])=([],[]):=by
   rw[aH,cY (by omega),hlen,cZ];rfl
  rw[eg,List.set_append_right _ _ (by omega),hlen,cZ,bX]
  congr 1
  .exact dg λa ha=>by rw[B3 a ha]
  show[(([]:List Int)++[v],([]:List Int))]=[(oD E L (W++[v]) v,[])];rw[aaf,ak (.refl hv),uu]
 .rw[sQ];rw[aO] at hi
  by_cases q:i<(j6 E L W).length
  .have eg:(j6 E L W++[v]).getD i 0=(j6 E L W).getD i 0:=Vx q;rw[eg] at hx;rw[ah,(h2 x).1 i q hx];intro z;exact hc ⟨_,iV.2 ⟨i,q,rfl⟩,Gr.qI.trans hx (Gr.qI.symm ((Bp hp hv).1 z))⟩
  have qm:i=(j6 E L W).length:=by simp at hi;omega
  subst qm;have eg:(j6 E L W++[v]).getD (j6 E L W).length 0=v:=by
   rw[aH,cY (ay _),cZ];rfl
  rw[eg] at hx;rw[ak ((Bp hp hv).2 hx)]
 rw[sQ,ah,(h2 x).2]
 .rintro⟨a,ha,q⟩;exact hx ⟨a,aS _ ha,q⟩
 intro z;exact hx ⟨v,bl _ (av.2 rfl),(Bp hp hv).1 z⟩
noncomputable def yj (E:List (Int×Int)) (V L:List Int):vt:=(j6 E L V).map λa=>(oD E L V a,agF E L a)
theorem Lm {V:List Int}(h:kT V n):∀v∈V,v≠-1:=λv hv=>by have:=(iK.1 h).2 v hv;omega
theorem pieces_eq (hp:jr n E V L=0):vV E V L=yj E V L:=by
 obtain⟨hr,hV,hL,qj⟩:=jH hp;have hV1:=Lm hV;obtain⟨h1,h2⟩:=agG hp V hV1;obtain⟨r1,r2,r3,r4⟩:=II (E:=E) (L:=L) V hV1;unfold vV;generalize V.foldl (nH E (jT E L)) ([],[])=s at*
 obtain⟨pm,out⟩:=s;dsimp only at h1 h2 ⊢;subst h1;have key:∀W:List Int,(∀e∈W,e∈L)->W.foldl (Eh E pm) ((j6 E L V).map λa=>(oD E L V a,[]))=(j6 E L V).map λa=>(oD E L V a,W.filter λe=>decide (Cn E L a (eA E e))):=by
  refine IG (λ_=>rfl) λW e ih hW=>?_;rw[dm,ih λx hx=>hW x (aS _ hx)];show Eh E pm _ e=_;have he:=hW e (bl _ (av.2 rfl));obtain⟨j,hj,rfl⟩:=pN.1 he;obtain⟨ka,kb⟩:=Bo (j:=(j:Int)) hp (by omega) (by omega);rw[cH] at ka;have ka:eA E (L.getD j 0)∈V:=ka;generalize L.getD j 0=e at*
  obtain⟨a,ha,hax⟩:=r2 _ ka;obtain⟨i,hi,rfl⟩:=iV (z:=0).1 ha;have E5:=(h2 (eA E e)).1 i hi hax;have ee:Eh E pm ((j6 E L V).map λa=>(oD E L V a,W.filter λe=>decide (Cn E L a (eA E e)))) e=VM ((j6 E L V).map λa=>(oD E L V a,W.filter λe=>decide (Cn E L a (eA E e)))) (i:Int) e:=by
   unfold Eh;rw[show(E.getD e.toNat (0,0)).1=eA E e from rfl,E5];rfl
  rw[ee];unfold VM;rw[cH,En hi 0];have hf:∀a,(W++[e]).filter (λe=>decide (Cn E L a (eA E e)))=if Cn E L a (eA E e) then W.filter (λe=>decide (Cn E L a (eA E e)))++[e] else W.filter (λe=>decide (Cn E L a (eA E e))):=λa=>by
   rw[ans];split
   .rename_i q;rw[aoA (by simpa using q)];rfl
   rename_i q;rw[amw (by simpa using q)];simp
  have:=Em (f:=λa=>(oD E L V a,W.filter λe=>decide (Cn E L a (eA E e)))) (g:=λa=>(oD E L V a,(W++[e]).filter λe=>decide (Cn E L a (eA E e)))) hi 0 λj hj mc=>by
   rw[hf,ah];intro q;have:=r4 _ (iV.2 ⟨j,hj,rfl⟩) _ ha ((Gr.qI.trans q (Gr.qI.symm hax)));exact mc (nY r3 hj hi this)
  rw[<-this];dsimp only;rw[hf,ak hax]
 exact key L λ_ h=>h
end
def JG (m:List (Int×Int))(vs:List Int)(c:Int):Nat->List (Int×Int)
 |0=>m
 |k+1=>jM (JG m vs c k) (vs.getD k 0) c
def CR (P:vt):Nat->List (Int×Int)
 |0=>[]
 |k+1=>JG (CR P k) (P.getD k ([],[])).1 (k:Int) (P.getD k ([],[])).1.length
theorem Ln {m:List (Int×Int)}{vs:List Int}{c i:Int}(h:0<=i):JG m vs c (i+1).toNat=jM (JG m vs c i.toNat) (vs.getD i.toNat 0) c:=by
 rw[show(i+1).toNat=i.toNat+1 by omega];rfl
theorem Lo {P:vt}{i:Int}(h:0<=i):CR P (i+1).toNat=JG (CR P i.toNat) (P.getD i.toNat ([],[])).1 i (P.getD i.toNat ([],[])).1.length:=by
 rw[show(i+1).toNat=i.toNat+1 by omega];show JG _ _ ((i.toNat:Nat):Int) _=_;rw[cA h]
theorem CS {m:List (Int×Int)}{vs:List Int}{c:Int}:∀k,(JG m vs c k).length<=m.length+k
 |0=>ay _
 |k+1=>by
  have h:=CS (m:=m) (vs:=vs) (c:=c) k;have:=mY (JG m vs c k) (vs.getD k 0) c;show(jM _ _ _).length<=_;omega
theorem CT {P:vt}{N:Nat}(hP:∀k,(P.getD k ([],[])).1.length<=N):∀k,(CR P k).length<=k*N
 |0=>by simp[CR]
 |k+1=>by
  have h:=CT hP k;have h1:=CS (m:=CR P k) (vs:=(P.getD k ([],[])).1) (c:=(k:Int)) (P.getD k ([],[])).1.length;have h2:=hP k;show(JG _ _ _ _).length<=_;rw[bZ];omega
theorem Lp {m:List (Int×Int)}{vs:List Int}{c:Int}:∀ {k:Nat},k<=vs.length->∀x,iC (JG m vs c k) x=if x∈vs.take k then some c else iC m x
 |0,_,x=>by simp[JG]
 |k+1,h,x=>by
  show iC (jM (JG m vs c k) (vs.getD k 0) c) x=_;rw[jI,Lp (k:=k) (by omega),nZ (by omega) 0]
  by_cases q:vs.getD k 0=x
  .rw[ak q,ak (bl _ (by simp only[av];exact q.symm))]
  rw[ah q]
  by_cases z:x∈vs.take k
  .rw[ak z,ak (aS _ z)]
  rw[ah z,ah];intro y;rcases aI.1 y with y|y
  .exact z y
  exact q (av.1 y).symm
structure Lq (E:List (Int×Int))(V L:List Int)(P:vt):Prop where
 len:P.length<=V.length
 bd:∀k,(P.getD k ([],[])).1.length<=V.length/\(P.getD k ([],[])).2.length<=L.length
 sub:∀k,∀v∈(P.getD k ([],[])).1,v∈V
 cov:∀v∈V,∃i,i<P.length/\v∈(P.getD i ([],[])).1
 uq:∀i j,i<P.length->j<P.length->∀v,v∈(P.getD i ([],[])).1->v∈(P.getD j ([],[])).1->i=j
theorem Lr {E:List (Int×Int)}{V L:List Int}{P:vt}(h:Lq E V L P):∀ {k:Nat},k<=P.length->∀i,i<k->∀x∈(P.getD i ([],[])).1,iC (CR P k) x=some (i:Int)
 |k+1,hk,i,hi,x,hx=>by
  show iC (JG (CR P k) (P.getD k ([],[])).1 (k:Int) (P.getD k ([],[])).1.length) x=_;rw[Lp (ay _),bL]
  by_cases q:i=k
  .subst q;rw[ak hx]
  rw[ah λz=>q (h.uq i k (by omega) (by omega) x hx z)];exact Lr h (k:=k) (by omega) i (by omega) x hx
theorem VU {E:List (Int×Int)}{V L:List Int}{P:vt}(h:Lq E V L P){v:Int}(hv:v∈V):∃i:Nat,i<P.length/\v∈(P.getD i ([],[])).1/\iC (CR P P.length) v=some (i:Int):=by
 obtain⟨i,hi,hx⟩:=h.cov v hv;exact⟨i,hi,hx,Lr h (ay _) i hi v hx⟩
theorem Ls {α:Type}{l:List α}{k:Nat}{z:α}(h:l.length<=k):l.getD k z=z:=by
 rw[aH,cN h];rfl
theorem RG {n:Int}{E:List (Int×Int)}{V L:List Int}(hp:jr n E V L=0):Lq E V L (vV E V L):=by
 obtain⟨hr,hV,hL,qj⟩:=jH hp;obtain⟨r1,r2,r3,r4⟩:=II (E:=E) (L:=L) V (Lm hV);rw[pieces_eq hp];have hlen:(yj E V L).length=(j6 E L V).length:=aV ..;have uI:∀k,k<(yj E V L).length->(yj E V L).getD k ([],[])=(oD E L V ((j6 E L V).getD k 0),agF E L ((j6 E L V).getD k 0)):=λk hk=>En (by omega) 0;refine⟨?_,λk=>?_,λk v hv=>?_,λv hv=>?_,λi j hi hj v h1 h2=>?_⟩
 .rw[hlen];exact r3.length_le_of_subset r1
 .by_cases hk:k<(yj E V L).length
  .rw[uI k hk];exact⟨amc _ _,amc _ _⟩
  rw[Ls (by omega)];exact⟨bu _,bu _⟩
 .by_cases hk:k<(yj E V L).length
  .rw[uI k hk] at hv;exact(An.1 hv).1
  rw[Ls (by omega)] at hv;cases hv
 .obtain⟨a,ha,hc⟩:=r2 v hv;obtain⟨i,hi,rfl⟩:=iV (z:=0).1 ha;exact⟨i,by omega,by rw[uI i (by omega)];exact An.2 ⟨hv,hc⟩⟩
 rw[uI i hi] at h1;rw[uI j hj] at h2;have h1:=(An.1 h1).2;have h2:=(An.1 h2).2;exact nY r3 (by omega) (by omega) (r4 _ (iV.2 ⟨i,by omega,rfl⟩) _ (iV.2 ⟨j,by omega,rfl⟩) ((Gr.qI.trans h1 (Gr.qI.symm h2))))
def iH (n:Int)(E:List (Int×Int))(V L:List Int):vt:=if jr n E V L≠0 then[] else vV E V L
theorem aag {n:Int}{E:List (Int×Int)}{V L:List Int}(hp:jr n E V L=0):iH n E V L=vV E V L:=ah (by rw[hp];exact λq=>q rfl)
theorem CU {n:Int}{E:List (Int×Int)}{V L:List Int}(hp:jr n E V L=0):Lq E V L (iH n E V L):=by rw[aag hp];exact RG hp
def qA (E:List (Int×Int))(w:Int×List Int):Int:=if w.2.length=0 then -1-w.1 else iO E w.1
theorem Ao {V:List Int}{T:List (List Int)}:∀ {k:Nat},k<=V.length->∀w∈Cf V T k,w.2.length=0/\-1-w.1∈V
 |0,_,w,h=>by cases h
 |k+1,hk,w,h=>by
  unfold Cf at h;split at h
  .rcases aI.1 h with h|h
   .exact Ao (by omega) w h
   rw[av.1 h];exact⟨rfl,by rw[show -1-(-1-V.getD (V.length-1-k) 0)=V.getD (V.length-1-k) 0 by omega];exact iV.2 ⟨_,by omega,rfl⟩⟩
  exact Ao (by omega) w h
theorem Pg {r:Option vR}:∀ {k:Nat} {m:List (Int×Int)} {x:Int} {acc:List Int},acc.length<=(qz r k m x acc).2.length/\(0<k->acc.length<(qz r k m x acc).2.length)/\(qz r k m x acc).2.length<=acc.length+k
 |0,m,x,acc=>⟨ay _,λh=>(by omega),ay _⟩
 |k+1,m,x,acc=>by
  unfold qz;split
  .obtain⟨h1,_,h2⟩:=Pg (r:=r) (k:=k) (m:=Dk m x) (x:=(lq r (jG x) (-1)).1) (acc:=acc++[x]);rw[aO,cP] at h1 h2;exact⟨by omega,λ_=>by omega,by omega⟩
  simp only[aO,cP];omega
theorem Ph {r:Option vR}{L:List Int}{ds:List Int}{out:List (Int×List Int)}(hd:∀d∈ds,jy L d):∀ {k:Nat},k<=ds.length->∀w∈(l8 r ds out k).2,w∈out\/(w.2.length≠0/\jy L w.1)
 |0,_,w,h=>.inl h
 |k+1,hk,w,h=>by
  have ih:=Ph (r:=r) (out:=out) hd (k:=k) (by omega);have h:w∈(qR r (l8 r ds out k) (ds.getD k 0)).2:=h;unfold qR at h;split at h
  .rename_i hs;rcases aI.1 h with h|h
   .exact ih w h
   rw[av.1 h];refine .inr ⟨?_,hd _ (iV.2 ⟨k,by omega,rfl⟩)⟩;have Tc:0<(l8 r ds out k).1.length:=by
    cases hm:(l8 r ds out k).1 with
    |nil=>rw[hm] at hs;cases hs
    |cons _ _=>simp
   have:=Pg (r:=r) (k:=(l8 r ds out k).1.length) (m:=(l8 r ds out k).1) (x:=ds.getD k 0) (acc:=[]);have:=this.2.1 Tc;simp only[cq] at this;show(qz r _ _ _ []).2.length≠0;omega
  exact ih w h
theorem Pj {r:Option vR}{ds:List Int}{out:List (Int×List Int)}:∀k,(l8 r ds out k).2.length<=out.length+k
 |0=>ay _
 |k+1=>by
  have ih:=Pj (r:=r) (ds:=ds) (out:=out) k;show(qR r (l8 r ds out k) (ds.getD k 0)).2.length<=_;unfold qR;split
  .rw[aO,cP];omega
  omega
theorem sH {n:Int}{E:List (Int×Int)}{V L:List Int}{T:List (List Int)}:(iA n E V L T).2=(mF n E V L T).2:=by
 unfold iA;split
 .rfl
 rename_i q;have:(mF n E V L T).2=0:=bT λz=>q z;rw[this]
structure Lt (E:List (Int×Int))(V L:List Int)(W:List (Int×List Int)):Prop where
 len:W.length<=V.length+2*L.length
 key:∀w∈W,(w.2.length=0/\-1-w.1∈V)\/(w.2.length≠0/\jy L w.1)
theorem qC {n:Int}{E:List (Int×Int)}{V L:List Int}{T:List (List Int)}(h:(iA n E V L T).2=0):jr n E V L=0/\nS n E L T/\Lt E V L (iA n E V L T).1:=by
 rw[sH] at h;obtain⟨h1,h2,h3⟩:=y7 h;refine⟨h1,h2,?_⟩;rw[u5 h];have hl:=CO V T V.length;have hr:=Pj (r:=(mF n E V L T).1) (ds:=m7 L L.length) (out:=Cf V T V.length) (m7 L L.length).length;have hd:=Af L L.length;refine⟨by show(l8 _ _ _ _).2.length<=_;omega,λw hw=>?_⟩;rcases Ph (λd hd=>(mH d).1 hd) (ay _) w hw with q|q
 .exact .inl (Ao (ay _) w q)
 exact .inr q
theorem u6 {n:Int}{E:List (Int×Int)}{V L:List Int}(hp:jr n E V L=0){d:Int}(hd:jy L d):iO E d∈V/\0<=d/\d/2<(E.length:Int)/\d<=1000000:=by
 obtain⟨hr,hV,hL,qj⟩:=jH hp;obtain⟨r1,r2,r3,r4⟩:=kF hr;have hb:=(iK.1 hL).2 _ hd;obtain⟨j,hj,e⟩:=pN.1 hd;obtain⟨ka,kb⟩:=Bo (j:=(j:Int)) hp (by omega) (by omega);rw[cH,e] at ka kb;refine⟨?_,by omega,by omega,by omega⟩;unfold iO;split
 .exact ka
 exact kb
theorem IJ {n:Int}{E:List (Int×Int)}{V L:List Int}(hp:jr n E V L=0){W:List (Int×List Int)}(h:Lt E V L W){w:Int×List Int}(hw:w∈W):qA E w∈V:=by
 unfold qA;rcases h.key w hw with⟨q,z⟩|⟨q,z⟩
 .rw[ak q];exact z
 rw[ah q];exact(u6 hp z).1
theorem acF {n:Int}{E:List (Int×Int)}{V L:List Int}(hp:jr n E V L=0){W:List (Int×List Int)}(h:Lt E V L W){w:Int×List Int}(hw:w∈W): -1024<=w.1/\w.1<=1000000:=by
 obtain⟨hr,hV,hL,qj⟩:=jH hp;obtain⟨r1,r2,r3,r4⟩:=kF hr;rcases h.key w hw with⟨q,z⟩|⟨q,z⟩
 .have:=(iK.1 hV).2 _ z;omega
 have:=u6 hp z;omega
def Bq (E:List (Int×Int))(P:vt)(W:List (Int×List Int)):Nat->List Int
 |0=>cO P.length 0
 |k+1=>(Bq E P W k).set ((iC (CR P P.length) (qA E (W.getD k (0,[])))).getD 0).toNat ((Bq E P W k).getD ((iC (CR P P.length) (qA E (W.getD k (0,[])))).getD 0).toNat 0+1)
theorem IK {E:List (Int×Int)}{P:vt}{W:List (Int×List Int)}:∀k,(Bq E P W k).length=P.length
 |0=>List.length_replicate
 |k+1=>by unfold Bq;rw[bS];exact IK k
theorem VV {E:List (Int×Int)}{P:vt}{W:List (Int×List Int)}:∀k j,0<=(Bq E P W k).getD j 0/\(Bq E P W k).getD j 0<=(k:Int)
 |0,j=>by
  unfold Bq;rw[aH,List.getElem?_replicate];split<;>simp
 |k+1,j=>by
  have h1:=VV (E:=E) (P:=P) (W:=W) k;unfold Bq;rw[aH,anm];split
  .split
   .have:=h1 ((iC (CR P P.length) (qA E (W.getD k (0,[])))).getD 0).toNat;simp only[dA];omega
   simp only[Option.getD_none];omega
  have:=h1 j;rw[aH] at this;omega
theorem GV {E:List (Int×Int)}{P:vt}{W:List (Int×List Int)}{i:Int}(h:0<=i):Bq E P W (i+1).toNat=(Bq E P W i.toNat).set ((iC (CR P P.length) (qA E (W.getD i.toNat (0,[])))).getD 0).toNat ((Bq E P W i.toNat).getD ((iC (CR P P.length) (qA E (W.getD i.toNat (0,[])))).getD 0).toNat 0+1):=by
 rw[show(i+1).toNat=i.toNat+1 by omega];rfl
def Lu (P:vt)(fs:List Int):Nat->List Int
 |0=>[]
 |k+1=>Lu P fs k++[Int.tdiv (2-((P.getD k ([],[])).1.length:Int)+((P.getD k ([],[])).2.length:Int)-fs.getD k 0) 2]
theorem IL {P:vt}{fs:List Int}:∀k,(Lu P fs k).length=k
 |0=>rfl
 |k+1=>by unfold Lu;rw[aO,IL k];rfl
theorem RH {P:vt}{fs:List Int}{i:Int}(h:0<=i):Lu P fs (i+1).toNat=Lu P fs i.toNat++[Int.tdiv (2-((P.getD i.toNat ([],[])).1.length:Int)+((P.getD i.toNat ([],[])).2.length:Int)-fs.getD i.toNat 0) 2]:=by
 rw[show(i+1).toNat=i.toNat+1 by omega];rfl
def lM (n:Int)(E:List (Int×Int))(V L:List Int)(T:List (List Int)):List Int×Int:=
 if(iA n E V L T).2≠0 then([],(iA n E V L T).2) else(Lu (iH n E V L) (Bq E (iH n E V L) (iA n E V L T).1 (iA n E V L T).1.length) (iH n E V L).length,0)
def qD (n:Int)(E:List (Int×Int))(V L:List Int)(T:List (List Int)):Int:=
 if(lM n E V L T).2≠0 then(lM n E V L T).2 else if(lM n E V L T).1.all (λg=>decide (g=0)) then 0 else 6
theorem IM {n:Int}{E:List (Int×Int)}{V L:List Int}{T:List (List Int)}:(lM n E V L T).2=(mF n E V L T).2:=by
 unfold lM;split
 .exact sH
 rename_i q;rw[<-sH];exact(eu.1 q).symm
theorem RI {n:Int}{E:List (Int×Int)}{V L:List Int}{T:List (List Int)}(h:(lM n E V L T).2=0):(lM n E V L T).1.length<=V.length:=by
 rw[IM,<-sH] at h;obtain⟨hp,_,_⟩:=qC h;unfold lM;rw[ah (by rw[h];exact λq=>q rfl)];show(Lu _ _ _).length<=_;rw[IL];exact(CU hp).len
theorem NN {n:Int}{E:List (Int×Int)}{V L:List Int}{T:List (List Int)}(h:(lM n E V L T).2=0):V.length<=1024:=by
 rw[IM,<-sH] at h;obtain⟨hp,_,_⟩:=qC h;obtain⟨hr,hV,hL,qj⟩:=jH hp;obtain⟨r1,r2,r3,r4⟩:=kF hr;have:=l6 hV r1;omega
theorem VW {n:Int}{E:List (Int×Int)}{V L:List Int}{T:List (List Int)}{i:Int}(h:(lM n E V L T).2=0)(h0:0<=i)(h1:i<((lM n E V L T).1.length:Int))(h2:¬(lM n E V L T).1.getD i.toNat 0=0):qD n E V L T=6:=by
 unfold qD;rw[ah (by rw[h];exact λq=>q rfl),ah];intro q;exact h2 (aP (aY.1 q _ (iV.2 ⟨i.toNat,by omega,rfl⟩)))
theorem aah {n:Int}{E:List (Int×Int)}{V L:List Int}{T:List (List Int)}(h:(lM n E V L T).2=0)(h1:∀j,j<(lM n E V L T).1.length->(lM n E V L T).1.getD j 0=0):qD n E V L T=0:=by
 unfold qD;rw[ah (by rw[h];exact λq=>q rfl),ak];rw[aY];intro x hx;obtain⟨j,hj,rfl⟩:=iV (z:=0).1 hx;exact bN (h1 j hj)
def jJ (E:List (Int×Int))(P:vt)(W:List (Int×List Int)):Nat->List (Int×Int)
 |0=>[]
 |k+1=>jM (jJ E P W k) (W.getD k (0,[])).1 ((iC (CR P P.length) (qA E (W.getD k (0,[])))).getD 0)
theorem RJ {E:List (Int×Int)}{P:vt}{W:List (Int×List Int)}{i:Int}(h:0<=i):jJ E P W (i+1).toNat=jM (jJ E P W i.toNat) (W.getD i.toNat (0,[])).1 ((iC (CR P P.length) (qA E (W.getD i.toNat (0,[])))).getD 0):=by
 rw[show(i+1).toNat=i.toNat+1 by omega];rfl
theorem IP {E:List (Int×Int)}{P:vt}{W:List (Int×List Int)}:∀k,(jJ E P W k).length<=k
 |0=>ay _
 |k+1=>by
  have:=IP (E:=E) (P:=P) (W:=W) k;have:=mY (jJ E P W k) (W.getD k (0,[])).1 ((iC (CR P P.length) (qA E (W.getD k (0,[])))).getD 0);show(jM _ _ _).length<=_;omega
def vW:Nat->S4
 |0=>([],[],[],0)
 |k+1=>mM (vW k) (k:Int)
theorem RL {i:Int}(h:0<=i):vW (i+1).toNat=mM (vW i.toNat) i:=by
 rw[show(i+1).toNat=i.toNat+1 by omega];show mM _ ((i.toNat:Nat):Int)=_;rw[cA h]
theorem IQ:∀k,Ef (vW k)/\(vW k).2.1.length=k/\(∀x,(iC (vW k).1 x).isSome=true↔0<=x/\x<(k:Int))/\∀a b,Rl (vW k) a b↔0<=a/\a<(k:Int)/\a=b
 |0=>⟨Ef.nil,rfl,λx=>⟨(λh=>by cases h),λh=>by omega⟩,λa b=>⟨(λ⟨i,_,h,_⟩=>by cases h),λh=>by omega⟩⟩
 |k+1=>by
  obtain⟨h1,h2,h3,h4⟩:=IQ k;obtain⟨k1,k2⟩:=h1.add (k:Int);have hn:iC (vW k).1 (k:Int)=none:=by
   cases hq:iC (vW k).1 (k:Int) with
   |none=>rfl
   |some _=>have:=(h3 (k:Int)).1 (by rw[hq];rfl);omega
  refine⟨k1,?_,λx=>?_,λa b=>?_⟩
  .show(kA (vW k).1 (vW k).2.1 (k:Int)).length=_;unfold kA;rw[hn];simp[h2]
  .show(iC (jX (vW k).1 (vW k).2.1 (k:Int)) x).isSome=true↔_;unfold jX;rw[hn];simp only[Option.isSome_none,Bool.false_eq_true,if_false];rw[jI];split
   .exact⟨λ_=>by omega,λ_=>rfl⟩
   rw[h3];omega
  show Rl (mM (vW k) (k:Int)) a b↔_;rw[k2,h4];omega
def vX (ow:qn)(l:List Int)(i:Int)(s:S4×qn)(k:Nat):Option (S4×qn):=
 if(iC ow (l.getD k 0)).isSome=false\/(iC s.2 (l.getD k 0)).isSome=true\/(0<k/\l.getD k 0<=l.getD (k-1) 0) then none
 else if k=0 then some (s.1,jM s.2 (l.getD k 0) i)
 else if jnT s.1 ((iC ow (l.getD 0 0)).getD 0) ((iC ow (l.getD k 0)).getD 0)=true then some (RB s.1 ((iC ow (l.getD 0 0)).getD 0) ((iC ow (l.getD k 0)).getD 0),jM s.2 (l.getD k 0) i) else none
def runK (ow:qn)(l:List Int)(i:Int)(s:S4×qn):Nat->Option (S4×qn)
 |0=>some s
 |k+1=>(runK ow l i s k).bind λz=>vX ow l i z k
def vY (ow:qn)(S:List (List Int))(s:S4×qn)(i:Nat):Option (S4×qn):=
 if(S.getD i []).length<2\/(0<i/\(S.getD i []).getD 0 0<=(S.getD (i-1) []).getD 0 0) then none else runK ow (S.getD i []) (i:Int) s (S.getD i []).length
def rA (ow:qn)(S:List (List Int))(N:Nat):Nat->Option (S4×qn)
 |0=>some (vW N,[])
 |i+1=>(rA ow S N i).bind λs=>vY ow S s i
def r5 (n:Int)(E:List (Int×Int))(V L:List Int)(T S:List (List Int)):Int:=
 if qD n E V L T≠0 then qD n E V L T
 else match rA (jJ E (iH n E V L) (iA n E V L T).1 (iA n E V L T).1.length) S (iH n E V L).length S.length with
  |none=>7
  |some s=>if 1<s.1.2.2.2 then 7 else 0
structure VX (ow:qn)(N:Nat):Prop where
 v:∀x c,iC ow x=some c->0<=c/\c<(N:Int)
 len:ow.length<=100000
structure FD (ow:qn)(N:Nat)(s:S4×qn):Prop where
 ok:Ef s.1
 len:s.1.2.1.length=N
 all:∀x,0<=x->x<(N:Int)->(iC s.1.1 x).isSome=true
 kn:KN s.2
 sub:∀x,(iC s.2 x).isSome=true->(iC ow x).isSome=true
section
variable {ow:qn}{N:Nat}{s:S4×qn}{l:List Int}{S:List (List Int)}
theorem FD.start:FD ow N (vW N,[]):=by
 obtain⟨h1,h2,h3,_⟩:=IQ N;exact⟨h1,h2,λx h h'=>(h3 x).2 ⟨h,h'⟩,ID,λx h=>by cases h⟩
theorem FD.Fx (h:FD ow N s)(ho:VX ow N):s.2.length<=100000:=by
 have:=h.kn.length_le_of_subset (l₂:=ow.map (·.1)) λx hx=>mem_keys.2 (h.sub x (mem_keys.1 hx));rw[aV,aV] at this;exact aU this ho.len
theorem Pk {M:qn}{L:List Int}{x:Int}(h:(iC M x).isSome=true):kA M L x=L:=ak h
theorem IU {M:qn}{L:List Int}{x:Int}(h:(iC M x).isSome=true):jX M L x=M:=ak h
theorem FD.jn (h:FD ow N s){x y:Int}(x0:0<=x)(x1:x<(N:Int))(y0:0<=y)(y1:y<(N:Int)):Ef (RB s.1 x y)/\(RB s.1 x y).2.1.length=N/\(RB s.1 x y).1=s.1.1:=by
 have hx:=h.all x x0 x1;have hy:=h.all y y0 y1;have e1:(RB s.1 x y).1=s.1.1:=by
  show jX (jX s.1.1 s.1.2.1 x) (kA s.1.1 s.1.2.1 x) y=_;rw[IU hx,IU hy]
 have e2:(RB s.1 x y).2.1=s.1.2.1:=by
  show kA (jX s.1.1 s.1.2.1 x) (kA s.1.1 s.1.2.1 x) y=_;rw[IU hx,Pk hx,Pk hy]
 exact⟨(h.ok.jn x y).1,by rw[e2];exact h.len,e1⟩
theorem FD.met (h:FD ow N s){x i:Int}(hx:(iC ow x).isSome=true):FD ow N (s.1,jM s.2 x i):=
 ⟨h.ok,h.len,h.all,Lc h.kn _ _,λz hz=>by
  have hz:(iC (jM s.2 x i) z).isSome=true:=hz;rw[jI] at hz;split at hz
  .rename_i e;rw[<-e];exact hx
  exact h.sub z hz⟩
theorem CV (ho:VX ow N){i:Int}{k:Nat}(hl:0<k->(iC ow (l.getD 0 0)).isSome=true){z:S4×qn}(h:FD ow N s)(e:vX ow l i s k=some z):FD ow N z:=by
 unfold vX at e;split at e
 .cases e
 rename_i q;have hx:(iC ow (l.getD k 0)).isSome=true:=by
  cases hq:(iC ow (l.getD k 0)).isSome with
  |true=>rfl
  |false=>exact(q (.inl hq)).elim
 split at e
 .cases e;exact h.met hx
 rename_i hk0;split at e
 .cases e;obtain⟨c0,hc0⟩:=bD.1 (hl (by omega));obtain⟨c1,Fp⟩:=bD.1 hx;have b0:=ho.v _ _ hc0;have b1:=ho.v _ _ Fp;have hj:=h.jn b0.1 b0.2 b1.1 b1.2;rw[hc0,Fp];have h':FD ow N (RB s.1 c0 c1,s.2):=⟨hj.1,hj.2.1,λx h0 h1=>by show(iC (RB s.1 c0 c1).1 x).isSome=true;rw[hj.2.2];exact h.all x h0 h1,h.kn,h.sub⟩;exact h'.met hx
 cases e
theorem u7 {i:Int}{k:Nat}(h:runK ow l i s k=none):∀ {m:Nat},k<=m->runK ow l i s m=none
 |0,hm=>by rw[show k=0 by omega] at h;exact h
 |m+1,hm=>by
  by_cases q:k=m+1
  .rw[<-q];exact h
  show(runK ow l i s m).bind _=none;rw[u7 h (m:=m) (by omega)];rfl
theorem GX {k:Nat}(h:rA ow S N k=none):∀ {m:Nat},k<=m->rA ow S N m=none
 |0,hm=>by rw[show k=0 by omega] at h;exact h
 |m+1,hm=>by
  by_cases q:k=m+1
  .rw[<-q];exact h
  show(rA ow S N m).bind _=none;rw[GX h (m:=m) (by omega)];rfl
theorem y8 {i:Int}:∀ {k:Nat} {z:S4×qn},0<k->runK ow l i s k=some z->(iC ow (l.getD 0 0)).isSome=true
 |1,z,_,h=>by
  have h:(some s).bind (λz=>vX ow l i z 0)=some z:=h;have h:vX ow l i s 0=some z:=h;unfold vX at h;split at h
  .cases h
  rename_i q;cases hq:(iC ow (l.getD 0 0)).isSome with
  |true=>rfl
  |false=>exact(q (.inl hq)).elim
 |k+2,z,_,h=>by
  have h:(runK ow l i s (k+1)).bind (λz=>vX ow l i z (k+1))=some z:=h;cases hq:runK ow l i s (k+1) with
  |none=>rw[hq] at h;cases h
  |some y=>exact y8 (k:=k+1) (by omega) hq
theorem yl {i:Int}{k:Int}{z:S4×qn}(h0:0<=k)(h:runK ow l i s k.toNat=some z):runK ow l i s (k+1).toNat=vX ow l i z k.toNat:=by
 rw[show(k+1).toNat=k.toNat+1 by omega];show(runK ow l i s k.toNat).bind _=_;rw[h];rfl
theorem Br {i:Int}{z:S4×qn}(h0:0<=i)(h:rA ow S N i.toNat=some z):rA ow S N (i+1).toNat=vY ow S z i.toNat:=by
 rw[show(i+1).toNat=i.toNat+1 by omega];show(rA ow S N i.toNat).bind _=_;rw[h];rfl
theorem u9 {i:Int}{z:S4×qn}(h0:0<=i)(hi:i<(S.length:Int))(h:rA ow S N i.toNat=some z)(hb:vY ow S z i.toNat=none):rA ow S N S.length=none:=
 GX (k:=(i+1).toNat) (by rw[Br h0 h];exact hb) (by omega)
theorem GY {i:Int}{z:S4×qn}(h0:0<=i)(h:((S.getD i.toNat []).length:Int)<2\/(0<i/\(S.getD i.toNat []).getD 0 0<=(S.getD (i-1).toNat []).getD 0 0)):vY ow S z i.toNat=none:=by
 unfold vY;rw[ak];rcases h with h|⟨h1,h2⟩
 .exact .inl (by omega)
 exact .inr ⟨by omega,by rw[show i.toNat-1=(i-1).toNat by omega];exact h2⟩
theorem ym {i:Int}{z:S4×qn}(h0:0<=i)(h:¬(((S.getD i.toNat []).length:Int)<2)/\(¬(0<i)\/¬((S.getD i.toNat []).getD 0 0<=(S.getD (i-1).toNat []).getD 0 0))):vY ow S z i.toNat=runK ow (S.getD i.toNat []) i z (S.getD i.toNat []).length:=by
 unfold vY;rw[ah,cA h0];rintro(q|⟨q1,q2⟩)
 .exact h.1 (by omega)
 rw[show i.toNat-1=(i-1).toNat by omega] at q2;exact h.2.elim (λz=>z (by omega)) λz=>z q2
theorem Lv {i k:Int}{z:S4×qn}(h0:0<=k)(h:((iC ow (l.getD k.toNat 0)).isSome=false\/(iC z.2 (l.getD k.toNat 0)).isSome=true)\/(0<k/\l.getD k.toNat 0<=l.getD (k-1).toNat 0)):vX ow l i z k.toNat=none:=by
 unfold vX;rw[ak];rcases h with(h|h)|⟨h1,h2⟩
 .exact .inl h
 .exact .inr (.inl h)
 exact .inr (.inr ⟨by omega,by rw[show k.toNat-1=(k-1).toNat by omega];exact h2⟩)
theorem GZ {i k:Int}{z:S4×qn}(h0:0<=k)(h:((iC ow (l.getD k.toNat 0)).isSome=true/\(iC z.2 (l.getD k.toNat 0)).isSome=false)/\(¬(0<k)\/¬(l.getD k.toNat 0<=l.getD (k-1).toNat 0))):
  vX ow l i z k.toNat=if k=0 then some (z.1,jM z.2 (l.getD k.toNat 0) i) else if jnT z.1 ((iC ow (l.getD 0 0)).getD 0) ((iC ow (l.getD k.toNat 0)).getD 0)=true then some (RB z.1 ((iC ow (l.getD 0 0)).getD 0) ((iC ow (l.getD k.toNat 0)).getD 0),jM z.2 (l.getD k.toNat 0) i) else none:=by
 unfold vX;rw[ah]
 .by_cases q:k=0
  .rw[ak (by omega),ak q]
  rw[ah (by omega),ah q]
 rintro(q|q|⟨q1,q2⟩)
 .rw[h.1.1] at q;cases q
 .rw[h.1.2] at q;cases q
 rw[show k.toNat-1=(k-1).toNat by omega] at q2;exact h.2.elim (λz=>z (by omega)) λz=>z q2
end
theorem VY {n:Int}{E:List (Int×Int)}{V L:List Int}{P:vt}{W:List (Int×List Int)}(hp:jr n E V L=0)(hP:Lq E V L P)(hW:Lt E V L W):∀ {k:Nat},k<=W.length->∀x c,iC (jJ E P W k) x=some c->0<=c/\c<(P.length:Int)
 |0,_,x,c,h=>by cases h
 |k+1,hk,x,c,h=>by
  have h:iC (jM (jJ E P W k) (W.getD k (0,[])).1 ((iC (CR P P.length) (qA E (W.getD k (0,[])))).getD 0)) x=some c:=h;rw[jI] at h;split at h
  .have hm:W.getD k (0,[])∈W:=iV.2 ⟨k,by omega,rfl⟩;obtain⟨i,hi,_,e⟩:=VU hP (IJ hp hW hm);rw[e] at h;have h:(i:Int)=c:=by injection h
   omega
  exact VY hp hP hW (k:=k) (by omega) x c h
theorem VX.at_ {ow:qn}{N:Nat}(h:VX ow N){x:Int}(hx:(iC ow x).isSome=true):0<=(iC ow x).getD 0/\(iC ow x).getD 0<(N:Int):=by
 obtain⟨c,hc⟩:=bD.1 hx;rw[hc];exact h.v _ _ hc
theorem Ap {ow:qn}{S:List (List Int)}{N:Nat}:∀ {i:Nat} {z:S4×qn},rA ow S N i=some z->∀j,j<i->2<=(S.getD j []).length
 |0,z,_,j,hj=>by omega
 |i+1,z,h,j,hj=>by
  have h:(rA ow S N i).bind (λs=>vY ow S s i)=some z:=h;cases hq:rA ow S N i with
  |none=>rw[hq] at h;cases h
  |some y=>
   by_cases e:j=i
   .subst e;rw[hq] at h;have h:vY ow S y j=some z:=h;unfold vY at h;split at h
    .cases h
    rename_i q;exact akR λz=>q (.inl z)
   exact Ap hq j (by omega)
theorem VZ {n:Int}{E:List (Int×Int)}{V L:List Int}(hp:jr n E V L=0){W:List (Int×List Int)}(h:Lt E V L W){w:Int×List Int}(hw:w∈W):(w.2.length=0/\-1<=-1-w.1/\-1-w.1<=1000000)\/(w.2.length≠0/\0<=w.1/\w.1/2<(E.length:Int)/\w.1<=1000000):=by
 obtain⟨hr,hV,hL,qj⟩:=jH hp;obtain⟨r1,r2,r3,r4⟩:=kF hr;rcases h.key w hw with⟨q,z⟩|⟨q,z⟩
 .have:=(iK.1 hV).2 _ z;exact .inl ⟨q,by omega,by omega⟩
 have:=u6 hp z;exact .inr ⟨q,by omega,by omega,by omega⟩
theorem rB {n:Int}{E:List (Int×Int)}{V L:List Int}{T:List (List Int)}(h:qD n E V L T=0):(iA n E V L T).2=0:=by
 rw[sH,<-IM (V:=V)];unfold qD at h;split at h
 .exact h
 rename_i q;exact eu.1 q
section
variable {n:Int}{E:List (Int×Int)}{V L:List Int}{T S:List (List Int)}
theorem Eo (h:qD n E V L T≠0):r5 n E V L T S=qD n E V L T:=ak h
theorem pY (h:qD n E V L T=0)(hb:rA (jJ E (iH n E V L) (iA n E V L T).1 (iA n E V L T).1.length) S (iH n E V L).length S.length=none):r5 n E V L T S=7:=by
 unfold r5;rw[ah (λq=>q h),hb]
theorem y9 {s:S4×qn}(h:qD n E V L T=0)(hb:rA (jJ E (iH n E V L) (iA n E V L T).1 (iA n E V L T).1.length) S (iH n E V L).length S.length=some s):r5 n E V L T S=if 1<s.1.2.2.2 then 7 else 0:=by
 unfold r5;rw[ah (λq=>q h),hb]
end
def vb (n:Int)(E:List (Int×Int))(V L:List Int)(T S:List (List Int)):Int:=if jr n E V L≠0 then jr n E V L else r5 n E V L T S
abbrev kO:lG:=eH
def yA (E:List lG):List (Int×Int):=E.map λl=>(l.2.1,l.2.2.1)
abbrev acG:Type:=(Int×List (Int×Int))×((List Int×List Int)×(List (List Int)×List (List Int)))
abbrev Pm:acG:=((0,[]),(([],[]),([],[])))
def Ep (E:List lG):Prop:=∀j:Nat,(j:Int)<(E.length:Int)->(E.getD j kO).2.2.2=0
noncomputable def jQ (K:Int) (W:List ByteArray) (E:List lG) (V L:List Int) (T S:List (List Int)):acG×Int:=
 open Classical in if K=0 then if Ep E then((((W.length:Int),yA E),((V,L),(T,S))),0) else(Pm,1) else(Pm,16)
theorem qE {α:Type}{E:List α}{d:α}{i:Int}(h0:0<=i)(h1:i<(E.length:Int)):E.take (i+1).toNat=E.take i.toNat++[E.getD i.toNat d]:=by
 rw[show(i+1).toNat=i.toNat+1 by omega,amu,aH,aR (show i.toNat<E.length by omega)];rfl
theorem Lw {E:List lG}{i:Int}(h0:0<=i)(h1:i<(E.length:Int)):yA (E.take (i+1).toNat)=yA (E.take i.toNat)++[((E.getD i.toNat kO).2.1,(E.getD i.toNat kO).2.2.1)]:=by
 rw[qE (d:=kO) h0 h1];unfold yA;rw[bX];rfl
abbrev Aq:Type:=List (Int×Int)×(List (Int×Int)×List Int)
def mV (z:Aq)(l:lG):Aq:=
 if l.2.2.2=0 then(z.1++[(l.2.1,l.2.2.1)],(z.2.1++[(l.2.1,l.2.2.1)],z.2.2++[(z.2.1.length:Int)]))
 else if l.2.2.2=1 then(z.1++[(l.2.1,l.2.2.1)],(z.2.1,z.2.2++[-1])) else(z.1,(z.2.1++[(l.2.1,l.2.2.1)],z.2.2))
def Ar (E:List lG):Aq:=E.foldl mV ([],([],[]))
theorem lW {E:List lG}{i:Int}(h0:0<=i)(h1:i<(E.length:Int)):Ar (E.take (i+1).toNat)=mV (Ar (E.take i.toNat)) (E.getD i.toNat kO):=by
 rw[qE (d:=kO) h0 h1];unfold Ar;rw[dm];rfl
theorem Pn (E:List lG):(Ar E).1.length<=E.length/\(Ar E).2.1.length<=E.length/\(Ar E).2.2.length<=E.length:=by
 have key:∀(E:List lG) (z:Aq),(E.foldl mV z).1.length<=z.1.length+E.length/\(E.foldl mV z).2.1.length<=z.2.1.length+E.length/\(E.foldl mV z).2.2.length<=z.2.2.length+E.length:=by
  intro E
  induction E with
  |nil=>intro z;simp
  |cons l E ih=>
   intro z;obtain⟨a,b,c⟩:=ih (mV z l);have:(mV z l).1.length<=z.1.length+1/\(mV z l).2.1.length<=z.2.1.length+1/\(mV z l).2.2.length<=z.2.2.length+1:=by
    unfold mV;split
    .simp
    split<;>simp
   simp only[dG,bA];omega
 have:=key E ([],([],[]));simpa[Ar] using this
def V0 (x:Int):Prop:=0<=x/\x<=2
def V1 (E:List lG):Prop:=∀j:Nat,(j:Int)<(E.length:Int)->V0 (E.getD j kO).2.2.2
abbrev acH:Type:=(Int×List (Int×Int))×((Int×List (Int×Int))×List Int)
abbrev G0:acH:=((0,[]),((0,[]),[]))
noncomputable def jN (K:Int) (W:List ByteArray) (E:List lG) (V L:List Int) (T S:List (List Int)):acH×Int:=
 open Classical in if K=1 then if(V.length:Int)+L.length+T.length+S.length>0 then(G0,1) else
  if V1 E then((((W.length:Int),(Ar E).1),(((W.length:Int),(Ar E).2.1),(Ar E).2.2)),0) else(G0,1) else(G0,16)
theorem Er {K:Int}{W:List ByteArray}{E:List lG}{V L:List Int}{T S:List (List Int)}(h:¬K=0):jQ K W E V L T S=(Pm,16):=by unfold jQ;rw[ah h]
theorem Lx {K:Int}{W:List ByteArray}{E:List lG}{V L:List Int}{T S:List (List Int)}{i:Int}(h:K=0)(h0:0<=i)(h1:i<(E.length:Int))(h2:¬(E.getD i.toNat kO).2.2.2=0):jQ K W E V L T S=(Pm,1):=by
 unfold jQ;rw[ak h,ah (λz=>h2 (z i.toNat (by omega)))]
theorem Lz {K:Int}{W:List ByteArray}{E:List lG}{V L:List Int}{T S:List (List Int)}{i:Int}(h:K=0)(h1:¬i<(E.length:Int))(h2:∀j:Nat,(j:Int)<i->(E.getD j kO).2.2.2=0):jQ K W E V L T S=((((W.length:Int),yA E),((V,L),(T,S))),0):=by
 unfold jQ;rw[ak h,ak (show Ep E from λj hj=>h2 j (by omega))]
theorem tH {α:Type}{E:List α}{i:Int}(h:¬i<(E.length:Int)):E.take i.toNat=E:=cM (by omega)
def FE (l:List (List Int))(k:Nat):List (List Int):=l.take k++cO (l.length-k) []
theorem adW (l:List (List Int)):cO ((l.length:Int)).toNat []=FE l ((0:Int)).toNat:=by simp[FE]
theorem V3 {l:List (List Int)}{i:Int}(h0:0<=i)(h:i<=(l.length:Int)):(FE l i.toNat).length=l.length:=by simp[FE];omega
theorem V4 {l:List (List Int)}{i:Int}(h0:0<=i)(h:i<(l.length:Int)):(FE l i.toNat).set i.toNat (l.getD i.toNat [])=FE l (i+1).toNat:=by
 have hi:i.toNat<l.length:=by omega
 unfold FE;rw[qE (d:=[]) h0 h,aoC,ah (by rw[aX];omega),aX,Nat.min_eq_left (by omega),cZ,show l.length-i.toNat=(l.length-(i+1).toNat)+1 by omega,List.replicate_succ,List.set_cons_zero];simp
theorem V5 {l:List (List Int)}{i:Int}(h:¬i<(l.length:Int)):FE l i.toNat=l:=by
 unfold FE;rw[cM (by omega),show l.length-i.toNat=0 by omega];simp
theorem yo {z:Aq}{l:lG}(h:l.2.2.2=0):mV z l=(z.1++[(l.2.1,l.2.2.1)],(z.2.1++[(l.2.1,l.2.2.1)],z.2.2++[(z.2.1.length:Int)])):=ak h
theorem yp {z:Aq}{l:lG}(h:l.2.2.2=1):mV z l=(z.1++[(l.2.1,l.2.2.1)],(z.2.1,z.2.2++[-1])):=by unfold mV;rw[ah (by omega),ak h]
theorem yq {z:Aq}{l:lG}(h0:¬l.2.2.2=0)(h1:¬l.2.2.2=1):mV z l=(z.1,(z.2.1++[(l.2.1,l.2.2.1)],z.2.2)):=by unfold mV;rw[ah h0,ah h1]
theorem LA (E:List lG)(i:Int):(Ar (E.take i.toNat)).1.length<=E.length/\(Ar (E.take i.toNat)).2.1.length<=E.length/\(Ar (E.take i.toNat)).2.2.length<=E.length:=by
 have h:=Pn (E.take i.toNat);have:(E.take i.toNat).length<=E.length:=by rw[aX];omega
 omega
theorem V6 (l:List Int)(x b:Int):(l++[x]).set (((l++[x]).length:Int)-1).toNat b=l++[b]:=by
 rw[show(((l++[x]).length:Int)-1).toNat=l.length by simp,aoC,ah (by omega),cZ];rfl
section
variable {K:Int}{W:List ByteArray}{E:List lG}{V L:List Int}{T S:List (List Int)}{i:Int}
theorem Es (h:¬K=1):jN K W E V L T S=(G0,16):=by unfold jN;rw[ah h]
theorem Et (h:K=1)(h1:0<(V.length:Int)+(L.length:Int)+(T.length:Int)+(S.length:Int)):jN K W E V L T S=(G0,1):=by unfold jN;rw[ak h,ak h1]
theorem LB (h:K=1)(h0:0<=i)(h1:i<(E.length:Int))(h2:¬V0 (E.getD i.toNat kO).2.2.2):jN K W E V L T S=(G0,1):=by
 unfold jN;rw[ak h];split
 .rfl
 rw[ah (λz=>h2 (z i.toNat (by omega)))]
theorem LC (h:K=1)(h1:¬0<(V.length:Int)+(L.length:Int)+(T.length:Int)+(S.length:Int))(h2:¬i<(E.length:Int))(h3:∀j:Nat,(j:Int)<i->V0 (E.getD j kO).2.2.2):jN K W E V L T S=((((W.length:Int),(Ar E).1),(((W.length:Int),(Ar E).2.1),(Ar E).2.2)),0):=by
 unfold jN;rw[ak h,ah h1,ak (show V1 E from λj hj=>h3 j (by omega))]
end
theorem RM {s:ByteArray}(h:s.size<=1000000:=by omega):lY .str s:=aU (show ByteArray.size s<=1000000 from h) (by decide)
def YP (n:Int)(E:List (Int×Int))(V L:List Int):Int:=if(E.length:Int)>60\/(V.length:Int)>60\/(L.length:Int)>60\/(n>60/\n<=1024) then 0 else 1
def Cg (T:List (List Int))(N:Nat):Bool:=decide (∃j,j<T.length/\N<(T.getD j []).length)
def RN (n:Int)(E:List (Int×Int))(V L:List Int)(T:List (List Int)):Int:=if YP n E V L=0\/(T.length:Int)>100\/Cg T 200=true then 0 else 1
def LD (n:Int)(E:List (Int×Int))(V L:List Int)(T S:List (List Int)):Int:=if RN n E V L T=0\/(S.length:Int)>60\/Cg S 60=true then 0 else 1
theorem LF {T:List (List Int)}{N:Nat}{i:Int}(h0:0<=i)(h1:i<(T.length:Int))(h:(N:Int)<((T.getD i.toNat []).length:Int)):Cg T N=true:=bN ⟨i.toNat,by omega,by omega⟩
theorem Po {T:List (List Int)}{N:Nat}{i:Int}(h1:(T.length:Int)<=i)(h:∀j:Nat,(j:Int)<i->¬(N:Int)<((T.getD j []).length:Int)):Cg T N=false:=bG λ⟨j,hj,q⟩=>h j (by omega) (by omega)
theorem LG {T:List (List Int)}{N:Nat}(h:Cg T N=false):∀l∈T,l.length<=N:=λl hl=>by
 obtain⟨j,hj,e⟩:=iV (z:=([]:List Int)).1 hl;refine akR λq=>?_;have:Cg T N=true:=bN ⟨j,hj,by rw[e];exact q⟩;rw[h] at this;cases this
theorem adX {n:Int}{E:List (Int×Int)}{V L:List Int}{T S:List (List Int)}(h:LD n E V L T S=1):jo T/\jo S:=by
 unfold LD at h;split at h
 .cases h
 rename_i q;have h6:¬RN n E V L T=0:=λz=>q (.inl z);unfold RN at h6;split at h6
 .exact absurd rfl h6
 rename_i w;have l1:=LG (T:=T) (N:=200) (by cases hq:Cg T 200;rfl;exact absurd (.inr (.inr hq)) w);have l2:=LG (T:=S) (N:=60) (by cases hq:Cg S 60;rfl;exact absurd (.inr (.inr hq)) q);have w1:¬(T.length:Int)>100:=λz=>w (.inr (.inl z));have w2:¬(S.length:Int)>60:=λz=>q (.inr (.inl z));exact⟨⟨by omega,λl hl=>aU (l1 l hl) (by decide)⟩,by omega,λl hl=>aU (l2 l hl) (by decide)⟩
def LH (W:List ByteArray)(N:Nat):Bool:=decide (∃j,j<W.length/\N<(W.getD j ⟨#[]⟩).size)
def LI (E:List lG)(N:Nat):Bool:=decide (∃j,j<E.length/\N<(E.getD j kO).1.size)
def Bt (W:List ByteArray)(E:List lG)(V L:List Int)(T S:List (List Int)):Int:=
 if((40:Int)<(W.length:Int)\/(40:Int)<(E.length:Int))\/LD 0 [] V L T S=0 then 0 else if LH W 200=true then 0 else if LI E 200=true then 0 else 1
section
variable {W:List ByteArray}{E:List lG}{V L:List Int}{T S:List (List Int)}{N:Nat}{i:Int}
theorem RO (h0:0<=i)(h1:i<(W.length:Int))(h:(N:Int)<((W.getD i.toNat ⟨#[]⟩).size:Int)):LH W N=true:=bN ⟨i.toNat,by omega,by omega⟩
theorem V7 (h1:¬i<(W.length:Int))(h:∀j:Nat,(j:Int)<i->¬(N:Int)<((W.getD j ⟨#[]⟩).size:Int)):LH W N=false:=bG λ⟨j,hj,q⟩=>h j (by omega) (by omega)
theorem RP (h0:0<=i)(h1:i<(E.length:Int))(h:(N:Int)<((E.getD i.toNat kO).1.size:Int)):LI E N=true:=bN ⟨i.toNat,by omega,by omega⟩
theorem V8 (h1:¬i<(E.length:Int))(h:∀j:Nat,(j:Int)<i->¬(N:Int)<((E.getD j kO).1.size:Int)):LI E N=false:=bG λ⟨j,hj,q⟩=>h j (by omega) (by omega)
theorem aai (h:¬Bt W E V L T S=0):W.length<=40/\E.length<=40/\V.length<=60/\L.length<=60/\jo T/\jo S/\LH W 200=false/\LI E 200=false:=by
 unfold Bt at h;split at h
 .exact absurd rfl h
 rename_i q;split at h
 .exact absurd rfl h
 rename_i q2;split at h
 .exact absurd rfl h
 rename_i q3;have h8:LD 0 [] V L T S=1:=by
  have:¬LD 0 [] V L T S=0:=λz=>q (.inr z);unfold LD at this ⊢;split at this
  .exact absurd rfl this
  rename_i z;rw[ah z]
 obtain⟨z1,z2⟩:=adX h8;have h4:¬YP 0 [] V L=0:=λz=>by
  unfold LD at h8;rw[ak (.inl (by unfold RN;rw[ak (.inl z)]))] at h8;cases h8
 unfold YP at h4;split at h4
 .exact absurd rfl h4
 rename_i z;refine⟨?_,?_,?_,?_,z1,z2,by simpa using q2,by simpa using q3⟩
 .by_cases y:W.length<=40
  .exact y
  exact absurd (.inl (.inl (by omega))) q
 .by_cases y:E.length<=40
  .exact y
  exact absurd (.inl (.inr (by omega))) q
 .by_cases y:V.length<=60
  .exact y
  exact absurd (.inr (.inl (by omega))) z
 by_cases y:L.length<=60
 .exact y
 exact absurd (.inr (.inr (.inl (by omega)))) z
end
theorem aaj {l m:List (List Int)}{i:Int}(h0:0<=i)(h:¬l.getD i.toNat []=m.getD i.toNat []):decide (l=m)=false:=bG λe=>h (by rw[e])
theorem V9 {l m:List (List Int)}{i:Int}(h:l.length=m.length)(h1:¬i<(l.length:Int))(h2:∀j:Nat,(j:Int)<i->l.getD j []=m.getD j []):decide (l=m)=true:=by
 refine bN (dZ h λj q1 q2=>?_);have:=h2 j (by omega);rwa[aH,aH,aR q1,aR q2] at this
def agH (l:List Int)(x:Int):Int:=if l.findIdx (λy=>decide (y=x))<l.length then((l.findIdx λy=>decide (y=x):Nat):Int) else -1
section
variable {l:List Int}{x:Int}
theorem getD_eq {α:Type}{l:List α}{j:Nat}(h:j<l.length)(d:α):l.getD j d=l[j]:=by rw[aH,aR h];rfl
theorem adY {j:Nat}(hj:j<l.length)(e:l.getD j 0=x):∃i:Nat,agH l x=(i:Int)/\i<=j/\l.getD i 0=x:=by
 have hx:x∈l:=e▸(by rw[getD_eq hj];exact cU hj);have pg:l.findIdx (λy=>decide (y=x))<l.length:=List.findIdx_lt_length_of_exists ⟨x,hx,by simp⟩;refine⟨l.findIdx λy=>decide (y=x),ak pg,?_,?_⟩
 .refine akR λq=>?_;have:=List.not_of_lt_findIdx q;rw[getD_eq hj] at e;simp[e] at this
 rw[getD_eq pg];have:=List.findIdx_getElem (w:=pg);simpa using this
def Cv (l:List Int)(a:Int):Nat->List Int
 |0=>[]
 |k+1=>Cv l a k++[l.getD ((a+(k:Int))%(l.length:Int)).toNat 0]
theorem RQ {a i:Int}(h:0<=i):Cv l a (i+1).toNat=Cv l a i.toNat++[l.getD ((a+i)%(l.length:Int)).toNat 0]:=by
 rw[show(i+1).toNat=i.toNat+1 by omega];show _++[l.getD ((a+((i.toNat:Nat):Int))%_).toNat 0]=_;rw[cA h]
theorem tI (a:Int):∀k,(Cv l a k).length=k
 |0=>rfl
 |k+1=>by
  show(Cv l a k++_).length=_;rw[aO,tI a k];rfl
theorem LJ (a:Int):∀ {k j:Nat},j<k->(Cv l a k).getD j 0=l.getD ((a+(j:Int))%(l.length:Int)).toNat 0
 |k+1,j,h=>by
  show(Cv l a k++_).getD j 0=_;rw[aH]
  by_cases q:j<k
  .rw[cX (by rw[tI];exact q),<-aH];exact LJ a q
  have:j=k:=by omega
  subst this;rw[cY (by rw[tI];exact ay _),tI,cZ];rfl
end
def acI (a b:List Int):Prop:=a.length=b.length/\(a.length=0\/∃i,i<b.length/\a=Cv b (i:Int) b.length)
instance (a b:List Int):Decidable (acI a b):=by unfold acI;infer_instance
def vZ (r:Int):Prop:=(97<=r/\r<=122)\/(65<=r/\r<=90)\/(192<=r/\r<=591/\r≠215/\r≠247)\/(913<=r/\r<=969/\r≠930)\/(1040<=r/\r<=1103)
instance (r:Int):Decidable (vZ r):=by unfold vZ;infer_instance
def IV (r:Int):Bool:=decide (vZ r)
theorem tJ {r:Int}:IV r=true↔vZ r:=by unfold IV;exact decide_eq_true_iff
theorem G2 {r:Int}:IV r=false↔¬vZ r:=by unfold IV;exact decide_eq_false_iff_not
def cls (r:Int):Int:=if vZ r then 1 else if 48<=r/\r<=57 then 2 else if r=95\/(8242<=r/\r<=8244) then 3 else if r=32 then 4 else 0
def wF (r:Int):Bool:=decide (r=10\/(43<=r/\r<=47)\/r=58\/r=124)
theorem um {x y:Bool}{w w':aa}(h:x=y)(hb:Below w.heap.size w w'):SU (.bool y) w (.returned (.bool x)) w':=⟨by rw[h],hb⟩
theorem G3 {k:IntKind}{x y:Int}{w w':aa}(h:x=y)(hb:Below w.heap.size w w'):SU (.int k y) w (.returned (.int k x)) w':=⟨by rw[h],hb⟩
def xJ (s:ByteArray):Nat->Nat->List (Nat×Int)
 |0,_=>[]
 |f+1,pos=>if pos<s.size then(pos,((aJ s pos).1:Int))::xJ s f (pos+(aJ s pos).2) else[]
def jY (s:ByteArray)(pos:Nat):List (Nat×Int):=xJ s (s.size-pos) pos
theorem tK (s:ByteArray)(f pos:Nat)(h:¬pos<s.size):xJ s f pos=[]:=by cases f<;>simp[xJ,h]
theorem Ch (s:ByteArray):∀(f g pos:Nat),s.size<=pos+f->s.size<=pos+g->xJ s f pos=xJ s g pos
 |0,g,pos,h1,h2=>by rw[tK s g pos (by omega)];rfl
 |f+1,0,pos,h1,h2=>by rw[tK s (f+1) pos (by omega)];rfl
 |f+1,g+1,pos,h1,h2=>by
  by_cases hp:pos<s.size
  .simp only[xJ,ak hp];have hw:=nX s pos hp;rw[Ch s f g _ (by omega) (by omega)]
  rw[tK s _ pos hp,tK s _ pos hp]
theorem ja (s:ByteArray)(pos:Nat)(h:pos<s.size):jY s pos=(pos,((aJ s pos).1:Int))::jY s (pos+(aJ s pos).2):=by
 unfold jY;obtain⟨f,hf⟩:∃f,s.size-pos=f+1:=⟨s.size-pos-1,by omega⟩;rw[hf];simp only[xJ,ak h];have hw:=nX s pos h;rw[Ch s f (s.size-(pos+(aJ s pos).2)) _ (by omega) (by omega)]
theorem j9 (s:ByteArray)(pos:Nat)(h:¬pos<s.size):jY s pos=[]:=tK s _ pos h
def lz:List (Nat×Int)->Int->Int->Bool
 |[],n,_=>decide (0<n)
 |(_,r)::l,n,k=>
  if cls r=1 then(if 0<k then false else if 16<n+1 then false else if 3<k then false else lz l (n+1) k)
  else if cls r=2 then(if n+1=1 then false else if 0<k then false else if 16<n+1 then false else if 3<k then false else lz l (n+1) k)
  else if cls r=3 then(if n+1=1 then false else if 16<n+1 then false else if 3<k+1 then false else lz l (n+1) (k+1))
  else false
def kg (s:ByteArray):Bool:=lz (jY s 0) 0 0
def Eu:List (Nat×Int)->Int×Bool
 |[]=>(0,false)
 |(p,r)::l=>if cls r=0/\wF r=false then((p:Int),true) else Eu l
def IW (s:ByteArray):Int×Bool:=Eu (jY s 0)
def su (s:ByteArray):List (Nat×Int)->Int->List (Int×ByteArray)->List (Int×ByteArray)
 |[],b,l=>if 0<=b then l++[(b,s.extract b.toNat s.size)] else l
 |(p,r)::t,b,l=>
  if cls r=4 then(if 0<=b then su s t (-1) (l++[(b,s.extract b.toNat ((p:Int)).toNat)]) else su s t b l)
  else(if b<0 then su s t (p:Int) l else su s t b l)
def mX (s:ByteArray):List (Int×ByteArray):=su s (jY s 0) (-1) []
theorem NO (s:ByteArray)(i:Int):0<=nL s i/\nL s i<=255:=by
 unfold nL;have:=(s.data.getD i.toNat 0).toNat_lt;omega
theorem Wa {k:IntKind}{x y:Int}{b c:Bool}{w w':aa}(h:x=y/\b=c)(hb:Below w.heap.size w w'):SU (.tuple #[.int k y,.bool c]) w (.returned (.tuple #[.int k x,.bool b])) w':=⟨by rw[h.1,h.2],hb⟩
abbrev b0:ByteArray:=⟨#[]⟩
section
variable {l:List ByteArray}{x:ByteArray}
end
abbrev mh:Type:=List (ByteArray×Int)
def oM (m:mh)(x:ByteArray):Option Int:=iB (k:=.str) m x
def v7 (m:mh)(x:ByteArray)(v:Int):mh:=mj (k:=.str) m x v
theorem Bu (m:mh)(y x:ByteArray)(v:Int):oM (v7 m y v) x=if y=x then some v else oM m x:=AW (k:=.str) m y x v
theorem Ev (m:mh)(x:ByteArray)(v:Int):(v7 m x v).length<=m.length+1:=sU (k:=.str) m x v
theorem RR {m:mh}{x:ByteArray}{v:Int}(h:oM m x=none):(v7 m x v).length=m.length+1:=(F4 (k:=.str) h).length_eq
structure LK (vs:List ByteArray)(mt:mh)(i:Int):Prop where
 mem:∀x,(oM mt x).isSome=true↔x∈vs.take i.toNat
 le:(vs.take i.toNat).Nodup->(mt.length:Int)=i
 lt:¬(vs.take i.toNat).Nodup->(mt.length:Int)<i
 val:∀x,0<=(oM mt x).getD 0/\(oM mt x).getD 0<=i
theorem agI (vs:List ByteArray):LK vs [] 0:=⟨λx=>⟨λh=>(by cases h),λh=>(by cases h)⟩,λ_=>rfl,λh=>absurd akK h,λx=>⟨bM _,bM _⟩⟩
theorem tL {α:Type}{l:List α}{x:α}:(l++[x]).Nodup↔l.Nodup/\x∉l:=by
 rw[dF];constructor
 .rintro⟨h1,_,h2⟩;exact⟨h1,λhx=>h2 x hx x (av.2 rfl) rfl⟩
 rintro⟨h1,h2⟩;exact⟨h1,by simp,λa ha b hb e=>by rw[av.1 hb] at e;exact h2 (e▸ha)⟩
theorem RT {mt:mh}{x:ByteArray}{v:Int}(h:(oM mt x).isSome=true):(v7 mt x v).length<=mt.length:=by
 obtain⟨u,hu⟩:=bD.1 h;have hm:(x,u)∈mt:=oK (k:=.str) hu;have h1:(v7 mt x v).length=(ox (k:=.str) mt x).length+1:=by unfold v7 mj;exact Di ..
 rw[h1];have h2:(ox (k:=.str) mt x).length<=mt.length:=J0 (k:=.str) mt x;refine Nat.succ_le_of_lt (Nat.lt_of_le_of_ne h2 λe=>?_);have h3:=List.length_filter_eq_length_iff.1 e _ hm;exact absurd (show x=x from rfl) (bh (Eq.mp (ali _) h3))
theorem aak {vs:List ByteArray}{mt:mh}{i:Int}(h:LK vs mt i)(h0:0<=i)(h1:i<(vs.length:Int)):LK vs (v7 mt (vs.getD i.toNat b0) ((oM mt (vs.getD i.toNat b0)).getD 0+1)) (i+1):=by
 have ht:=qE (d:=b0) h0 h1;generalize hx:vs.getD i.toNat b0=x at*
 have hv:=h.val x;refine⟨λy=>?_,λhn=>?_,λhn=>?_,λy=>?_⟩
 .rw[Bu,ht,aI,av,<-h.mem y]
  by_cases e:x=y
  .rw[ak e];simp[e]
  rw[ah e];exact⟨.inl,λq=>q.resolve_right λz=>e z.symm⟩
 .rw[ht,tL] at hn;have B3:oM mt x=none:=by
   cases hq:oM mt x with
   |none=>rfl
   |some u=>exact absurd ((h.mem x).1 (by rw[hq];rfl)) hn.2
  rw[RR B3];have:=h.le hn.1;omega
 .rw[ht,tL] at hn
  by_cases e:(vs.take i.toNat).Nodup
  .have hm:x∈vs.take i.toNat:=bT λz=>hn ⟨e,z⟩;have:=RT (v:=(oM mt x).getD 0+1) ((h.mem x).2 hm);have:=h.le e;omega
  have:=h.lt e;have:=Ev mt x ((oM mt x).getD 0+1);omega
 rw[Bu];have:=h.val y
 by_cases e:x=y
 .rw[ak e];simp only[dA];omega
 rw[ah e];omega
theorem aal {vs:List ByteArray}{mt:mh}{i:Int}(h:LK vs mt i)(hi:i=(vs.length:Int)):(mt.length:Int)<(vs.length:Int)↔¬vs.Nodup:=by
 have e:vs.take i.toNat=vs:=cM (by omega);constructor
 .intro q hn;have:=h.le (by rw[e];exact hn);omega
 intro hn;have:=h.lt (by rw[e];exact hn);omega
def NP (a b:List (Int×Int))(s:List Int)(i:Nat):Prop:=s.getD i 0= -1\/(0<=s.getD i 0/\s.getD i 0<(b.length:Int)/\a.getD i (0,0)=b.getD (s.getD i 0).toNat (0,0)/\∀k:Nat,k<i->s.getD k 0≠s.getD i 0)
noncomputable def wG (m:Int) (a:List (Int×Int)) (n:Int) (b:List (Int×Int)) (s:List Int):Int:=
 open Classical in if ¬jA m a=0 then jA m a else if ¬jA n b=0 then jA n b else if ¬m=n\/¬(s.length:Int)=(a.length:Int) then 1 else if ∀i:Nat,(i:Int)<(s.length:Int)->NP a b s i then 0 else 4
section
variable {m n i:Int}{a b:List (Int×Int)}{s:List Int}
theorem G4 (h1:jA m a=0)(h2:jA n b=0)(h3:¬(¬m=n\/¬(s.length:Int)=(a.length:Int)))(h0:0<=i)(hi:i<(s.length:Int))(h:¬NP a b s i.toNat):wG m a n b s=4:=by
 unfold wG;rw[ah (λq=>q h1),ah (λq=>q h2),ah h3,ah (λq=>h (q i.toNat (by omega)))]
theorem Wb (h1:jA m a=0)(h2:jA n b=0)(h3:¬(¬m=n\/¬(s.length:Int)=(a.length:Int)))(hi:¬i<(s.length:Int))(h:∀j:Nat,(j:Int)<i->NP a b s j):wG m a n b s=0:=by
 unfold wG;rw[ah (λq=>q h1),ah (λq=>q h2),ah h3,ak (λj hj=>h j (by omega))]
abbrev G5:Type:=List (Int×Unit)
def Ew (s:List Int)(mt:G5)(i:Int):Prop:=∀x,(iC mt x).isSome=true↔x≠-1/\∃k:Nat,(k:Int)<i/\s.getD k 0=x
theorem ai6:Ew s [] 0:=λx=>⟨λh=>(by cases h),λ⟨_,k,hk,_⟩=>by omega⟩
theorem aam {mt:G5}(h0:0<=i)(hi:s.getD i.toNat 0= -1)(h:Ew s mt i):Ew s mt (i+1):=λx=>by
 rw[h x];constructor
 .rintro⟨q,k,h1,h2⟩;exact⟨q,k,by omega,h2⟩
 rintro⟨q,k,h1,h2⟩;refine⟨q,k,?_,h2⟩
 by_cases e:(k:Int)=i
 .exfalso;apply q;rw[<-h2,show k=i.toNat by omega];exact hi
 omega
theorem adZ {mt:G5}(h0:0<=i)(hi:¬s.getD i.toNat 0= -1)(h:Ew s mt i):Ew s (jM mt (s.getD i.toNat 0) ()) (i+1):=λx=>by
 rw[jI]
 by_cases e:s.getD i.toNat 0=x
 .rw[ak e];exact⟨λ_=>⟨e▸hi,i.toNat,by omega,e⟩,λ_=>rfl⟩
 rw[ah e,h x];constructor
 .rintro⟨q,k,h1,h2⟩;exact⟨q,k,by omega,h2⟩
 rintro⟨q,k,h1,h2⟩;refine⟨q,k,?_,h2⟩
 by_cases z:(k:Int)=i
 .exfalso;apply e;rw[show i.toNat=k by omega];exact h2
 omega
theorem ad0 {mt:G5}(h0:0<=i)(hn:¬s.getD i.toNat 0= -1)(h:Ew s mt i)(hs:(iC mt (s.getD i.toNat 0)).isSome=true):¬NP a b s i.toNat:=λq=>by
 obtain⟨_,k,h1,h2⟩:=(h _).1 hs;rcases q with q|⟨_,_,_,q⟩
 .exact hn q
 exact q k (by omega) h2
theorem ad1 (hn:¬s.getD i.toNat 0= -1)(h:(s.getD i.toNat 0<0\/(b.length:Int)<=s.getD i.toNat 0)\/(¬(a.getD i.toNat (0,0)).1=(b.getD (s.getD i.toNat 0).toNat (0,0)).1\/¬(a.getD i.toNat (0,0)).2=(b.getD (s.getD i.toNat 0).toNat (0,0)).2)):¬NP a b s i.toNat:=λq=>by
 rcases q with q|⟨q1,q2,q3,_⟩
 .exact hn q
 rw[q3] at h;rcases h with h|h|h
 .omega
 .exact h rfl
 exact h rfl
theorem agJ (h:(¬s.getD i.toNat 0<0/\¬(b.length:Int)<=s.getD i.toNat 0)/\((a.getD i.toNat (0,0)).1=(b.getD (s.getD i.toNat 0).toNat (0,0)).1/\(a.getD i.toNat (0,0)).2=(b.getD (s.getD i.toNat 0).toNat (0,0)).2))(hk:∀k:Nat,(k:Int)<i->¬s.getD k 0=s.getD i.toNat 0)(h0:0<=i):NP a b s i.toNat:=
 .inr ⟨by omega,by omega,Prod.ext h.2.1 h.2.2,λk hk'=>hk k (by omega)⟩
end
abbrev tM (W:List ByteArray)(E:List lG):List ByteArray:=W++E.map (·.1)
noncomputable def k9 (K:Int) (W:List ByteArray) (E:List lG) (V L:List Int) (T S:List (List Int)):Int:=
 open Classical in if ¬K=0/\¬K=1 then 16 else if ∃j:Nat,j<(tM W E).length/\kg ((tM W E).getD j b0)=false then 11 else if ¬(tM W E).Nodup then 12 else
  if K=1 then(if ¬(jN K W E V L T S).2=0 then(jN K W E V L T S).2 else wG (jN K W E V L T S).1.1.1 (jN K W E V L T S).1.1.2 (jN K W E V L T S).1.2.1.1 (jN K W E V L T S).1.2.1.2 (jN K W E V L T S).1.2.2)
  else if ¬(jQ K W E V L T S).2=0 then(jQ K W E V L T S).2 else vb (jQ K W E V L T S).1.1.1 (jQ K W E V L T S).1.1.2 (jQ K W E V L T S).1.2.1.1 (jQ K W E V L T S).1.2.1.2 (jQ K W E V L T S).1.2.2.1 (jQ K W E V L T S).1.2.2.2
section
variable {K:Int}{W:List ByteArray}{E:List lG}{V L:List Int}{T S:List (List Int)}{i:Int}{vs:List ByteArray}
theorem RU (h:¬K=0/\¬K=1):k9 K W E V L T S=16:=by unfold k9;rw[ak h]
theorem RV (h:¬(¬K=0/\¬K=1))(h0:0<=i)(hi:i<((tM W E).length:Int))(hn:kg ((tM W E).getD i.toNat b0)=false):k9 K W E V L T S=11:=by
 unfold k9;rw[ah h,ak ⟨i.toNat,by omega,hn⟩]
theorem NQ (h:¬(¬K=0/\¬K=1))(hi:¬i<((tM W E).length:Int))(hn:∀j:Nat,(j:Int)<i->kg ((tM W E).getD j b0)=true)(ht:¬(tM W E).Nodup):k9 K W E V L T S=12:=by
 unfold k9;rw[ah h,ah (λ⟨j,h1,h2⟩=>by rw[hn j (by omega)] at h2;cases h2),ak ht]
theorem As (h:¬(¬K=0/\¬K=1))(hi:¬i<((tM W E).length:Int))(hn:∀j:Nat,(j:Int)<i->kg ((tM W E).getD j b0)=true)(ht:(tM W E).Nodup):k9 K W E V L T S=
  if K=1 then(if ¬(jN K W E V L T S).2=0 then(jN K W E V L T S).2 else wG (jN K W E V L T S).1.1.1 (jN K W E V L T S).1.1.2 (jN K W E V L T S).1.2.1.1 (jN K W E V L T S).1.2.1.2 (jN K W E V L T S).1.2.2)
  else if ¬(jQ K W E V L T S).2=0 then(jQ K W E V L T S).2 else vb (jQ K W E V L T S).1.1.1 (jQ K W E V L T S).1.1.2 (jQ K W E V L T S).1.2.1.1 (jQ K W E V L T S).1.2.1.2 (jQ K W E V L T S).1.2.2.1 (jQ K W E V L T S).1.2.2.2:=by
 unfold k9;rw[ah h,ah (λ⟨j,h1,h2⟩=>by rw[hn j (by omega)] at h2;cases h2),ah (λq=>q ht)]
theorem aan (h0:0<=i)(h1:i<(E.length:Int)):tM W (E.take (i+1).toNat)=tM W (E.take i.toNat)++[(E.getD i.toNat kO).1]:=by
 rw[qE (d:=kO) h0 h1];simp[tM]
theorem ad2 (h:¬i<(E.length:Int)):tM W (E.take i.toNat)=tM W E:=by rw[tH h]
theorem aao (hW:∀j:Nat,j<W.length->(W.getD j b0).size<=200)(hE:∀j:Nat,j<E.length->(E.getD j kO).1.size<=200){j:Nat}(hj:j<(tM W E).length):((tM W E).getD j b0).size<=200:=by
 have hl:(tM W E).length=W.length+E.length:=by simp[tM]
 by_cases q:j<W.length
 .have:(tM W E).getD j b0=W.getD j b0:=by simp[tM,aH,cX q]
  rw[this];exact hW j q
 have:(tM W E).getD j b0=(E.getD (j-W.length) kO).1:=by
  have hk:j-W.length<E.length:=by omega
  simp[tM,aH,cY (show W.length<=j by omega),hk]
 rw[this];exact hE _ (by omega)
theorem G6 (h:(jQ K W E V L T S).2=0):jQ K W E V L T S=((((W.length:Int),yA E),((V,L),(T,S))),0):=by
 unfold jQ at h ⊢;split at h
 .rename_i q;rw[ak q];split at h
  .rename_i z;rw[ak z]
  cases h
 cases h
theorem aap:((jN K W E V L T S).1.1.1=0\/(jN K W E V L T S).1.1.1=(W.length:Int))/\((jN K W E V L T S).1.2.1.1=0\/(jN K W E V L T S).1.2.1.1=(W.length:Int)):=by
 unfold jN;split
 .split
  .exact⟨.inl rfl,.inl rfl⟩
  split
  .exact⟨.inr rfl,.inr rfl⟩
  exact⟨.inl rfl,.inl rfl⟩
 exact⟨.inl rfl,.inl rfl⟩
end
theorem agK (E:List lG):∀d∈(Ar E).2.2,-1<=d/\d<=(E.length:Int):=by
 have key:∀(E:List lG) (z:Aq) (n:Int),(z.2.1.length:Int)<=n->(∀d∈z.2.2,-1<=d/\d<=n)->∀d∈(E.foldl mV z).2.2,-1<=d/\d<=n+E.length:=by
  intro E
  induction E with
  |nil=>intro z n _ h d hd;have:=h d hd;simp;omega
  |cons l E ih=>
   intro z n hn h d hd;have h1:((mV z l).2.1.length:Int)<=n+1/\∀d∈(mV z l).2.2,-1<=d/\d<=n+1:=by
    unfold mV;split
    .refine⟨by simp;omega,λd hd=>?_⟩;rcases aI.1 hd with q|q
     .have:=h d q;omega
     have:=av.1 q;omega
    split
    .refine⟨by dsimp only;omega,λd hd=>?_⟩;rcases aI.1 hd with q|q
     .have:=h d q;omega
     have:=av.1 q;omega
    exact⟨by simp;omega,λd hd=>by have:=h d hd;omega⟩
   have:=ih (mV z l) (n+1) h1.1 h1.2 d hd;rw[bA];omega
 have:=key E ([],([],[])) 0 (by simp) (λd hd=>by cases hd);simpa[Ar] using this
theorem aaq {K:Int}{W:List ByteArray}{E:List lG}{V L:List Int}{T S:List (List Int)}(h:E.length<=1000000):∀d∈(jN K W E V L T S).1.2.2,-9223372036854775808<=d/\d<=9223372036854775807:=by
 unfold jN;split
 .split
  .intro d hd;cases hd
  split
  .intro d hd;have:=agK E d hd;omega
  intro d hd;cases hd
 intro d hd;cases hd
theorem Wc {K:Int}{W:List ByteArray}{E:List lG}{V L:List Int}{T S:List (List Int)}(h:E.length<=1000000):(jN K W E V L T S).1.2.2.length<=1000000:=by
 unfold jN;have:=Pn E;split
 .split
  .simp
  split
  .exact aU this.2.2 h
  simp
 simp
def uA (W:List ByteArray)(E:List lG)(d:Int):ByteArray:=
 if d<0 then(if -1-d<(W.length:Int) then W.getD (-1-d).toNat b0 else b0) else if(E.length:Int)<=d/2 then b0 else if d%2=0 then(E.getD (d/2).toNat kO).1++eX else(E.getD (d/2).toNat kO).1++eV
end Go.Proofs.YtnfdimfepbbbpaaGreatDoor
namespace Go.Proofs
open Go.Shelf
def Tryz.xK:Go.Shelf.Ren:=⟨fun|156=>52|165=>81|166=>51|169=>31|240=>80|241=>114|276=>113|277=>149|n=>n,fun|31=>22|9=>9|3=>3|4=>4|0=>0|20=>20|72=>80|76=>121|70=>77|37=>78|75=>120|127=>127|164=>189|5=>5|80=>87|n=>n,fun|n=>n⟩
theorem Tryz.IX:Go.Proofs.Lays.n156 aq Tryz.xK:={
 mixed:=by kernel_rfl
 f156:=func52.trans (aG some (by kernel_rfl))
 f165:=func81.trans (aG some (by kernel_rfl))
 f166:=func51.trans (aG some (by kernel_rfl))
 f169:=func31.trans (aG some (by kernel_rfl))
 f240:=func80.trans (aG some (by kernel_rfl))
 f241:=func114.trans (aG some (by kernel_rfl))
 f276:=func113.trans (aG some (by kernel_rfl))
 f277:=func149.trans (aG some (by kernel_rfl))
 t0:=Tryz.underlying0
 a0:=Tryz.isAgg0
 z0:=Tryz.sizeOf0
 v0:=Tryz.zeroValue0
 t3:=Tryz.underlying3
 a3:=Tryz.isAgg3
 z3:=Tryz.sizeOf3
 v3:=Tryz.zeroValue3
 t4:=Tryz.underlying4
 a4:=Tryz.isAgg4
 z4:=Tryz.sizeOf4
 v4:=Tryz.zeroValue4
 t9:=Tryz.underlying9
 a9:=Tryz.isAgg9
 z9:=Tryz.sizeOf9
 v9:=Tryz.zeroValue9
 t20:=Tryz.underlying20
 a20:=Tryz.isAgg20
 z20:=Tryz.sizeOf20
 v20:=Tryz.zeroValue20
 t31:=Tryz.underlying22
 a31:=Tryz.isAgg22
 z31:=Tryz.sizeOf22
 v31:=Tryz.zeroValue22
 t37:=Tryz.underlying78
 a37:=Tryz.isAgg78
 z37:=Tryz.sizeOf78
 v37:=Tryz.zeroValue78
 t70:=Tryz.underlying77
 a70:=Tryz.isAgg77
 z70:=Tryz.sizeOf77
 v70:=Tryz.zeroValue77
 t72:=Tryz.underlying80
 a72:=Tryz.isAgg80
 z72:=Tryz.sizeOf80
 v72:=Tryz.zeroValue80
 t75:=Tryz.underlying120
 a75:=Tryz.isAgg120
 z75:=Tryz.sizeOf120
 v75:=Tryz.zeroValue120
 t76:=Tryz.underlying121
 a76:=Tryz.isAgg121
 z76:=Tryz.sizeOf121
 v76:=Tryz.zeroValue121
 t127:=Tryz.underlying127
 a127:=Tryz.isAgg127
 z127:=Tryz.sizeOf127
 v127:=Tryz.zeroValue127
 t164:=Tryz.underlying189
 a164:=Tryz.isAgg189
 z164:=Tryz.sizeOf189
 v164:=Tryz.zeroValue189}
theorem Tryz.qF:Builder.Extra aq Tryz.xK:={
 sizeBuilder:=by kernel_rfl
 liesBuilder:=by kernel_rfl
 t5:=Tryz.underlying5
 a5:=Tryz.isAgg5
 z5:=Tryz.sizeOf5
 v5:=Tryz.zeroValue5
 infoByte:=by kernel_rfl
 cellsByte:=by kernel_rfl
 sizeByte:=by kernel_rfl
 neB5:=by decide}
open Go.RowKit in
theorem Tryz.strings_Join_none (a:Option Addr)(c:Nat)(sep:ByteArray)(w:aa):
 Calls aq 52 #[.slice a 0 c,.string sep] w λe w'=>e= .returned (.string ⟨#[]⟩)/\w'=w:=Any.strings_Join_none Tryz.IX Tryz.qF a c sep w
open Go.RowKit in
theorem Tryz.strings_Join (bk o c:Nat)(xs:List ByteArray)(sep:ByteArray)(w:aa)(yR:∀(j:Nat) x,xs[j]?=some x->w.cell? ⟨bk,o+j,none⟩=some (.string x))(LL:bk<w.heap.size)(hN:xs.length<=140737488355328)(ai7:xs.length<=c)(hlen:(akL (xs.map (·.data.toList)) sep.data.toList).length<=140737488355328):
 Calls aq 52 #[.slice (some ⟨bk,o,none⟩) xs.length c,.string sep] w λe w'=>e= .returned (.string ⟨(akL (xs.map (·.data.toList)) sep.data.toList).toArray⟩)/\Below w.heap.size w w':=Any.strings_Join Tryz.IX Tryz.qF bk o c xs sep w yR LL hN ai7 hlen
open Go.RowKit in
theorem Tryz.Ex (b:Nat)(w:aa)(h0:w.cell? ⟨b,0,none⟩=some (.pointer (some ⟨b,0,none⟩))):Calls aq 80 #[.pointer (some ⟨b,0,none⟩)] w λe w'=>e= .returned (.tuple #[])/\w'=w:=Any.Builder_copyCheck_used (ρ:=Tryz.xK) {Tryz.IX with} Tryz.qF.toX72 b w h0
def Tryz.FF:Go.Shelf.Ren:=⟨fun|15=>48|n=>n,fun|22=>24|3=>3|4=>4|n=>n,fun|n=>n⟩
theorem Tryz.Bv:Go.Proofs.Lays2.n15 aq Tryz.FF:={
 mixed:=by kernel_rfl
 f15:=func48.trans (aG some (by kernel_rfl))
 t3:=Tryz.underlying3
 a3:=Tryz.isAgg3
 z3:=Tryz.sizeOf3
 v3:=Tryz.zeroValue3
 t4:=Tryz.underlying4
 a4:=Tryz.isAgg4
 z4:=Tryz.sizeOf4
 v4:=Tryz.zeroValue4
 t22:=Tryz.underlying24
 a22:=Tryz.isAgg24
 z22:=Tryz.sizeOf24
 v22:=Tryz.zeroValue24
 i3:=by kernel_rfl}
open Go.RowKit Go.Lib in
theorem Tryz.slices_Clone_int (b off n c:Nat)(zs:List Int)(w:aa)(hz:n<=zs.length)(ad3:n*8<=140737488355328)(hc:∀j,j<zs.length->w.cell? ⟨b,off+j,none⟩=some (.int .i64 (zs.getD j 0))):
 Calls aq 48 #[.slice (some ⟨b,off,none⟩) n c] w λe w'=> ∃v',e= .returned v'/\w'.ownsRow w.heap.size 3 1 v' n ((zs.take n).map (bI .i64))/\v'≠.slice none 0 0/\Below w.heap.size w w':=Any.slices_Clone_int Tryz.Bv b off n c zs w hz ad3 hc
open Go.RowKit Go.Lib in
theorem Tryz.slices_Clone_int_nil (n c:Nat)(w:aa):
 Calls aq 48 #[.slice none n c] w λe w'=>e= .returned (.slice none 0 0)/\w'=w:=Any.slices_Clone_int_nil Tryz.Bv n c w
def Tryz.FG:Go.Shelf.Ren:=⟨fun|16=>39|n=>n,fun|24=>22|9=>9|4=>4|n=>n,fun|n=>n⟩
theorem Tryz.Bw:Go.Proofs.Lays2.n16 aq Tryz.FG:={
 mixed:=by kernel_rfl
 f16:=func39.trans (aG some (by kernel_rfl))
 t4:=Tryz.underlying4
 a4:=Tryz.isAgg4
 z4:=Tryz.sizeOf4
 v4:=Tryz.zeroValue4
 t9:=Tryz.underlying9
 a9:=Tryz.isAgg9
 z9:=Tryz.sizeOf9
 v9:=Tryz.zeroValue9
 t24:=Tryz.underlying22
 a24:=Tryz.isAgg22
 z24:=Tryz.sizeOf22
 v24:=Tryz.zeroValue22
 i9:=by kernel_rfl}
open Go.RowKit Go.Lib in
theorem Tryz.slices_Clone_string (b off n c:Nat)(zs:List ByteArray)(w:aa)(hz:n<=zs.length)(ad3:n*16<=140737488355328)(hc:∀j,j<zs.length->w.cell? ⟨b,off+j,none⟩=some (.string (zs.getD j ByteArray.empty))):
 Calls aq 39 #[.slice (some ⟨b,off,none⟩) n c] w λe w'=> ∃v',e= .returned v'/\w'.ownsRow w.heap.size 9 1 v' n ((zs.take n).map (Value.string))/\v'≠.slice none 0 0/\Below w.heap.size w w':=Any.slices_Clone_string Tryz.Bw b off n c zs w hz ad3 hc
open Go.RowKit Go.Lib in
theorem Tryz.slices_Clone_string_nil (n c:Nat)(w:aa):
 Calls aq 39 #[.slice none n c] w λe w'=>e= .returned (.slice none 0 0)/\w'=w:=Any.slices_Clone_string_nil Tryz.Bw n c w
open Go.RowKit Go.Lib in
theorem Tryz.slices_Clone_int_zero (a:Addr)(c:Nat)(w:aa):
 Calls aq 48 #[.slice (some a) 0 c] w λe w'=> ∃v',e= .returned v'/\w'.ownsRow w.heap.size 3 1 v' 0 []/\v'≠.slice none 0 0/\Below w.heap.size w w':=Any.slices_Clone_int_zero Tryz.Bv a c w
open Go.RowKit Go.Lib in
theorem Tryz.slices_Clone_string_zero (a:Addr)(c:Nat)(w:aa):
 Calls aq 39 #[.slice (some a) 0 c] w λe w'=> ∃v',e= .returned v'/\w'.ownsRow w.heap.size 9 1 v' 0 []/\v'≠.slice none 0 0/\Below w.heap.size w w':=Any.slices_Clone_string_zero Tryz.Bw a c w
def Tryz.LM:Go.Shelf.Ren:=⟨fun|189=>69|125=>93|257=>92|128=>130|129=>131|294=>121|295=>122|296=>123|297=>124|298=>125|299=>126|216=>127|300=>128|301=>129|328=>155|329=>156|330=>157|331=>158|332=>159|215=>160|343=>175|n=>n,fun|28=>24|3=>3|46=>170|0=>0|51=>206|53=>208|4=>4|183=>200|182=>199|131=>91|5=>5|9=>9|218=>234|222=>238|228=>249|229=>158|n=>n,fun|n=>n⟩
theorem Tryz.Pp:Go.Proofs.Lays.n189 aq Tryz.LM:={
 mixed:=by kernel_rfl
 f125:=func93.trans (aG some (by kernel_rfl))
 f128:=func130.trans (aG some (by kernel_rfl))
 f129:=func131.trans (aG some (by kernel_rfl))
 f189:=func69.trans (aG some (by kernel_rfl))
 f215:=func160.trans (aG some (by kernel_rfl))
 f216:=func127.trans (aG some (by kernel_rfl))
 f257:=func92.trans (aG some (by kernel_rfl))
 f294:=func121.trans (aG some (by kernel_rfl))
 f295:=func122.trans (aG some (by kernel_rfl))
 f296:=func123.trans (aG some (by kernel_rfl))
 f297:=func124.trans (aG some (by kernel_rfl))
 f298:=func125.trans (aG some (by kernel_rfl))
 f299:=func126.trans (aG some (by kernel_rfl))
 f300:=func128.trans (aG some (by kernel_rfl))
 f301:=func129.trans (aG some (by kernel_rfl))
 f328:=func155.trans (aG some (by kernel_rfl))
 f329:=func156.trans (aG some (by kernel_rfl))
 f330:=func157.trans (aG some (by kernel_rfl))
 f331:=func158.trans (aG some (by kernel_rfl))
 f332:=func159.trans (aG some (by kernel_rfl))
 f343:=func175.trans (aG some (by kernel_rfl))
 t0:=Tryz.underlying0
 a0:=Tryz.isAgg0
 z0:=Tryz.sizeOf0
 v0:=Tryz.zeroValue0
 t3:=Tryz.underlying3
 a3:=Tryz.isAgg3
 z3:=Tryz.sizeOf3
 v3:=Tryz.zeroValue3
 t4:=Tryz.underlying4
 a4:=Tryz.isAgg4
 z4:=Tryz.sizeOf4
 v4:=Tryz.zeroValue4
 t5:=Tryz.underlying5
 a5:=Tryz.isAgg5
 z5:=Tryz.sizeOf5
 v5:=Tryz.zeroValue5
 t9:=Tryz.underlying9
 a9:=Tryz.isAgg9
 z9:=Tryz.sizeOf9
 v9:=Tryz.zeroValue9
 t28:=Tryz.underlying24
 a28:=Tryz.isAgg24
 z28:=Tryz.sizeOf24
 v28:=Tryz.zeroValue24
 t46:=Tryz.underlying170
 a46:=Tryz.isAgg170
 z46:=Tryz.sizeOf170
 v46:=Tryz.zeroValue170
 t51:=Tryz.underlying206
 a51:=Tryz.isAgg206
 z51:=Tryz.sizeOf206
 v51:=Tryz.zeroValue206
 t53:=Tryz.underlying208
 a53:=Tryz.isAgg208
 z53:=Tryz.sizeOf208
 v53:=Tryz.zeroValue208
 t131:=Tryz.underlying91
 a131:=Tryz.isAgg91
 z131:=Tryz.sizeOf91
 v131:=Tryz.zeroValue91
 t182:=Tryz.underlying199
 a182:=Tryz.isAgg199
 z182:=Tryz.sizeOf199
 v182:=Tryz.zeroValue199
 t183:=Tryz.underlying200
 a183:=Tryz.isAgg200
 z183:=Tryz.sizeOf200
 v183:=Tryz.zeroValue200
 t218:=Tryz.underlying234
 a218:=Tryz.isAgg234
 z218:=Tryz.sizeOf234
 v218:=Tryz.zeroValue234
 t222:=Tryz.underlying238
 a222:=Tryz.isAgg238
 z222:=Tryz.sizeOf238
 v222:=Tryz.zeroValue238
 t228:=Tryz.underlying249
 a228:=Tryz.isAgg249
 z228:=Tryz.sizeOf249
 v228:=Tryz.zeroValue249
 t229:=Tryz.underlying158
 a229:=Tryz.isAgg158
 z229:=Tryz.sizeOf158
 v229:=Tryz.zeroValue158}
open Go.Sort Go.RowKit in
theorem Tryz.slices_Sort_int (lV off cap:Nat)(zs:List Int)(w:aa)(hH:Holds (bI .i64) w lV off zs.toArray)(Uc:lV<w.heap.size)(m9:zs.length<4611686018427387904):
 Calls aq 69 #[.slice (some ⟨lV,off,none⟩) zs.length cap] w λe w'=>
  e= .returned (.tuple #[])/\∃n os,w'=grow (putRow (bI .i64) (Sort.ahead w n) lV off (zs.mergeSort λx y=>decide (x<=y)).toArray) os:=Any.slices_Sort_int Tryz.Pp lV off cap zs w hH Uc m9
open Go.RowKit Go.Sort in
theorem Tryz.slices_Sort_int_none (p:Option Addr)(cap:Nat)(w:aa):
 Calls aq 69 #[.slice p 0 cap] w λe w'=>e= .returned (.tuple #[])/\w'=w:=Any.slices_Sort_int_none Tryz.Pp p cap w
def Tryz.G7:Go.Shelf.Ren:=⟨fun|7=>67|10=>88|n=>n,fun|23=>95|26=>3|3=>124|28=>138|0=>0|27=>137|33=>162|4=>4|n=>n,fun|n=>n⟩
theorem Tryz.agL:Go.Proofs.SlLaysZI.n7 aq Tryz.G7:={
 mixed:=by kernel_rfl
 f7:=⟨f67.name,by decide,func67.trans (aG some (by kernel_rfl))⟩
 f10:=⟨f88.name,by decide,func88.trans (aG some (by kernel_rfl))⟩
 t0:=Tryz.underlying0
 a0:=Tryz.isAgg0
 z0:=Tryz.sizeOf0
 v0:=Tryz.zeroValue0
 t4:=Tryz.underlying4
 a4:=Tryz.isAgg4
 z4:=Tryz.sizeOf4
 v4:=Tryz.zeroValue4
 t23:=Tryz.underlying95
 a23:=Tryz.isAgg95
 z23:=Tryz.sizeOf95
 v23:=Tryz.zeroValue95
 t26:=Tryz.underlying3
 a26:=Tryz.isAgg3
 z26:=Tryz.sizeOf3
 v26:=Tryz.zeroValue3
 t27:=Tryz.underlying137
 a27:=Tryz.isAgg137
 z27:=Tryz.sizeOf137
 v27:=Tryz.zeroValue137
 t28:=Tryz.underlying138
 a28:=Tryz.isAgg138
 z28:=Tryz.sizeOf138
 v28:=Tryz.zeroValue138
 t33:=Tryz.underlying162
 a33:=Tryz.isAgg162
 z33:=Tryz.sizeOf162
 v33:=Tryz.zeroValue162}
def Tryz.Ci:Go.Shelf.Ren:=⟨fun|6=>66|8=>87|9=>69|11=>117|13=>93|12=>92|23=>130|24=>131|14=>121|15=>122|16=>123|17=>124|18=>125|19=>126|20=>127|21=>128|22=>129|25=>155|26=>156|27=>157|28=>158|29=>159|30=>160|31=>175|n=>n,fun|26=>3|28=>138|24=>24|0=>0|3=>3|37=>170|48=>206|50=>208|4=>4|40=>200|39=>199|45=>91|5=>5|9=>9|51=>234|55=>238|57=>249|58=>158|33=>162|n=>n,fun|n=>n⟩
theorem Tryz.aar:Go.Proofs.SlLaysZI.n6 aq Tryz.Ci:={
 mixed:=by kernel_rfl
 f6:=⟨f66.name,by decide,func66.trans (aG some (by kernel_rfl))⟩
 f8:=⟨f87.name,by decide,func87.trans (aG some (by kernel_rfl))⟩
 f11:=⟨f117.name,by decide,func117.trans (aG some (by kernel_rfl))⟩
 t0:=Tryz.underlying0
 a0:=Tryz.isAgg0
 z0:=Tryz.sizeOf0
 v0:=Tryz.zeroValue0
 t24:=Tryz.underlying24
 a24:=Tryz.isAgg24
 z24:=Tryz.sizeOf24
 v24:=Tryz.zeroValue24
 t26:=Tryz.underlying3
 a26:=Tryz.isAgg3
 z26:=Tryz.sizeOf3
 v26:=Tryz.zeroValue3
 t28:=Tryz.underlying138
 a28:=Tryz.isAgg138
 z28:=Tryz.sizeOf138
 v28:=Tryz.zeroValue138
 i26:=by kernel_rfl}
def Tryz.LN:Go.Shelf.Ren:=⟨fun|162=>115|232=>150|227=>151|234=>152|236=>153|228=>172|271=>173|151=>174|120=>179|197=>180|152=>181|260=>184|137=>185|119=>186|224=>187|225=>188|217=>189|266=>190|n=>n,fun|9=>9|4=>4|3=>3|5=>5|117=>230|116=>229|0=>0|124=>233|21=>21|105=>246|46=>170|119=>257|139=>260|138=>259|n=>n,fun|3=>1|4=>2|n=>n⟩
theorem Tryz.aas:Go.Proofs.Lays.n162 aq Tryz.LN:={
 mixed:=by kernel_rfl
 f119:=func186.trans (aG some (by kernel_rfl))
 f120:=func179.trans (aG some (by kernel_rfl))
 f137:=func185.trans (aG some (by kernel_rfl))
 f151:=func174.trans (aG some (by kernel_rfl))
 f152:=func181.trans (aG some (by kernel_rfl))
 f162:=func115.trans (aG some (by kernel_rfl))
 f197:=func180.trans (aG some (by kernel_rfl))
 f217:=func189.trans (aG some (by kernel_rfl))
 f224:=func187.trans (aG some (by kernel_rfl))
 f225:=func188.trans (aG some (by kernel_rfl))
 f227:=func151.trans (aG some (by kernel_rfl))
 f228:=func172.trans (aG some (by kernel_rfl))
 f232:=func150.trans (aG some (by kernel_rfl))
 f234:=func152.trans (aG some (by kernel_rfl))
 f236:=func153.trans (aG some (by kernel_rfl))
 f260:=func184.trans (aG some (by kernel_rfl))
 f266:=func190.trans (aG some (by kernel_rfl))
 f271:=func173.trans (aG some (by kernel_rfl))
 t0:=Tryz.underlying0
 a0:=Tryz.isAgg0
 z0:=Tryz.sizeOf0
 v0:=Tryz.zeroValue0
 t3:=Tryz.underlying3
 a3:=Tryz.isAgg3
 z3:=Tryz.sizeOf3
 v3:=Tryz.zeroValue3
 t4:=Tryz.underlying4
 a4:=Tryz.isAgg4
 z4:=Tryz.sizeOf4
 v4:=Tryz.zeroValue4
 t5:=Tryz.underlying5
 a5:=Tryz.isAgg5
 z5:=Tryz.sizeOf5
 v5:=Tryz.zeroValue5
 t9:=Tryz.underlying9
 a9:=Tryz.isAgg9
 z9:=Tryz.sizeOf9
 v9:=Tryz.zeroValue9
 t21:=Tryz.underlying21
 a21:=Tryz.isAgg21
 z21:=Tryz.sizeOf21
 v21:=Tryz.zeroValue21
 t46:=Tryz.underlying170
 a46:=Tryz.isAgg170
 z46:=Tryz.sizeOf170
 v46:=Tryz.zeroValue170
 t105:=Tryz.underlying246
 a105:=Tryz.isAgg246
 z105:=Tryz.sizeOf246
 v105:=Tryz.zeroValue246
 t116:=Tryz.underlying229
 a116:=Tryz.isAgg229
 z116:=Tryz.sizeOf229
 t117:=Tryz.underlying230
 a117:=Tryz.isAgg230
 z117:=Tryz.sizeOf230
 v117:=Tryz.zeroValue230
 t119:=Tryz.underlying257
 a119:=Tryz.isAgg257
 z119:=Tryz.sizeOf257
 t124:=Tryz.underlying233
 a124:=Tryz.isAgg233
 z124:=Tryz.sizeOf233
 v124:=Tryz.zeroValue233
 t138:=Tryz.underlying259
 a138:=Tryz.isAgg259
 z138:=Tryz.sizeOf259
 v138:=Tryz.zeroValue259
 t139:=Tryz.underlying260
 a139:=Tryz.isAgg260
 z139:=Tryz.sizeOf260
 v139:=Tryz.zeroValue260
 g3:=by kernel_rfl
 g4:=by kernel_rfl}
open Go.RowKit Go.Lib in
theorem Tryz.Au (s:ByteArray)(w:aa)(hs:s.size<=9223372036854775807):
 Calls aq 115 #[.string s,.string apl] w λe w'=>e= .returned (.string ⟨(Lib.trimRightS s.data.toList [43,45]).toArray⟩)/\Below w.heap.size w w':=Any.strings_TrimRight_laid Tryz.aas (by kernel_rfl) s apl w hs (by decide) (ascii_of_all (by decide))
def Tryz.LO:Go.Shelf.Ren:=⟨fun|100=>116|207=>154|n=>n,fun|9=>9|4=>4|3=>3|n=>n,fun|n=>n⟩
theorem Tryz.aat:Go.Proofs.Lays.n100 aq Tryz.LO:={
 mixed:=by kernel_rfl
 f100:=func116.trans (aG some (by kernel_rfl))
 f207:=func154.trans (aG some (by kernel_rfl))
 t3:=Tryz.underlying3
 a3:=Tryz.isAgg3
 z3:=Tryz.sizeOf3
 v3:=Tryz.zeroValue3
 t4:=Tryz.underlying4
 a4:=Tryz.isAgg4
 z4:=Tryz.sizeOf4
 v4:=Tryz.zeroValue4
 t9:=Tryz.underlying9
 a9:=Tryz.isAgg9
 z9:=Tryz.sizeOf9
 v9:=Tryz.zeroValue9}
open Go.RowKit Go.Lib in
theorem Tryz.strings_HasSuffix (s p:ByteArray)(w:aa)(hs:s.size<=9223372036854775807):
 Calls aq 116 #[.string s,.string p] w λe w'=>e= .returned (.bool (Lib.hasSuffix s.data.toList p.data.toList))/\w'=w:=Any.strings_HasSuffix Tryz.aat s p w hs
end Go.Proofs
namespace Go.Proofs.YtnfdimfepbbbpaaGreatDoor
open Go.RowKit Go.Lib
abbrev bdT:ax:=80
def BdT (T:ax):Prop:=liesAt aq Tryz.prog.depth T (2/Tryz.prog.cellsOf T) 0 bdT 1=true
theorem ad4:BdT 82:=by unfold BdT;kernel_rfl
theorem aau:(Tryz.prog.info? bdT).map (·.size)=some 2:=by kernel_rfl
theorem aav:(Tryz.prog.info? 5).map (λi=>(i.zero,i.size,i.bytes))=some (some (.int .u8 0),1,1):=by kernel_rfl
section
variable {P:az}
theorem aaw (w:aa)(t u ty e:ax)(i:TypeInfo)(ht:P.underlying t=some (.slice e))(hu:P.underlying u=some .string)(hi:P.info? e=some i)(hz:i.zero=some (.int .u8 0))
  (rH:i.size=1) (E4:i.bytes=1) (v:af) (n:Nat) (xs:List af) (ko:w.ownsRow 0 e 1 v n xs) (s:ByteArray) (SQ:n+s.size<=1000000):
  ∃v' w',(akC #[t,u] ty #[v,.string s]).run P w= .ok v' w'/\w'.ownsRow 0 e 1 v' (n+s.size) (xs++strCells s)/\w.grownBy w' v.ownBlock/\(∀k,v'.ownBlock=some k->v.ownBlock=some k\/w.heap.size<=k):=by
 have hm:n+s.size<=maxLen:=aU SQ (by decide);obtain⟨v',w',hr,h2,h3,h4⟩:=run_append_own_string (P:=P) w 0 t u ty e i ht hu hi hz rH E4 v n xs ko s hm (by omega) (bu _);refine⟨v',w',hr,h2,h3,?_⟩;rcases ko.2 with⟨rfl,rfl⟩|⟨g,cap,cur,rfl,hbg,hg,JM,wq,j4,pn⟩
 .obtain⟨v2,w2,RW,k2,_,_⟩:=run_append_own_string (P:=P) w w.heap.size t u ty e i ht hu hi hz rH E4 (.slice none 0 0) 0 xs ⟨ko.1,.inl ⟨rfl,rfl⟩⟩ s hm (by omega) (ay _);rw[hr] at RW;cases RW;exact λk hk=>.inr (k2.lt k hk).1
 by_cases zw:n+s.size<=cap
 .have DF:cur.size=cap:=by simpa using j4
  have RW:=run_append_room_string (P:=P) w t u ty e i ht hu hi rH g n cap cur hg s zw (by omega);rw[hr] at RW;cases RW;exact λk hk=>.inl hk
 have holds:∀j u,xs[j]?=some u->w.cell? ((⟨g,0,none⟩:Addr).add j)=some u:=ko.cells (g:=g) rfl;have RW:=run_append_grow_string (P:=P) w t u ty e i (.int .u8 0) ht hu hi hz ⟨g,0,none⟩ n cap xs (by rw[rH];simpa using ko.1) holds s (by omega) (by omega) (by rw[E4];exact growslice_fits (by omega) (by omega));rw[hr] at RW;cases RW;exact λk hk=>by cases hk;exact .inr (ay _)
theorem Ey {ops:Array Oper}{rest:List Oper}{o:Oper}{a:Act}{w:aa}{Q:Exit->Act->aa->Prop}(hgd:o.guard=none)(sl x:Operand)(t u:ax)
  (ho:o.op= .call {callee:=.builtin .append,args:= #[sl,x],argTypes:= #[t,u]}) (e:ax) (i:TypeInfo) (ht:P.underlying t=some (.slice e)) (hu:P.underlying u=some .string) (hi:P.info? e=some i) (hz:i.zero=some (.int .u8 0))
  (rH:i.size=1) (E4:i.bytes=1) (v:af) (n:Nat) (xs:List af) (hs:a.eval sl=v) (ko:w.ownsRow 0 e 1 v n xs) (s:ByteArray) (hx:a.eval x= .string s) (SQ:n+s.size<=1000000)
  (h:∀v' w',w'.ownsRow 0 e 1 v' (n+s.size) (xs++strCells s)->w.grownBy w' v.ownBlock->(∀k,v'.ownBlock=some k->v.ownBlock=some k\/w.heap.size<=k)->wpList P ops Q rest (a.put o.dst v') w'):wpList P ops Q (o::rest) a w:=by
 refine wpList_plain hgd λK hK=>?_;obtain⟨v',w',hr,h2,h3,h4⟩:=aaw (P:=P) w t u o.type e i ht hu hi hz rH E4 v n xs ko s SQ;unfold Oper.wp execOp;simp only[ho,resolve,invoke,builtin,Sem.run_bind,Sem.run_pure,bY,List.map_toArray,bn,b9,hs,hx,hr];exact hK _ _ (h v' w' h2 h3 h4)
end
theorem Wd {T:ax}(hT:BdT T)(b:Nat)(w:aa)(h0:w.cell? ⟨b,0,none⟩=some (.pointer none))(hsh:w.shape? b=some (T,2))(hfz:w.frozen? ⟨b,0,none⟩=false):
  Calls aq 80 #[.pointer (some ⟨b,0,none⟩)] w λe w'=>e= .returned (.tuple #[])/\w'=w.setCell ⟨b,0,none⟩ (.pointer (some ⟨b,0,none⟩)):=by
 obtain⟨j,hj,hjs⟩:=aZ.1 aau
 go_enter func80,Tryz.ntmps80
 go_wp2
 rw[run_to_unsafe w ⟨b,0,none⟩ Tryz.underlying77 Tryz.underlying189 hj (by rw[hjs];decide) hsh (Nat.zero_lt_succ 1)];simp only[bR];rw[alg]
 go_wp2
 rw[run_callFunc_extern func113 (by kernel_rfl) (by kernel_rfl) (by kernel_rfl) (e:=apc) (by kernel_rfl)];rw[run_noEscape];simp only[bR];rw[alg]
 go_wp2
 rw[run_from_unsafe w ⟨b,0,none⟩ Tryz.underlying189 Tryz.underlying77 hj hsh hT];simp only[bR];rw[alg]
 go_wp2
 go_end0
 exact⟨rfl,rfl⟩
theorem Bx {w:aa}{b:Nat}{T:ax}{p v:af}(LL:w.heap[b]?=some (.cells #[p,v] T (0,0))):w.cell? ⟨b,0,none⟩=some p/\w.cell? ⟨b,1,none⟩=some v/\w.shape? b=some (T,2)/\w.frozen? ⟨b,0,none⟩=false/\w.frozen? ⟨b,1,none⟩=false/\b<w.heap.size:=by
 refine⟨by rw[cell_of_heap LL];rfl,by rw[cell_of_heap LL];rfl,by simp[aoF,LL],frozen_of_heap LL 0,frozen_of_heap LL 1,(cI.1 LL).1⟩
theorem Cj (w:aa)(b i:Nat)(u:af):pU w (w.setCell ⟨b,i,none⟩ u) (· =b):=⟨rfl,rfl,rfl,by simp,λk _ hn=>heap_setCell_other w _ k u hn⟩
theorem ad5 {T:ax}(hT:BdT T)(b:Nat)(p v:af)(w:aa)(LL:w.heap[b]?=some (.cells #[p,v] T (0,0)))(hp:p= .pointer none\/p= .pointer (some ⟨b,0,none⟩)):
  Calls aq 80 #[.pointer (some ⟨b,0,none⟩)] w λe w'=>e= .returned (.tuple #[])/\w'.heap[b]?=some (.cells #[.pointer (some ⟨b,0,none⟩),v] T (0,0))/\pU w w' (· =b)/\w'.heap.size=w.heap.size:=by
 obtain⟨c0,c1,hsh,f0,f1,pg⟩:=Bx LL;rcases hp with rfl|rfl
 .refine(Wd hT b w c0 hsh f0).mono ?_;rintro e w' ⟨rfl,rfl⟩;exact⟨rfl,by rw[heap_setCell_same w b 0 _ _ _ LL];rfl,Cj _ _ _ _,by simp⟩
 refine(Tryz.Ex b w c0).mono ?_;rintro e w' ⟨rfl,rfl⟩;exact⟨rfl,LL,pU.refl _ _,rfl⟩
theorem We (s t:ByteArray):zL (s++t)=zL s++strCells t:=by
 unfold zL strCells;rw[show(s++t).data.toList=s.data.toList++t.data.toList by rw[cR,Array.toList_append],bX]
theorem Wf (s t:ByteArray):(s++t).size=s.size+t.size:=ByteArray.size_append
theorem ad6 {T:ax}(hT:BdT T)(hTe:T≠5)(b:Nat)(p v:af)(s t:ByteArray)(w:aa)(LL:w.heap[b]?=some (.cells #[p,v] T (0,0)))(hp:p= .pointer none\/p= .pointer (some ⟨b,0,none⟩))
  (ko:w.ownsRow 0 5 1 v s.size (zL s)) (hlen:s.size+t.size<=1000000):
  Calls aq 51 #[.pointer (some ⟨b,0,none⟩),.string t] w λe w'=>e= .returned (.tuple #[.int .i64 t.size,.nilIface])/\∃v',w'.heap[b]?=some (.cells #[.pointer (some ⟨b,0,none⟩),v'] T (0,0))/\
   w'.ownsRow 0 5 1 v' (s++t).size (zL (s++t))/\v'.ownBlock≠some b/\pU w w' (λk=>k=b\/v.ownBlock=some k)/\(∀k,v'.ownBlock=some k->v.ownBlock=some k\/w.heap.size<=k):=by
 obtain⟨i0,hi,hz0,Ad,LP⟩:=info_parts aav;have mc:v.ownBlock≠some b:=ownBlock_ne ko LL hTe
 go_enter func51,Tryz.ntmps51
 go_wp2_with (go_at_call 80;refine(ad5 hT b p v _ LL hp).mono ?_)
 rintro e w1 ⟨rfl,agM,Fp,hz⟩;have agN:w1.ownsRow 0 5 1 v s.size (zL s):=vG ko λk hk=>Fp.block k (ko.lt k hk).2 λe=>mc (e▸hk);obtain⟨c0,c1,hsh,f0,f1,pg⟩:=Bx agM
 go_wp2_with (at_builtin;refine Ey rfl _ _ 78 9 rfl 5 i0 Tryz.underlying78 Tryz.underlying9 hi hz0 Ad LP _ _ _ rfl agN t rfl hlen ?_)
 intro v' w2 Wg G8 uu;have C3:w2.heap[b]?=some (.cells #[.pointer (some ⟨b,0,none⟩),v] T (0,0)):=by
  rw[G8.block b pg (λe=>mc e.symm)];exact agM
 obtain⟨d0,d1,akm,g0,g1,akn⟩:=Bx C3;have Co:v'.ownBlock≠some b:=ownBlock_ne Wg C3 hTe;obtain⟨ao,n',cap,rfl⟩:∃ao n' cap,v'= .slice ao n' cap:=by
  rcases Wg.2 with⟨hv,_⟩|⟨g,cap,cur,hv,_⟩
  .exact⟨_,_,_,hv⟩
  exact⟨_,_,_,hv⟩
 go_wp2
 go_ret2
 refine⟨rfl,.slice ao n' cap,?_,?_,Co,?_,λk hk=>(uu k hk).imp id λq=>by omega⟩
 .rw[heap_setCell_same w2 b 1 _ _ _ C3];rfl
 .rw[Wf,We];exact vG Wg λk hk=>heap_setCell_other w2 _ k _ λe=>Co (by have e:k=b:=e;rw[<-e];exact hk)
 have h2:pU w1 w2 (λk=>k=b\/v.ownBlock=some k):=⟨G8.os,G8.tape,G8.output,G8.size,λk hk hn=>G8.block k hk λe=>hn (.inr e.symm)⟩;have h1:pU w w1 (λk=>k=b\/v.ownBlock=some k):=⟨Fp.os,Fp.tape,Fp.output,Fp.size,λk hk hn=>Fp.block k hk λe=>hn (.inl e)⟩;have h3:=Cj w2 b 1 (.slice ao n' cap);exact(h1.trans h2 λ_ _ q=>q).trans ⟨h3.os,h3.tape,h3.output,h3.size,λk hk hn=>h3.block k hk λe=>hn (.inl e)⟩ λ_ _ q=>q
theorem By (w:aa)(g k:Nat):pU w (w.freeze ⟨g,0,none⟩ k) (· =g):=by
 have h:=below_freeze (Below.refl g w) (p:=⟨g,0,none⟩) (ay g) k;refine⟨h.os,h.tape,h.output,h.size,λj hj hn=>?_⟩;unfold World.freeze;split
 .rfl
 simp[Array.getElem?_modify,Ne.symm hn]
theorem aax {T:ax}(b:Nat)(p v:af)(s:ByteArray)(w:aa)(LL:w.heap[b]?=some (.cells #[p,v] T (0,0)))(ko:w.ownsRow 0 5 1 v s.size (zL s))(h0:0<s.size)(hlen:s.size<=1000000):
  Calls aq 31 #[.pointer (some ⟨b,0,none⟩)] w λe w'=>e= .returned (.string s)/\pU w w' (λk=>v.ownBlock=some k):=by
 obtain⟨g,cap,cur,rfl,hbg,hg,JM,wq,j4,pn⟩:∃g cap cur,v= .slice (some ⟨g,0,none⟩) s.size cap/\0<=g/\w.heap[g]?=some (.cells cur 5 (0,0))/\s.size<=cap/\cap<=maxLen/\cur.size=cap*1/\cur.toList.take (s.size*1)=zL s:=by
  rcases ko.2 with⟨_,hz⟩|⟨g,cap,cur,hv,r⟩
  .omega
  exact⟨g,cap,cur,hv,r⟩
 have hl:s.data.toList≠[]:=by
  intro e;have:s.size=0:=by show s.data.size=0;rw[<-cz,e];rfl
  omega
 have hls:s.data.toList.length=s.size:=cz;have c1:w.drew.cell? ⟨b,1,none⟩=some (.slice (some ⟨g,0,none⟩) s.size cap):=by
  have:w.drew.heap[b]?=some (.cells #[p,.slice (some ⟨g,0,none⟩) s.size cap] T (0,0)):=LL;rw[cell_of_heap this];rfl
 have hSD:(Builtin.unsafeSliceData_ #[78] 127 #[.slice (some ⟨g,0,none⟩) s.size cap]).run aq w.drew= .ok (.pointer (some ⟨g,0,none⟩)) w.drew:=
  run_unsafeSliceData_row _ _ _ _ _ _ (by omega)
 have hUS:(Builtin.unsafeString_ #[127,3] 9 #[.pointer (some ⟨g,0,none⟩),.int .i64 s.size]).run aq w.drew= .ok (.string s) (w.drew.freeze ⟨g,0,none⟩ s.size):=by
  have:=run_unsafeString_row (P:=aq) w.drew 127 3 9 5 Tryz.underlying127 (by kernel_rfl) g cur.size (by have hg':w.drew.heap[g]?=some (.cells cur 5 (0,0)):=hg;simp[aoF,hg']) s.data.toList hl (by omega) (by omega) (λj x hx=>by
   have:=ko.cells (g:=g) rfl j (.int .u8 x.toNat) (by simp only[zL,cm,hx];rfl);exact this)
  rw[hls] at this;exact this
 have mixed:Tryz.prog.follows .mixedOrders=true:=by kernel_rfl
 go_enter func31,Tryz.ntmps31
 go_wp2
 go_region_o
 all_goals (go_wp2;go_ret;exact⟨rfl,let h:=By w.drew g s.size;⟨h.os,h.tape,h.output,h.size,λk hk hn=>h.block k hk λe=>hn (by rw[e];rfl)⟩⟩)
section
variable {o:jh}{n:Nat}{A A':ju}{S S':iF}{F:Nat->Prop}{s:Nat->Option E2}{r:Nat->Option R2}{a:Act}{w w':aa}{b j:Nat}
abbrev Wh (t:ByteArray):Sy:=.tQ [(false,[.v (.int .i64 (t.size:Int))]),(false,[.v .nilIface])]
theorem Pq {T:ax}(hT:BdT T)(hTe:T≠5)(H:j5 o n A S F s r a w)(hF:¬F b){c0 c1:Sc}(hx:r j=some (.box T [c0,c1]))(hp:c0.den A= .pointer none\/c0.den A= .pointer (some ⟨A.b j,0,none⟩)){v:af}{q t:ByteArray}
  (hv:c1.den A=v) (ko:w.ownsRow 0 5 1 v q.size (zL q)) {old:List (Nat×Option R2)} (hold:(old=[]/\v.ownBlock=none)\/∃k,old=[(k,none)]/\r k=some (.ext (.sZ 5 q))/\v=A.v k/\k≠j) (hlen:q.size+t.size<=1000000) (cs:List Prop):
  Calls aq 51 #[.pointer (some ⟨A.b j,0,none⟩),.string t] w λe w'=> ∃v',e= .returned v'/\mO o n F s r a ⟨cs,[],Wh t,(j,some (.box T [.ptr j 0,.own b]))::(b,some (.ext (.sZ 5 (q++t))))::old⟩ v' w':=by
 have zE:w.heap[A.b j]?=some (.cells #[c0.den A,c1.den A] T (0,0)):=H.jd.ok j _ (show iZ A r j=some _ by simp[iZ,hx];rfl);have BV:=(H.j7 j _ hx).1;have hjb:j≠b:=λe=>hF (e▸BV);rw[hv] at zE;refine(ad6 hT hTe (A.b j) _ v q t w zE hp ko hlen).mono ?_;rintro e w' ⟨rfl,v',h1,h2,h3,h4,h5⟩;refine⟨_,rfl,?_⟩;obtain⟨p',n',c',Tf⟩:∃p n c,v'= .slice p n c:=by
  rcases h2.2 with⟨h,_⟩|⟨g,cap,cur,h,_⟩
  .exact⟨_,_,_,h⟩
  exact⟨_,_,_,h⟩
 have BP:=kD.set (A:=A) hF p' n' c' 0;have hbj:(A.set b p' n' c' 0).b j=A.b j:=(BP j BV).2.1.symm;have JC:(A.set b p' n' c' 0).v b=v':=by rw[ju.rP,Tf]
 have agO:∀k,v.ownBlock=some k->nc A r (λi=> ∃z,(i,z)∈(j,some (R2.box T [.ptr j 0,.own b]))::(b,some (.ext (.sZ 5 (q++t))))::old/\i≠b) k:=λk hk=>by
  rcases hold with⟨_,h⟩|⟨i,rfl,hi,rfl,JB⟩
  .rw[h] at hk;cases hk
  have hFi:=(H.j7 i _ hi).1;exact⟨i,_,⟨none,by simp,λe=>hF (e▸hFi)⟩,hi,hk⟩
 have hHj:nc A r (λi=> ∃z,(i,z)∈(j,some (R2.box T [.ptr j 0,.own b]))::(b,some (.ext (.sZ 5 (q++t))))::old/\i≠b) (A.b j):=⟨j,_,⟨_,aA,hjb⟩,hx,rfl⟩;have pR:pU w w' (nc A r (λi=> ∃z,(i,z)∈(j,some (R2.box T [.ptr j 0,.own b]))::(b,some (.ext (.sZ 5 (q++t))))::old/\i≠b)):=
  ⟨h4.os,h4.tape,h4.output,h4.size,λk hk hn=>h4.block k hk λe=>hn (e.elim (λe=>e▸hHj) λe=>agO k e)⟩
 have Wi:∀ {i:Nat} {z:R2},(i,some z)∈(j,some (R2.box T [.ptr j 0,.own b]))::(b,some (.ext (.sZ 5 (q++t))))::old->(i=j/\z= .box T [.ptr j 0,.own b])\/(i=b/\z= .ext (.sZ 5 (q++t))):=λ{i z} h=>by
  rcases aC.1 h with h|h
  .cases h;exact .inl ⟨rfl,rfl⟩
  rcases aC.1 h with h|h
  .cases h;exact .inr ⟨rfl,rfl⟩
  rcases hold with⟨rfl,_⟩|⟨k,rfl,_⟩
  .cases h
  rcases aC.1 h with h|h
  .cases h
  cases h
 refine⟨A.set b p' n' c' 0,S,H.swap BP _ (λi ⟨z,hz,_⟩=>⟨z,hz⟩) pR (λ_ h=>h) (λ_ h=>.inl h) (λi z hi=>?_) (λi i' z z' c hi AJ k1 k2=>?_),rfl,(λp hp c hc=>?_),(λp hp c hc=>?_)⟩
 .rcases Wi hi with⟨rfl,rfl⟩|⟨rfl,rfl⟩
  .refine⟨λc hc=>?_,λc hc=>?_,rfl,?_,λc hc=>?_⟩
   .rcases aC.1 hc with rfl|hc
    .exact .inr ⟨_,aA⟩
    have:=av.1 hc;subst this;exact .inr ⟨_,aE _ aA⟩
   .rcases aC.1 hc with rfl|hc
    .trivial
    have:=av.1 hc;subst this;trivial
   .show w'.heap[(A.set b p' n' c' 0).b i]?=some (.cells #[.pointer (some ⟨(A.set b p' n' c' 0).b i,0,none⟩),(A.set b p' n' c' 0).v b] T (0,0));rw[hbj,JC];exact h1
   have hc:some ((A.set b p' n' c' 0).b i)=some c:=hc;cases hc;rw[hbj];exact⟨.inl hHj,(cI.1 h1).1⟩
  refine⟨tv,tv,rfl,?_,λc hc=>?_⟩
  .show w'.ownsRow 0 5 1 ((A.set i p' n' c' 0).v i) _ _;rw[JC];exact h2
  have hc:((A.set i p' n' c' 0).v i).ownBlock=some c:=hc;rw[JC] at hc;exact⟨(h5 c hc).imp (agO c) id,(h2.lt c hc).2⟩
 .rcases Wi hi with⟨rfl,rfl⟩|⟨rfl,rfl⟩<;>rcases Wi AJ with⟨rfl,rfl⟩|⟨rfl,rfl⟩
  .rfl
  .have k1:some ((A.set i' p' n' c' 0).b i)=some c:=k1;have k2:((A.set i' p' n' c' 0).v i').ownBlock=some c:=k2;cases k1;rw[JC,hbj] at k2;exact absurd k2 h3
  .have k1:((A.set i p' n' c' 0).v i).ownBlock=some c:=k1;have k2:some ((A.set i p' n' c' 0).b i')=some c:=k2;cases k2;rw[JC,hbj] at k1;exact absurd k1 h3
  rfl
 .rcases aC.1 hp with rfl|hp
  .have:=av.1 hc;subst this;trivial
  have:=av.1 hp;subst this;have:=av.1 hc;subst this;trivial
 rcases aC.1 hp with rfl|hp
 .have:=av.1 hc;subst this;trivial
 have:=av.1 hp;subst this;have:=av.1 hc;subst this;trivial
def wsT (T:ax)(b:Nat)(jL:List (Nat×Nat))(ys:List Sy):Tr Out:=match jL,ys with
 |[],[.one (.ptr j 0),.one (.v (.string t))]=>.res j λx=>match x with
  | .box T' [c0,c1]=>iX (aK T' T && (match c0 with| .v (.pointer none)=>true| .ptr i 0=>aK i j|_=>false)) (match c1 with
   | .v (.slice none 0 0)=>.ret ⟨[t.size<=1000000],[],Wh t,[(j,some (.box T [.ptr j 0,.own b])),(b,some (.ext (.sZ 5 t)))]⟩
   | .own k=>.res k λy=>match y with
    | .ext (.sZ e q)=>iX (aK e 5 && !Nat.beq k j) (.ret ⟨[q.size+t.size<=1000000],[],Wh t,[(j,some (.box T [.ptr j 0,.own b])),(b,some (.ext (.sZ 5 (q++t)))),(k,none)]⟩)
    |_=>.fail
   |_=>.fail)
  |_=>.fail
 |_,_=>.fail
theorem agP {T:ax}(hT:BdT T)(hTe:T≠5):xo aq 51 (wsT T):=by
 intro o n A S F s r a w b B jL ys out H hF QX wC h j4 td hB;unfold wsT at h;split at h
 .rename_i j t;obtain⟨x,hx,h⟩:=iQ h;split at h
  .rename_i T' c0 c1;obtain⟨hg,h⟩:=iD h;rw[aQ] at hg;have⟨g1,g2⟩:=hg;have g1:=jx g1;subst g1;have hp:c0.den A= .pointer none\/c0.den A= .pointer (some ⟨A.b j,0,none⟩):=by
    split at g2
    .exact .inl rfl
    .have:=jx g2;subst this;exact .inr rfl
    cases g2
   have hbF:(∀p∈out.re,p.1<B)->(b,some (R2.ext (.sZ 5 t)))∈out.re\/(∃z,(b,z)∈out.re)->¬F b:=λh1 h2=>by
    rcases h2 with h2|⟨z,h2⟩
    .exact hF b (ay _) (h1 _ h2)
    exact hF b (ay _) (h1 _ h2)
   split at h
   .have e:=iW h;subst e;have hb:=hbF hB (.inr ⟨_,aE _ aA⟩);have hl:t.size<=1000000:=j4 _ (av.2 rfl);have:=Pq hT hTe H hb hx hp (v:=.slice none 0 0) (q:=⟨#[]⟩) (t:=t) rfl (World.ownsRow_nil w 0 _ 1) (old:=[]) (.inl ⟨rfl,rfl⟩) (by show 0+t.size<=1000000;omega) [t.size<=1000000];rw[show(⟨#[]⟩:ByteArray)++t=t from by apply eE;rw[cR];simp] at this;exact this
   .rename_i k _;obtain⟨y,hy,h⟩:=iQ h;split at h
    .rename_i e q;obtain⟨hg,h2⟩:=iD h;clear h;rw[aQ,ali] at hg;have g3:=jx hg.1;subst g3;have g4:k≠j:=λe=>by rw[e] at hg;simp at hg
     have e:=iW h2;subst e;have hb:=hbF hB (.inr ⟨_,aE _ aA⟩);have hl:q.size+t.size<=1000000:=j4 _ (av.2 rfl);have ko:w.ownsRow 0 5 1 (A.v k) q.size (zL q):=H.jd.ok k _ (show iZ A r k=some _ by simp[iZ,hy];rfl);exact Pq hT hTe H hb hx hp (v:=A.v k) rfl ko (.inr ⟨k,rfl,hy,rfl,g4⟩) hl [q.size+t.size<=1000000]
    cases h
   cases h
  cases h
 cases h
def agQ:kG aq:=⟨_,_,agP ad4 (by decide)⟩
def agR (T:ax)(b:Nat)(jL:List (Nat×Nat))(ys:List Sy):Tr Out:=match jL,ys with
 |[],[.one (.ptr j 0)]=>.res j λx=>match x with
  | .box T' [c0,.own k]=>.res k λy=>match y with
   | .ext (.sZ e q)=>iX (aK e 5) (.ret ⟨[0<q.size/\q.size<=1000000],[],.one (.v (.string q)),[(k,none)]⟩)
   |_=>.fail
  |_=>.fail
 |_,_=>.fail
theorem ad7 {T:ax}:xo aq 31 (agR T):=by
 intro o n A S F s r a w b B jL ys out H hF QX wC h j4 td hB;unfold agR at h;split at h
 .rename_i j;obtain⟨x,hx,h⟩:=iQ h;split at h
  .rename_i T' c0 k;obtain⟨y,hy,h⟩:=iQ h;split at h
   .rename_i e q;obtain⟨hg,h2⟩:=iD h;clear h;have g3:=jx hg;subst g3;have e:=iW h2;subst e;obtain⟨h0,hl⟩:0<q.size/\q.size<=1000000:=j4 _ (av.2 rfl);have ko:w.ownsRow 0 5 1 (A.v k) q.size (zL q):=H.jd.ok k _ (show iZ A r k=some _ by simp[iZ,hy];rfl);have zE:w.heap[A.b j]?=some (.cells #[c0.den A,A.v k] T' (0,0)):=H.jd.ok j _ (show iZ A r j=some _ by simp[iZ,hx];rfl);refine(aax (A.b j) _ _ q w zE ko h0 hl).mono ?_;rintro e w' ⟨rfl,hc⟩;refine⟨_,rfl,A,S,H.swap (kD.refl _ _) (· =k) (λi hi=>⟨none,by rw[hi];exact av.2 rfl⟩) ⟨hc.os,hc.tape,hc.output,hc.size,λc hk hn=>hc.block c hk λe=>hn ⟨k,_,rfl,hy,e⟩⟩ (λ_ h=>h) (λ_ h=>.inl h) (λi z hi=>?_) (λi i' z z' c hi AJ k1 k2=>?_),rfl,tv,tv⟩
    .cases av.1 hi
    cases av.1 hi
   cases h
  cases h
 cases h
def LQ:kG aq:=⟨_,_,ad7 (T:=0)⟩
def iM (l:List ByteArray)(sep:ByteArray):ByteArray:=⟨(akL (l.map (·.data.toList)) sep.data.toList).toArray⟩
theorem Wj {S:iF}{w:aa}{v:af}{s:ByteArray}(h:Rd S w v s):v= .string s:=by
 obtain⟨cs,h,rfl⟩:=h;have h:cs=[.string s]:=h;subst h;rfl
theorem aay:jg aq 52 [(false,.list .str),(false,.str)] [.str] (λx=>(show List ByteArray from x.1).length<=1000000/\(iM (show List ByteArray from x.1) (show ByteArray from x.2.1)).size<=1000000) (λx=>(iM (show List ByteArray from x.1) (show ByteArray from x.2.1),())):=by
 intro o vs x hx hd
 match vs,x,hx,hd with
 |[v1,v2],((l:List ByteArray),(sep:ByteArray),_),hx,hd=>
  obtain⟨hl,hd⟩:l.length<=1000000/\(iM l sep).size<=1000000:=hd;have hz:(iM l sep).size=(akL (l.map (·.data.toList)) sep.data.toList).length:=by show Array.size _=_;simp[iM]
  have e:=Wj (s:=sep) hx.2.1;subst e;obtain⟨p,c,rfl,h1,h2,h3⟩:=jZ (show Rd (· <o.w.heap.size) o.w v1 l from hx.1);have goal:Calls aq 52 #[.slice p l.length c,.string sep] o.w (λe w'=>e= .returned (.string (iM l sep))/\Below o.w.heap.size o.w w'):=by
   rcases h3 with rfl|⟨g,off,cur,t,fz,rfl,hg,hw,hc⟩
   .exact(Tryz.strings_Join_none p c _ o.w).mono λe w' ⟨he,hw⟩=>⟨he,hw▸Below.refl _ _⟩
   refine Tryz.strings_Join g off c l _ o.w (λj y hy=>?_) hg (by omega) h1 (by omega);obtain⟨hj,rfl⟩:=b7.1 hy;obtain⟨cs,hr,hq⟩:=hc j hj;have hr:cs=[.string l[j]]:=hr;have:=hq 0 (show 0<1 by decide);rw[hr] at this;rw[cell_of_row o.w g _ cur t fz hw];have e:off+j*Data.size ByteArray+0=off+j:=by show off+j*1+0=_;omega
   rw[e] at this;rw[this];rfl
  exact goal.mono λe w' ⟨h1,h2⟩=>⟨_,h1,⟨[.string _],rfl,rfl⟩,h2⟩
def Pr:kG aq:=plain aay
end
end Go.Proofs.YtnfdimfepbbbpaaGreatDoor
