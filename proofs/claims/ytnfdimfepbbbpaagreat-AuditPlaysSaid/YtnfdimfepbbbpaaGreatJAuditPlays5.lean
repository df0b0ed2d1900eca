/-
  Texts joined by program: VZ, VZ2, VY, SetsU, WkS, WkU, WkQ, WkH, WkRa, WkC1, WkRb, WkVf, WkC2, Shelf, WkL, WkM, WkI, WkJ.
-/
import Derived.Test.YtnfdimfepbbbpaaGreatJAuditPlays4
import Derived.Test.YtnfdimfepbbbpaaGreatProg
import Derived.Tactics
import Derived.Tactics2
import Derived.Defers
import Derived.Recover
import Derived.Laws.Pointers
import Derived.Ground.Names2Prog
import Derived.Shelf.Slices.Clone
import Derived.Shelf.SlSortCmp.NoneTotal
import Derived.Shelf.SlicesG.Cmp
import Derived.Ground.SlsfProg
import Derived.Ground.SlgcProg
import Derived.WalkKit
import Derived.Deep.RegionWith
import Derived.Sort.OwnSortedInts
set_option linter.unusedSimpArgs false
set_option linter.unusedVariables false
set_option maxRecDepth 100000
set_option maxHeartbeats 8000000
namespace Go.Proofs.YtnfdimfepbbbpaaGreat
open Go.RowKit
inductive Cp where
 |int
 |bool
 |str
 |own (j:Nat)
 |mp (j:Nat)
 |ptr (j off:Nat)
 |nh (f:FuncId) (cF:List (Nat×Nat))
def Zz:Cp->Type
 | .int=>Int
 | .bool=>Bool
 | .str=>ByteArray
 |_=>Unit
def Cp.sc:(c:Cp)->Zz c->Sc
 | .int,n=>.v (.int .i64 n)
 | .bool,b=>.b (.raw b)
 | .str,s=>.v (.string s)
 | .own j,_=>.own j
 | .mp j,_=>.mp j
 | .ptr j off,_=>.ptr j off
 | .nh f cF,_=>.nh f cF
def Cp.below (k:Nat):Cp->Bool
 | .own j=>Nat.blt j k
 | .mp j=>Nat.blt j k
 | .ptr j _=>Nat.blt j k
 | .nh _ cF=>cF.all fun c=>Nat.blt c.1 k
 |_=>true
def zh:List Cp->Type
 |[]=>Unit
 |c::cs=>Zz c×zh cs
def gY:(cs:List Cp)->zh cs->List Sc
 |[],_=>[]
 |c::cs,x=>c.sc x.1::gY cs x.2
inductive Pc where
 |box (t:TypeId) (cs:List Cp)
 |row (e:TypeId) (t:Ty)
 |map (k:Kc) (t:Ty)
 |rd (t:Ty)
def Pc.R7:Pc->Bool
 | .rd _=>true
 |_=>false
def AJ (l:List Pc)(j:Nat):Bool:=match l[j]? with
 |some s=>s.R7
 |none=>false
def PcV:Pc->Type
 | .box _ cs=>zh cs
 | .row _ t=>List (El t)
 | .map k t=>bl k (El t)
 | .rd t=>List (El t)
def Pc.r2:(s:Pc)->PcV s->R2
 | .box t cs,x=>.box t (gY cs x)
 | .row e t,l=>.row e t l
 | .map k t,m=>.map k t m
 | .rd t,l=>.ar t l
def Pc.below (k:Nat):Pc->Bool
 | .box _ cs=>cs.all (Cp.below k)
 |_=>true
def vr:List Pc->Type
 |[]=>Unit
 |s::l=>PcV s×vr l
def gO:Nat->(l:List Pc)->vr l->List (Nat×Option R2)
 |_,[],_=>[]
 |i,s::l,x=>(i,some (s.r2 x.1))::gO (i+1) l x.2
structure ur where
 sh:List Pc
 ar:List Cp
 pz:List Pc
 rs:List Cp
 kp:Nat
def ur.X (m:ur):Type:=vr m.sh×zh m.ar
def ur.Y (m:ur):Type:=vr m.pz×zh m.rs
def bD.R8 (o:bD)(A:bF)(kp:Nat):bD:={o with pF:=fun j=>j<kp,pA:=A,kp:=kp}
def KO (o:bD)(A:bF)(m:ur)(y:m.Y)(e:Ending)(w':World):Prop:=
 ∃v,e= .returned v/\∃A' S',cV (· <m.kp) A A'/\fZ (o.R8 A m.kp) w' S' (bq A' (aT (fun _=>none) (gO 0 m.pz y.1)))/\v=F7 ((gY m.rs y.2).map (Sc.den A'))
def gQ (P:Program)(f:FuncId)(m:ur)(oQ:m.X->Prop)(fx:m.X->m.Y):Prop:=
 ∀(o:bD) (A:bF) (x:m.X),fZ (o.R8 A m.kp) o.w o.S (bq A (aT (fun _=>none) (gO 0 m.sh x.1)))->(∀j y,aT (fun _=>none) (gO 0 m.sh x.1) j=some y->su (o.R8 A m.kp) A j y)->oQ x->
  Calls P f ((gY m.ar x.2).map (Sc.den A)).toArray o.w (KO o A m (fx x))
section
variable {P:Program}{o:bD}{n:Nat}{A A':bF}{S S':aL}{F G:Nat->Prop}{s:Nat->Option E2}{r:Nat->Option R2}{a:Act}{w w':World}{T:List (cE P)}
theorem kN:∀ {l:List Pc} {i:Nat} {x:vr l} {j:Nat} {z:Option R2},(j,z)∈gO i l x->i<=j/\j<i+l.length
 |[],_,_,_,_,h=>by cases h
 |s::l,i,x,j,z,h=>by
  rcases List.mem_cons.1 h with e|h
  .cases e;simp
  have:=kN h
  simp only[List.length_cons];omega
theorem uu:∀ {l:List Pc} {i:Nat} {x:vr l} {j:Nat},i<=j->j<i+l.length->∃s v,s∈l/\(j,some (Pc.r2 s v))∈gO i l x
 |[],i,_,j,h1,h2=>by simp only[List.length_nil] at h2;omega
 |s::l,i,x,j,h1,h2=>by
  by_cases q:j=i
  .subst q;exact⟨s,x.1,List.mem_cons_self,List.mem_cons_self⟩
  simp only[List.length_cons] at h2
  obtain⟨s',v,k1,k2⟩:=uu (x:=x.2) (show i+1<=j by omega) (by omega)
  exact⟨s',v,List.mem_cons_of_mem _ k1,List.mem_cons_of_mem _ k2⟩
theorem ya:∀ {l:List Pc} {i:Nat} {x:vr l} {j:Nat} {z:Option R2},(j,z)∈gO i l x->∃s v,s∈l/\z=some (Pc.r2 s v)
 |[],_,_,_,_,h=>by cases h
 |s::l,i,x,j,z,h=>by
  rcases List.mem_cons.1 h with e|h
  .cases e;exact⟨s,x.1,List.mem_cons_self,rfl⟩
  obtain⟨s',v,k1,k2⟩:=ya h;exact⟨s',v,List.mem_cons_of_mem _ k1,k2⟩
theorem jl:∀ {re:List (Nat×Option R2)} {j:Nat} {x:R2},aT (fun _=>none) re j=some x->(j,some x)∈re:=by
 intro re
 induction re with
 |nil=>intro j x h;cases h
 |cons p re ih=>
  intro j x h
  have h:jw (aT (fun _=>none) re) p.1 p.2 j=some x:=h
  by_cases q:p.1=j
  .subst q;rw[dy] at h;rw[<-h];exact List.mem_cons_self
  rw[dR q] at h;exact List.mem_cons_of_mem _ (ih h)
theorem AK:∀ {l:List Pc} {i:Nat} {x:vr l} {j:Nat} {z:Option R2} {r0:Nat->Option R2},(j,z)∈gO i l x->aT r0 (gO i l x) j=z
 |[],_,_,_,_,_,h=>by cases h
 |s::l,i,x,j,z,r0,h=>by
  show jw (aT r0 (gO (i+1) l x.2)) i (some (s.r2 x.1)) j=z
  rcases List.mem_cons.1 h with e|h
  .cases e;rw[dy]
  have:=kN h
  rw[dR (by omega)]
  exact AK h
theorem mK {k:Nat}:∀ {cs:List Cp} {x:zh cs},cs.all (Cp.below k)=true->∀c∈gY cs x,c.all (· <k)/\∀A,c.b9 A
 |[],_,_,_,h=>by cases h
 |c::cs,x,h,d,hd=>by
  rw[List.all_cons,Bool.and_eq_true] at h
  rcases List.mem_cons.1 hd with rfl|hd
  .cases c with
   |nh f cF=>exact⟨fun c hc=>by have:=List.all_eq_true.1 h.1 c hc;simpa[Nat.blt_eq] using this,fun _=>trivial⟩
   |own j=>exact⟨by have:=h.1;show j<k;simpa[Cp.below,Nat.blt_eq] using this,fun _=>trivial⟩
   |mp j=>exact⟨by have:=h.1;show j<k;simpa[Cp.below,Nat.blt_eq] using this,fun _=>trivial⟩
   |ptr j off=>exact⟨by have:=h.1;show j<k;simpa[Cp.below,Nat.blt_eq] using this,fun _=>trivial⟩
   |_=>exact⟨tv,fun _=>trivial⟩
  exact mK h.2 d hd
theorem Pc.Oh {k:Nat}{s:Pc}{v:PcV s}(h:s.below k=true):(s.r2 v).all (· <k)/\(∀A,(s.r2 v).b9 A)/\jV (s.r2 v)=s.R7:=by
 cases s with
 |box t cs=>exact⟨fun c hc=>(mK h c hc).1,fun A c hc=>(mK h c hc).2 A,rfl⟩
 |row e t=>exact⟨tv,fun _=>trivial,rfl⟩
 |map k t=>exact⟨tv,fun _=>trivial,rfl⟩
 |rd t=>exact⟨tv,fun _=>trivial,rfl⟩
theorem fZ.gv {f:Nat->Option Rs}{kp:Nat}(h:fZ o w S f):fZ (o.R8 A kp) w S f:=⟨h.oK,h.src,h.ig,h.ok,h.own,h.apart⟩
theorem fZ.aa0 {f:Nat->Option Rs}{kp:Nat}(h:fZ (o.R8 A kp) w S f):fZ o w S f:=⟨h.oK,h.src,h.ig,h.ok,h.own,h.apart⟩
def stM (m:ur)(x:m.X):gH:=⟨qX 0 ((gY m.ar x.2).map Sy.one),gO 0 m.sh x.1,m.sh.length⟩
theorem ij {f:FuncId}(fn:Func)(n:Nat)(T:List (cE P))(m:ur){oQ:m.X->Prop}{fx:m.X->m.Y}(hf:P.funcs[f]?=some fn)
  (k:∀(o:bD) (A:bF) (x:m.X),oQ x->∀a w,iK (o.R8 A m.kp) n (stM m x) a w->At pl P T (fn.body.getD .skip) (bodyPost P fn (KO o A m (fx x))) [.run []] a w)
  (hb:fn.body.isSome=true:=by kernel_rfl) (hn:fn.ntmps=n:=by kernel_rfl) (hl:decide (m.ar.length<=n)=true:=by kernel_rfl)
  (hw:(decide (m.kp<=m.sh.length) && (m.ar.all (Cp.below m.sh.length) && m.sh.all (Pc.below m.sh.length)))=true:=by kernel_rfl):gQ P f m oQ fx:=by
 intro o A x aa1 ZA Bw
 simp only[Bool.and_eq_true,decide_eq_true_eq] at hw
 obtain⟨lU,QJ,Fj⟩:=hw
 have hlen:(gY m.ar x.2).length=m.ar.length:=by
  have:∀(cs:List Cp) (x:zh cs),(gY cs x).length=cs.length:=by
   intro cs
   induction cs with
   |nil=>intro _;rfl
   |cons c cs ih=>intro x;simp[gY,ih]
  exact this _ _
 refine enter fn n hf (fun a ha=>?_) hb hn (by rw[List.length_map,hlen];exact hl)
 have iP:∀t e,ni (stM m x) t=some e->e.ch=[]/\∃c,(gY m.ar x.2)[t]?=some c/\e=⟨[],.one c⟩:=fun t e he=>by
  obtain⟨_,y,q1,q2⟩:=j7 he
  have q1:((gY m.ar x.2).map Sy.one)[t-0]?=some y:=q1
  rw[List.getElem?_map,Nat.sub_zero] at q1
  obtain⟨c,hc,rfl⟩:=Option.map_eq_some_iff.1 q1
  exact⟨by rw[q2],c,hc,q2⟩
 have sJ:iK (o.R8 A m.kp) n (stM m x) a o.w:=by
  refine⟨⟨A,o.S,ha.1,ha.2.1,fun t e he=>?_,fun t e he _=>?_,fun j y hj=>?_,aa1,ZA,⟨fun j q=>Nat.lt_of_lt_of_le (show j<m.kp from q) lU,cV.refl _ _⟩⟩,fun t e he=>(iP t e he).1,fun _ q=>q⟩
  .obtain⟨_,c,q1,rfl⟩:=iP t e he
   have Km:=(List.getElem?_eq_some_iff.1 q1).1
   refine ha.2.2 ⟨t,[],c.den A⟩ (List.mem_map.2 ⟨(t,c.den A),?_,rfl⟩)
   refine List.mem_iff_getElem?.2 ⟨t,?_⟩
   rw[List.getElem?_zip_eq_some]
   exact⟨by simp[Km],by rw[List.getElem?_map,q1];rfl⟩
  .obtain⟨_,c,q1,rfl⟩:=iP t e he
   have:=mK QJ c (List.mem_of_getElem? q1)
   exact⟨this.1,this.2 A⟩
  have hm:=jl hj
  have hk:=kN hm
  obtain⟨s,v,q1,q2⟩:=ya hm
  cases q2
  have:=Pc.Oh (v:=v) (List.all_eq_true.1 Fj s q1)
  exact⟨by have:=hk.2;rwa[Nat.zero_add] at this,this.1,this.2.1 A⟩
 have:=(k o A x Bw a o.w sJ).get
 have this:(sub (fn.body.getD .skip) []).jK pl P (post pl P (fn.body.getD .skip) (bodyPost P fn (KO o A m (fx x))) []) a o.w:=this
 exact xq.1 this
def Oi:List ResultVar->List Sc->List (Nat×Option E2)
 | .tmp t::l,c::cs=>(t,some ⟨[],.one c⟩)::Oi l cs
 |_,_=>[]
def Is (fn:Func)(m:ur)(y:m.Y):gH:=⟨Oi fn.results.toList (gY m.rs y.2),gO 0 m.pz y.1,m.pz.length⟩
def R9 (s:Nat->Option E2):List ResultVar->Option (List Sc)
 |[]=>some []
 | .tmp t::l=>match s t with
  |some ⟨[],.one c⟩=>(R9 s l).map (c:: ·)
  |_=>none
 | .cell _ _::_=>none
theorem Ez (H:cz o n A S F s r a w):∀ {l:List ResultVar} {cs:List Sc},R9 s l=some cs->∀acc:Array Value,(iA a l acc).run P w= .ok (acc++(cs.map (Sc.den A)).toArray) w
 |[],cs,h,acc=>by cases h;simp[iA]
 | .tmp t::l,cs,h,acc=>by
  simp only[R9] at h
  split at h
  .rename_i c he
   obtain⟨sk,h1,rfl⟩:=Option.map_eq_some_iff.1 h
   have hv:=(H.env t _ he).1 (fun l hl=>by cases hl)
   have hv:a.tmps.getD t undef=c.den A:=by
    rw[Array.getD_eq_getD_getElem?,show a.tmps[t]?=some (c.den A) from hv];rfl
   rw[jy (v:=c.den A) (by simp only[rK,hv,Sem.run_pure]),Ez H h1]
   simp
  cases h
 | .cell _ _::_,_,h,_=>by cases h
theorem pE {mo:Mode}{fn:Func}{m:ur}{fx:m.Y}{B:Code}{st:List It}{σ:gH}(y:m.Y)(ρ:List (Nat×Option Nat))(h:iK (o.R8 A m.kp) n σ a w)(e:y=fx)(ht:DO B st=true:=by kernel_rfl)
  (h1:ey ρ σ (Is fn m y):=by delta ey;kernel_rfl) (h2:fU ρ σ (Is fn m y):=by delta fU;kernel_rfl) (h3:iO ρ (Is fn m y)=true:=by kernel_rfl) (h4:qI ρ m.kp=true:=by kernel_rfl)
  (h5:R9 (ni (Is fn m y)) fn.results.toList=some (gY m.rs y.2):=by kernel_rfl):At mo P T B (bodyPost P fn (KO o A m fx)) st a w:=by
 have hs:=tZ ρ h h1 h2 h3 h4
 obtain⟨⟨A',S',H⟩,h0,_⟩:=hs
 subst e
 have nt:=lF (Ez (P:=P) H h5)
 have ZB:KO o A m y (.returned (F7 ((gY m.rs y.2).map (Sc.den A')))) w:=⟨_,rfl,A',S',H.wO.2,H.bB,rfl⟩
 unfold DO at ht
 split at ht
 .rename_i p r
  refine⟨?_⟩
  show(sub B p).jK mo P (post mo P B _ r) a w
  have hc:sub B p= .ret:=by
   cases hc:sub B p<;>rw[hc] at ht<;>first|rfl|cases ht
  rw[hc]
  exact vO (kF (bodyPost_ret nt H.eY ZB))
 .exact⟨bodyPost_end nt H.eY ZB⟩
 cases ht
def Gz (ρ fK:List (Nat×Option Nat)):Prop:=∀j v,bM ρ j=some v->bM fK j=some v
theorem Gz.trans {a b c:List (Nat×Option Nat)}(h:Gz a b)(k:Gz b c):Gz a c:=fun j v q=>k j v (h j v q)
theorem Oj {ρ:List (Nat×Option Nat)}{j:Nat}{v:Option Nat}(h:bM ρ j=none):Gz ρ ((j,v)::ρ):=fun i u q=>by
 unfold bM
 cases hb:Nat.beq j i with
 |true=>have:=cr hb;subst this;rw[h] at q;cases q
 |false=>exact q
theorem mL (ρ:List (Nat×Option Nat))(j:Nat)(v:Option Nat):bM ((j,v)::ρ) j=some v:=by
 unfold bM;rw[Nat.beq_refl]
def yb {α:Type 1}(ρ:List (Nat×Option Nat))(j:Nat)(v:Option Nat)(k:List (Nat×Option Nat)->Tr α):Tr α:=match bM ρ j with
 |none=>k ((j,v)::ρ)
 |some _=>.fail
def Iu {α:Type 1}:List (Nat×Nat)->List (Nat×Nat)->List (Nat×Option Nat)->(List (Nat×Option Nat)->Tr α)->Tr α
 |[],[],ρ,k=>k ρ
 |c::l,d::l',ρ,k=>match Nat.beq c.2 d.2 with
  |true=>yb ρ c.1 (some d.1) fun ρ=>Iu l l' ρ k
  |false=>.fail
 |_,_,_,_=>.fail
def lV {α:Type 1}:(c:Cp)->Sc->List (Nat×Option Nat)->(Zz c->List (Nat×Option Nat)->Tr α)->Tr α
 | .int,d,ρ,k=>match d with
  | .v (.int .i64 n)=>k n ρ
  |_=>.fail
 | .bool,d,ρ,k=>match d with
  | .b e=>k e.den ρ
  |_=>.fail
 | .str,d,ρ,k=>match d with
  | .v (.string z)=>k z ρ
  |_=>.fail
 | .own j,d,ρ,k=>match d with
  | .own q=>yb ρ j (some q) (k ())
  | .v (.slice none 0 0)=>yb ρ j none (k ())
  |_=>.fail
 | .mp j,d,ρ,k=>match d with
  | .mp q=>yb ρ j (some q) (k ())
  |_=>.fail
 | .ptr j off,d,ρ,k=>match d with
  | .ptr q aa2=>match Nat.beq off aa2 with
   |true=>yb ρ j (some q) (k ())
   |false=>.fail
  |_=>.fail
 | .nh f cF,d,ρ,k=>match d with
  | .nh f' Up=>aZ (Nat.beq f f') (Iu cF Up ρ (k ()))
  |_=>.fail
def EA {α:Type 1}:(cs:List Cp)->List Sc->List (Nat×Option Nat)->(zh cs->List (Nat×Option Nat)->Tr α)->Tr α
 |[],[],ρ,k=>k () ρ
 |c::cs,d::l,ρ,k=>lV c d ρ fun v ρ=>EA cs l ρ fun x=>k (v,x)
 |_,_,_,_=>.fail
def ov {α:Type 1}:Nat->(sh:List Pc)->List (Nat×Option Nat)->(vr sh->List (Nat×Option Nat)->Tr α)->Tr α
 |_,[],ρ,k=>k () ρ
 |i,.box t cs::sh,ρ,k=>match bM ρ i with
  |some (some q)=>.res q fun z=>match z with
   | .box t' l=>aZ (Nat.beq t t') (EA cs l ρ fun x ρ=>ov (i+1) sh ρ fun xs=>k (x,xs))
   |_=>.fail
  |_=>.fail
 |i,.row e t::sh,ρ,k=>match bM ρ i with
  |some (some q)=>.res q fun z=>match z with
   | .row e' t' l=>match iw (t:=.list t') (s:=.list t) (show El (.list t') from l) with
    |some l'=>aZ (Nat.beq e e') (ov (i+1) sh ρ fun xs=>k (l',xs))
    |none=>.fail
   |_=>.fail
  |some none=>ov (i+1) sh ρ fun xs=>k ([],xs)
  |none=>.fail
 |i,.map kc t::sh,ρ,k=>match bM ρ i with
  |some (some q)=>.res q fun z=>match z with
   | .map kc' t' l=>match iw (t:=.map kc' t') (s:=.map kc t) (show El (.map kc' t') from l) with
    |some l'=>ov (i+1) sh ρ fun xs=>k (l',xs)
    |none=>.fail
   |_=>.fail
  |_=>.fail
 |i,.rd t::sh,ρ,k=>match bM ρ i with
  |some (some q)=>.res q fun z=>match gP z with
   |some ⟨t',l⟩=>match iw (t:=.list t') (s:=.list t) (show El (.list t') from l) with
    |some l'=>ov (i+1) sh ρ fun xs=>k (l',xs)
    |none=>.fail
   |none=>.fail
  |some none=>ov (i+1) sh ρ fun xs=>k ([],xs)
  |none=>.fail
theorem mM {α:Type 1}{ρ:List (Nat×Option Nat)}{j:Nat}{v:Option Nat}{k:List (Nat×Option Nat)->Tr α}{out:α}(h:(yb ρ j v k).run s r=some out):Gz ρ ((j,v)::ρ)/\(k ((j,v)::ρ)).run s r=some out:=by
 unfold yb at h
 split at h
 .rename_i hn;exact⟨Oj hn,h⟩
 cases h
theorem AL {α:Type 1}:∀ {l l':List (Nat×Nat)} {ρ:List (Nat×Option Nat)} {k:List (Nat×Option Nat)->Tr α} {out:α},(Iu l l' ρ k).run s r=some out->
  ∃fK,(k fK).run s r=some out/\Gz ρ fK/\∀A gR,Gz fK gR->(l.map fun c=>Value.pointer (some ⟨(dS A gR).b c.1,c.2,none⟩))=l'.map fun c=>Value.pointer (some ⟨A.b c.1,c.2,none⟩)
 |[],[],ρ,k,out,h=>⟨ρ,h,fun _ _ q=>q,fun _ _ _=>rfl⟩
 |c::l,d::l',ρ,k,out,h=>by
  simp only[Iu] at h
  split at h
  .rename_i e
   have e:=cr e
   obtain⟨q1,h2⟩:=mM h
   obtain⟨fK,h3,h4,h5⟩:=AL h2
   refine⟨fK,h3,q1.trans h4,fun A gR q=>?_⟩
   rw[List.map_cons,List.map_cons,h5 A gR q,(ez (A:=A) (q _ _ (h4 _ _ (mL _ _ _)))).2.1,e]
  cases h
 |[],_::_,_,_,_,h=>by cases h
 |_::_,[],_,_,_,h=>by cases h
theorem GC {α:Type 1}{c:Cp}{d:Sc}{ρ:List (Nat×Option Nat)}{k:Zz c->List (Nat×Option Nat)->Tr α}{out:α}(h:(lV c d ρ k).run s r=some out):
  ∃v fK,(k v fK).run s r=some out/\Gz ρ fK/\∀A gR,Gz fK gR->(c.sc v).den (dS A gR)=d.den A:=by
 cases c with
 |int=>
  simp only[lV] at h
  split at h
  .exact⟨_,ρ,h,fun _ _ q=>q,fun _ _ _=>rfl⟩
  cases h
 |bool=>
  simp only[lV] at h
  split at h
  .exact⟨_,ρ,h,fun _ _ q=>q,fun _ _ _=>rfl⟩
  cases h
 |str=>
  simp only[lV] at h
  split at h
  .exact⟨_,ρ,h,fun _ _ q=>q,fun _ _ _=>rfl⟩
  cases h
 |own j=>
  simp only[lV] at h
  split at h
  .obtain⟨q1,h2⟩:=mM h
   exact⟨(),_,h2,q1,fun A gR q=>(ez (A:=A) (q _ _ (mL _ _ _))).1⟩
  .obtain⟨q1,h2⟩:=mM h
   exact⟨(),_,h2,q1,fun A gR q=>xz (A:=A) (q _ _ (mL _ _ _))⟩
  cases h
 |mp j=>
  simp only[lV] at h
  split at h
  .obtain⟨q1,h2⟩:=mM h
   exact⟨(),_,h2,q1,fun A gR q=>by simp only[Cp.sc,Sc.den,(ez (A:=A) (q _ _ (mL _ _ _))).2.2.1]⟩
  cases h
 |ptr j off=>
  simp only[lV] at h
  split at h
  .split at h
   .rename_i e
    have e:=cr e
    subst e
    obtain⟨q1,h2⟩:=mM h
    exact⟨(),_,h2,q1,fun A gR q=>by simp only[Cp.sc,Sc.den,(ez (A:=A) (q _ _ (mL _ _ _))).2.1]⟩
   cases h
  cases h
 |nh f cF=>
  simp only[lV] at h
  split at h
  .obtain⟨e,h1⟩:=an h
   have e:=cr e
   subst e
   obtain⟨fK,h2,h3,h4⟩:=AL h1
   exact⟨(),fK,h2,h3,fun A gR q=>by simp only[Cp.sc,Sc.den,h4 A gR q]⟩
  cases h
theorem AM {α:Type 1}:∀(cs:List Cp) (l:List Sc) (ρ:List (Nat×Option Nat)) (k:zh cs->List (Nat×Option Nat)->Tr α) {out:α},(EA cs l ρ k).run s r=some out->
  ∃x fK,(k x fK).run s r=some out/\Gz ρ fK/\∀A gR,Gz fK gR->(gY cs x).map (Sc.den (dS A gR))=l.map (Sc.den A):=by
 intro cs
 induction cs with
 |nil=>
  intro l ρ k out h
  cases l with
  |nil=>exact⟨(),ρ,h,fun _ _ q=>q,fun _ _ _=>rfl⟩
  |cons _ _=>cases h
 |cons c cs ih=>
  intro l ρ k out h
  cases l with
  |nil=>cases h
  |cons d l=>
   obtain⟨v,ρ1,h1,h2,h3⟩:=GC (show(lV c d ρ fun v ρ=>EA cs l ρ fun x=>k (v,x)).run s r=some out from h)
   obtain⟨x,fK,h4,h5,h6⟩:=ih _ _ _ h1
   exact⟨(v,x),fK,h4,h2.trans h5,fun A gR q=>by simp only[gY,List.map_cons,h6 A gR q,h3 A gR (h5.trans q)]⟩
def Sa (r:Nat->Option R2)(fK:List (Nat×Option Nat))(j:Nat)(z:R2):Prop:=∀A gR,Gz fK gR->
 (jV z=false/\((∃q y,bM gR j=some (some q)/\r q=some y/\z.den (dS A gR) j=y.den A q)\/(bM gR j=some none/\∃e t,z= .row e t ([]:List (El t)))))\/
  ∃(t:Ty) (l:List (El t)),z= .ar t l/\((∃q y,bM gR j=some (some q)/\r q=some y/\gP y=some ⟨t,l⟩)\/(bM gR j=some none/\l=[]))
theorem KP {α:Type 1}:∀(sh:List Pc) (i:Nat) (ρ:List (Nat×Option Nat)) (k:vr sh->List (Nat×Option Nat)->Tr α) {out:α},(ov i sh ρ k).run s r=some out->
  ∃xs fK,(k xs fK).run s r=some out/\Gz ρ fK/\∀j z,(j,some z)∈gO i sh xs->Sa r fK j z:=by
 intro sh
 induction sh with
 |nil=>intro i ρ k out h;exact⟨(),ρ,h,fun _ _ q=>q,fun _ _ q=>by cases q⟩
 |cons sp sh ih=>
  intro i ρ k out h
  cases sp with
  |box t cs=>
   simp only[ov] at h
   split at h
   .rename_i q hq
    obtain⟨y,hy,h⟩:=aY h
    split at h
    .rename_i t' l
     obtain⟨e,h0⟩:=an h
     clear h
     have e:=cr e
     subst e
     obtain⟨x,ρ1,h1,h2,h3⟩:=AM _ _ _ _ h0
     obtain⟨xs,fK,h4,h5,h6⟩:=ih _ _ _ h1
     refine⟨(x,xs),fK,h4,h2.trans h5,fun j z hj=>?_⟩
     rcases List.mem_cons.1 hj with e|hj
     .cases e
      refine fun A gR hle=>.inl ⟨rfl,.inl ⟨q,_,hle _ _ (h5 _ _ (h2 _ _ hq)),hy,?_⟩⟩
      simp only[Pc.r2,R2.den,h3 A gR (h5.trans hle),(ez (A:=A) (hle _ _ (h5 _ _ (h2 _ _ hq)))).2.1]
     exact h6 j z hj
    cases h
   cases h
  |row e t=>
   simp only[ov] at h
   split at h
   .rename_i q hq
    obtain⟨y,hy,h⟩:=aY h
    split at h
    .rename_i e' t' l
     split at h
     .rename_i l' hl
      obtain⟨ee,rfl⟩:=dZ hl
      cases ee
      obtain⟨e,h0⟩:=an h
      clear h
      have e:=cr e
      subst e
      obtain⟨xs,fK,h4,h5,h6⟩:=ih _ _ _ h0
      refine⟨(_,xs),fK,h4,h5,fun j z hj=>?_⟩
      rcases List.mem_cons.1 hj with e|hj
      .cases e
       refine fun A gR hle=>.inl ⟨rfl,.inl ⟨q,_,hle _ _ (h5 _ _ hq),hy,?_⟩⟩
       simp only[Pc.r2,R2.den,(ez (A:=A) (hle _ _ (h5 _ _ hq))).1]
      exact h6 j z hj
     cases h
    cases h
   .rename_i hq
    obtain⟨xs,fK,h4,h5,h6⟩:=ih _ _ _ h
    refine⟨(_,xs),fK,h4,h5,fun j z hj=>?_⟩
    rcases List.mem_cons.1 hj with e|hj
    .cases e
     exact fun A gR hle=>.inl ⟨rfl,.inr ⟨hle _ _ (h5 _ _ hq),_,_,rfl⟩⟩
    exact h6 j z hj
   cases h
  |map kc t=>
   simp only[ov] at h
   split at h
   .rename_i q hq
    obtain⟨y,hy,h⟩:=aY h
    split at h
    .rename_i kc' t' l
     split at h
     .rename_i l' hl
      obtain⟨ee,rfl⟩:=dZ hl
      cases ee
      obtain⟨xs,fK,h4,h5,h6⟩:=ih _ _ _ h
      refine⟨(_,xs),fK,h4,h5,fun j z hj=>?_⟩
      rcases List.mem_cons.1 hj with e|hj
      .cases e
       refine fun A gR hle=>.inl ⟨rfl,.inl ⟨q,_,hle _ _ (h5 _ _ hq),hy,?_⟩⟩
       simp only[Pc.r2,R2.den,(ez (A:=A) (hle _ _ (h5 _ _ hq))).2.2.1]
      exact h6 j z hj
     cases h
    cases h
   cases h
  |rd t=>
   simp only[ov] at h
   split at h
   .rename_i q hq
    obtain⟨y,hy,h⟩:=aY h
    split at h
    .rename_i t' l we
     split at h
     .rename_i l' hl
      obtain⟨ee,rfl⟩:=dZ hl
      cases ee
      obtain⟨xs,fK,h4,h5,h6⟩:=ih _ _ _ h
      refine⟨(_,xs),fK,h4,h5,fun j z hj=>?_⟩
      rcases List.mem_cons.1 hj with e|hj
      .cases e
       exact fun A gR hle=>.inr ⟨_,_,rfl,.inl ⟨q,y,hle _ _ (h5 _ _ hq),hy,we⟩⟩
      exact h6 j z hj
     cases h
    cases h
   .rename_i hq
    obtain⟨xs,fK,h4,h5,h6⟩:=ih _ _ _ h
    refine⟨(_,xs),fK,h4,h5,fun j z hj=>?_⟩
    rcases List.mem_cons.1 hj with e|hj
    .cases e
     exact fun A gR hle=>.inr ⟨_,_,rfl,.inr ⟨hle _ _ (h5 _ _ hq),rfl⟩⟩
    exact h6 j z hj
   cases h
end
def EB (kp:Nat)(ρ:List (Nat×Option Nat))(b i:Nat):Option Nat:=match Nat.blt i kp with
 |true=>match bM ρ i with
  |some v=>v
  |none=>none
 |false=>some (b+i)
def EC (g:Nat->Option Nat):Nat->List (Nat×Option Nat)
 |0=>[]
 |k+1=>(k,g k)::EC g k
def Yc (τ:List (Nat×Option Nat)):List (Nat×Option R2)->Option (List (Nat×Option R2))
 |[]=>some []
 |(i,some x)::l=>match bM τ i,x.rn τ,Yc τ l with
  |some (some k),some t,some l'=>some ((k,some t)::l')
  |_,_,_=>none
 |(_,none)::_=>none
def ZC (sh:List Pc)(l:List (Nat×Option R2)):List (Nat×Option R2):=l.filter fun p=>!AJ sh p.1
def yc (sh:List Pc)(ρ:List (Nat×Option Nat)):List Nat:=(ρ.filter fun p=>!AJ sh p.1).filterMap (·.2)
def ZD:Sy->Bool
 | .one _=>true
 |_=>false
def ZE (m:ur)(ρ:List (Nat×Option Nat))(ys:List Sy):Bool:=
 ys.all ZD && ((ρ.all fun p=>ρ.all fun q=>Nat.beq p.1 q.1||(match p.2,q.2 with|some a,some b=>!Nat.beq a b|_,_=>true)) && (decide (m.kp<=m.sh.length) && (m.pz.all (Pc.below m.pz.length) && (m.rs.all (Cp.below m.pz.length) && (((List.range m.kp).all fun i=>match bM ρ i with|some (some _)=>true|_=>false) && (List.range m.pz.length).all fun i=>!AJ m.pz i||(Nat.blt i m.kp && AJ m.sh i))))))
def V1 (m:ur)(oQ:m.X->Prop)(fx:m.X->m.Y)(b:Nat)(cF:List (Nat×Nat))(ys:List Sy):Tr Out:=
 EA m.ar ((ys++cF.map fun c=>Sy.one (.ptr c.1 c.2)).flatMap aJ) [] fun xa ρ=>ov 0 m.sh ρ fun xs fK=>
  match Yc (EC (EB m.kp fK b) m.pz.length) (ZC m.pz (gO 0 m.pz (fx (xs,xa)).1)),Ry (EC (EB m.kp fK b) m.pz.length) (gY m.rs (fx (xs,xa)).2) with
  |some re,some cs=>aZ (ZE m fK (ys++cF.map fun c=>Sy.one (.ptr c.1 c.2))) (.ret ⟨[oQ (xs,xa)],[],uW (cs.map Sy.one),re++(yc m.sh fK).map fun q=>(q,none)⟩)
  |_,_=>.fail
def mN (A B:bF)(b k l:Nat):bF:=
 ⟨fun j=>if b+k<=j/\j<b+l then B.p (j-b) else A.p j,fun j=>if b+k<=j/\j<b+l then B.n (j-b) else A.n j,fun j=>if b+k<=j/\j<b+l then B.c (j-b) else A.c j,fun j=>if b+k<=j/\j<b+l then B.b (j-b) else A.b j,fun j=>if b+k<=j/\j<b+l then B.f (j-b) else A.f j,fun j=>if b+k<=j/\j<b+l then B.m (j-b) else A.m j⟩
section
variable {P:Program}{o:bD}{n:Nat}{A A':bF}{S S':aL}{F G:Nat->Prop}{s:Nat->Option E2}{r:Nat->Option R2}{a:Act}{w w':World}{T:List (cE P)}
theorem Iv {g:Nat->Option Nat}:∀ {l i:Nat},i<l->bM (EC g l) i=some (g i)
 |0,i,h=>by omega
 |l+1,i,h=>by
  unfold EC bM
  cases hb:Nat.beq l i with
  |true=>have:=cr hb;subst this;rfl
  |false=>exact Iv (by have:=Uf hb;omega)
theorem Iw {g:Nat->Option Nat}:∀ {l i:Nat} {v:Option Nat},bM (EC g l) i=some v->i<l
 |0,i,v,h=>by cases h
 |l+1,i,v,h=>by
  unfold EC bM at h
  cases hb:Nat.beq l i with
  |true=>have:=cr hb;omega
  |false=>rw[hb] at h;have:=Iw h;omega
theorem Ol {τ:List (Nat×Option Nat)}:∀ {l re:List (Nat×Option R2)},Yc τ l=some re->∀i z,(i,z)∈l->∃k x t,z=some x/\bM τ i=some (some k)/\x.rn τ=some t/\(k,some t)∈re
 |[],re,h,i,z,hz=>by cases hz
 |(i0,some x)::l,re,h,i,z,hz=>by
  simp only[Yc] at h
  split at h
  .rename_i k t l' h1 h2 h3
   cases h
   rcases List.mem_cons.1 hz with e|hz
   .cases e;exact⟨k,x,t,rfl,h1,h2,List.mem_cons_self⟩
   obtain⟨k',x',t',q1,q2,q3,q4⟩:=Ol h3 i z hz
   exact⟨k',x',t',q1,q2,q3,List.mem_cons_of_mem _ q4⟩
  cases h
 |(i0,none)::l,re,h,i,z,hz=>by cases h
theorem Om {τ:List (Nat×Option Nat)}:∀ {l re:List (Nat×Option R2)},Yc τ l=some re->∀k z,(k,z)∈re->∃i x t,(i,some x)∈l/\bM τ i=some (some k)/\x.rn τ=some t/\z=some t
 |[],re,h,k,z,hz=>by cases h;cases hz
 |(i0,some x)::l,re,h,k,z,hz=>by
  simp only[Yc] at h
  split at h
  .rename_i k0 t l' h1 h2 h3
   cases h
   rcases List.mem_cons.1 hz with e|hz
   .cases e;exact⟨i0,x,t,List.mem_cons_self,h1,h2,rfl⟩
   obtain⟨i',x',t',q1,q2,q3,q4⟩:=Om h3 k z hz
   exact⟨i',x',t',List.mem_cons_of_mem _ q1,q2,q3,q4⟩
  cases h
 |(i0,none)::l,re,h,k,z,hz=>by cases h
theorem AN {τ:List (Nat×Option Nat)}:∀ {cF cs:List (Nat×Nat)},Sc.rn.rI τ cF=some cs->∀c∈cs,∃j,bM τ j=some (some c.1)
 |[],cs,h,c,hc=>by cases h;cases hc
 |d::cF,cs,h,c,hc=>by
  simp only[Sc.rn.rI] at h
  split at h
  .rename_i k l h1 h2
   cases h
   rcases List.mem_cons.1 hc with rfl|hc
   .exact⟨_,h1⟩
   exact AN h2 c hc
  cases h
theorem ZF {τ:List (Nat×Option Nat)}{c:Cp}{v:Zz c}{d:Sc}(h:(c.sc v).rn τ=some d)(hG:∀j k,bM τ j=some (some k)->G k):d.all G/\∀A,d.b9 A:=by
 cases c with
 |int=>cases h;exact⟨tv,fun _=>trivial⟩
 |bool=>cases h;exact⟨tv,fun _=>trivial⟩
 |str=>cases h;exact⟨tv,fun _=>trivial⟩
 |nh f cF=>
  have h:(Sc.rn.rI τ cF).map (.nh f)=some d:=h
  obtain⟨cs,h1,rfl⟩:=Option.map_eq_some_iff.1 h
  exact⟨fun c hc=>by obtain⟨j,hj⟩:=AN h1 c hc;exact hG j _ hj,fun _=>trivial⟩
 |own j=>
  simp only[Cp.sc,Sc.rn] at h
  split at h
  .rename_i k hk;cases h;exact⟨hG j k hk,fun _=>trivial⟩
  .cases h;exact⟨tv,fun _=>trivial⟩
  cases h
 |mp j=>
  simp only[Cp.sc,Sc.rn] at h
  split at h
  .rename_i k hk;cases h;exact⟨hG j k hk,fun _=>trivial⟩
  .cases h;exact⟨tv,fun _=>trivial⟩
  cases h
 |ptr j off=>
  simp only[Cp.sc,Sc.rn] at h
  split at h
  .rename_i k hk;cases h;exact⟨hG j k hk,fun _=>trivial⟩
  cases h
theorem GD {τ:List (Nat×Option Nat)}(hG:∀j k,bM τ j=some (some k)->G k):∀ {cs:List Cp} {x:zh cs} {ds:List Sc},Ry τ (gY cs x)=some ds->∀d∈ds,d.all G/\∀A,d.b9 A
 |[],x,ds,h,d,hd=>by cases h;cases hd
 |c::cs,x,ds,h,d,hd=>by
  simp only[gY,Ry] at h
  split at h
  .rename_i c' l' h1 h2
   cases h
   rcases List.mem_cons.1 hd with rfl|hd
   .exact ZF h1 hG
   exact GD hG h2 d hd
  cases h
theorem ZG {τ:List (Nat×Option Nat)}(hG:∀j k,bM τ j=some (some k)->G k){p:Pc}{v:PcV p}{i k:Nat}{z:R2}(h:(p.r2 v).rn τ=some z)(hk:bM τ i=some (some k))(gz:p.R7=false)(A:bF):
  z.den A k=(p.r2 v).den (dS A τ) i/\z.all G/\z.b9 A/\jV z=false:=by
 obtain⟨e1,e2,e3,_⟩:=ez (A:=A) hk
 cases p with
 |box t cs=>
  have h:(Ry τ (gY cs v)).map (R2.box t)=some z:=h
  obtain⟨ds,h1,rfl⟩:=Option.map_eq_some_iff.1 h
  have h2:=GD hG h1
  refine⟨?_,fun c hc=>(h2 c hc).1,fun c hc=>(h2 c hc).2 A,rfl⟩
  simp only[Pc.r2,R2.den,e2,(xA (A:=A) h1).1]
 |row e t=>
  have h:some (R2.row e t v)=some z:=h
  cases h
  exact⟨by simp only[Pc.r2,R2.den,e1],tv,tv,rfl⟩
 |map kc t=>
  have h:some (R2.map kc t v)=some z:=h
  cases h
  exact⟨by simp only[Pc.r2,R2.den,e3],tv,tv,rfl⟩
 |rd t=>cases gz
theorem AO:∀ {l:List Pc} {i:Nat} {x:vr l} {j:Nat} {z:R2},(j,some z)∈gO i l x->∃s,l[j-i]?=some s/\∃v,z=Pc.r2 s v
 |[],_,_,_,_,h=>by cases h
 |s::l,i,x,j,z,h=>by
  rcases List.mem_cons.1 h with e|h
  .cases e;exact⟨s,by rw[Nat.sub_self];rfl,x.1,rfl⟩
  have hk:=kN h
  obtain⟨s',h1,h2⟩:=AO h
  exact⟨s',by rw[show j-i=(j-(i+1))+1 by omega];exact h1,h2⟩
theorem yd {l:List Pc}{x:vr l}{j:Nat}{z:R2}(h:(j,some z)∈gO 0 l x):AJ l j=jV z:=by
 obtain⟨s,h1,v,rfl⟩:=AO h
 unfold AJ
 rw[show l[j]?=some s from h1]
 cases s<;>rfl
theorem GF (H:cz o n A S F s r a w){j:Nat}{x:R2}(hj:r j=some x){t:Ty}{l:List (El t)}(hx:gP x=some ⟨t,l⟩){K:Nat->Prop}(hK:¬K j):Rd (fun k=>k<w.heap.size/\¬gC A r K k) w (A.v j) l:=by
 have hm:bq A r j=some (x.den A j):=by simp[bq,hj]
 cases x with
 |ro t' l'=>cases hx;exact Rd.up (fun k hk=>⟨H.bB.ig k hk,fun q=>(H.kA q).2.2 hk⟩) (H.bB.ok j _ hm)
 |ar t' l'=>
  cases hx
  refine(Rd.keep H.bB.old (H.args j _ hj)).up fun k hk=>⟨Nat.lt_of_lt_of_le hk.1 H.bB.oK.size,fun q=>?_⟩
  rcases(H.kA q).1 with z|z
  .have:=hk.1;omega
  exact hk.2 z
 |row e t' l'=>
  cases hx
  refine(di.rd (H.bB.ok j _ hm)).up fun k hk=>?_
  rcases hk with hk|hk
  .exact⟨H.bB.ig k hk,fun q=>(H.kA q).2.2 hk⟩
  refine⟨(H.bB.own j _ k hm hk).2.1,fun⟨i,y,q1,q2,q3⟩=>?_⟩
  have Vy:bq A r i=some (y.den A i):=by simp[bq,q2]
  have:=H.bB.apart j i _ _ k hm Vy hk q3
  subst this
  exact hK q1
 |ext y=>
  cases y with
  |vw q lo e t' l'=>
   cases hx
   have eE:di S w e (A.v q) l'/\lN (A.v j) (A.v q) lo (Data.size (El t)):=H.bB.ok j _ hm
   refine(sr eE.1 eE.2).1.up fun k hk=>?_
   rcases hk with hk|hk
   .exact⟨H.bB.ig k hk,fun q=>(H.kA q).2.2 hk⟩
   refine⟨(H.bB.own j _ k hm hk).2.1,fun⟨i,y,q1,q2,q3⟩=>?_⟩
   have Vy:bq A r i=some (y.den A i):=by simp[bq,q2]
   have:=H.bB.apart j i _ _ k hm Vy hk q3
   subst this
   exact hK q1
  |_=>cases hx
 |_=>cases hx
theorem Sb {A B:bF}{b k l i:Nat}(h1:k<=i)(h2:i<l):(mN A B b k l).v (b+i)=B.v i/\(mN A B b k l).b (b+i)=B.b i/\(mN A B b k l).f (b+i)=B.f i/\(mN A B b k l).m (b+i)=B.m i:=by
 have q:b+k<=b+i/\b+i<b+l:=⟨by omega,by omega⟩
 have e:b+i-b=i:=by omega
 unfold mN bF.v
 simp only[if_pos q,e]
 exact⟨tv,tv,tv,tv⟩
theorem Sd {A B:bF}{b k l j:Nat}(h:¬(b+k<=j/\j<b+l)):A.v j=(mN A B b k l).v j/\A.b j=(mN A B b k l).b j/\A.f j=(mN A B b k l).f j/\A.m j=(mN A B b k l).m j:=by
 unfold mN bF.v
 simp only[if_neg h]
 exact⟨tv,tv,tv,tv⟩
theorem ED:∀ {ys:List Sy},ys.all ZD=true->ys.map (Sy.den A)=(ys.flatMap aJ).map (Sc.den A)
 |[],_=>rfl
 |y::ys,h=>by
  rw[List.all_cons,Bool.and_eq_true] at h
  cases y with
  |one c=>rw[List.flatMap_cons,List.map_cons,ED h.2];rfl
  |agg _=>cases h.1
  |lY _=>cases h.1
theorem Se {f:FuncId}{m:ur}{oQ:m.X->Prop}{fx:m.X->m.Y}(ok:gQ P f m oQ fx):Dm P f (V1 m oQ fx):=by
 intro o n A S F s r a w b B cF ys out H hF XS _ h cH _ hB
 unfold V1 at h
 have XU:ys.map (Sy.den A)++cF.map (fun c=>Value.pointer (some ⟨A.b c.1,c.2,none⟩))=(ys++cF.map fun c=>Sy.one (.ptr c.1 c.2)).map (Sy.den A):=by
  rw[List.map_append,List.map_map];rfl
 generalize (ys++cF.map fun c=>Sy.one (.ptr c.1 c.2))=zs at*
 obtain⟨xa,ρ,h1,_,hC⟩:=AM _ _ _ _ h
 clear h
 obtain⟨xs,fK,h2,hle,hP⟩:=KP _ _ _ _ h1
 clear h1
 split at h2
 .rename_i re cs yY ZH
  obtain⟨hg,h3⟩:=an h2
  clear h2
  have e:=aW h3
  subst e
  clear h3
  unfold ZE at hg
  simp only[Bool.and_eq_true,decide_eq_true_eq] at hg
  obtain⟨g1,g2,g3,g4,g5,g6,g7⟩:=hg
  have aa3:∀i,AJ m.pz i=true->i<m.kp/\AJ m.sh i=true:=fun i hi=>by
   have hl:i<m.pz.length:=by
    unfold AJ at hi
    split at hi
    .rename_i sp zJ;exact(List.getElem?_eq_some_iff.1 zJ).1
    cases hi
   have:=List.all_eq_true.1 g7 i (List.mem_range.2 hl)
   rw[hi] at this
   simp only[Bool.not_true,Bool.false_or,Bool.and_eq_true,Nat.blt_eq] at this
   exact this
  have Bw:oQ (xs,xa):=cH _ (List.mem_singleton.2 rfl)
  generalize hy:fx (xs,xa)=y at*
  generalize hτ:EC (EB m.kp fK b) m.pz.length=τ at*
  have refl:Gz fK fK:=fun _ _ q=>q
  have dX:∀j rr,bq (dS A fK) (aT (fun _=>none) (gO 0 m.sh xs)) j=some rr->(∃q z,bM fK j=some (some q)/\AJ m.sh j=false/\r q=some z/\bq A r q=some rr/\rr=z.den A q)\/((∀c,¬rr.has c)/\rr.ok S w):=fun j rr hj=>by
   obtain⟨z,hz,rfl⟩:=Option.map_eq_some_iff.1 hj
   have Sf:=yd (jl hz)
   rcases hP j z (jl hz) A fK refl with⟨k0,⟨q,t,k1,k2,k3⟩|⟨k1,e,t,rfl⟩⟩|⟨t,l,rfl,_⟩
   .exact .inl ⟨q,t,k1,Sf.trans k0,k2,by show(r q).map _=_;rw[k2,k3];rfl,k3⟩
   .have ev:=xz (A:=A) k1
    refine .inr ⟨fun c q=>?_,?_⟩
    .have q:((dS A fK).v j).ownBlock=some c:=q
     rw[ev] at q;cases q
    show di S w e ((dS A fK).v j) ([]:List (El t))
    rw[ev];exact di.nil
   exact .inr ⟨fun c q=>q,tv⟩
  have MV:∀ {i j q:Nat},bM fK i=some (some q)->bM fK j=some (some q)->i=j:=fun {i j q} hi hj=>by
   have:=List.all_eq_true.1 (List.all_eq_true.1 g2 _ (mz hi)) _ (mz hj)
   rw[Bool.or_eq_true] at this
   rcases this with k|k
   .exact cr k
   simp at k
  have hK:∀ {q:Nat},(∃j,(j,some q)∈fK/\AJ m.sh j=false)->∃x,(q,x)∈re++(yc m.sh fK).map fun q=>(q,(none:Option R2)):=fun {q} ⟨j,hj,hjr⟩=>
   ⟨none,List.mem_append_right _ (List.mem_map.2 ⟨q,List.mem_filterMap.2 ⟨_,List.mem_filter.2 ⟨hj,by rw[hjr];rfl⟩,rfl⟩,rfl⟩)⟩
  have o2c:∃o2:bD,o2.w=w/\o2.S=S/\o2.G=gC A r (fun q=> ∃j,(j,some q)∈fK/\AJ m.sh j=false):=⟨⟨⟨w,S,H.bB.ig⟩,gC A r (fun q=> ∃j,(j,some q)∈fK/\AJ m.sh j=false),fun k hk=>(H.kA hk).2.2,fun k hk=>(H.kA hk).2.1,fun _=>False,L3,0⟩,rfl,rfl,rfl⟩
  obtain⟨o2,Fj,ZI,ZJ⟩:=o2c
  have gp:fZ o2 w S (bq (dS A fK) (aT (fun _=>none) (gO 0 m.sh xs))):=by
   refine⟨by rw[Fj];exact jH.refl _ _,fun k hk=>.inl (by rw[ZI];exact hk),H.bB.ig,fun j rr hj=>?_,fun j rr c hj hc=>?_,fun i j ri rj c hi hj ei ej=>?_⟩
   .rcases dX j rr hj with⟨q,z,k1,_,k2,k3,k4⟩|⟨_,k2⟩
    .exact H.bB.ok q rr k3
    exact k2
   .rcases dX j rr hj with⟨q,z,k1,k0,k2,k3,k4⟩|⟨k1,_⟩
    .have:=H.bB.own q rr c k3 hc
     refine⟨.inr ?_,this.2⟩
     rw[ZJ]
     exact⟨q,z,⟨j,mz k1,k0⟩,k2,by rw[<-k4];exact hc⟩
    exact(k1 c hc).elim
   rcases dX i ri hi with⟨q,z,k1,_,k2,k3,k4⟩|⟨k1,_⟩
   .rcases dX j rj hj with⟨q',z',l1,_,l2,l3,l4⟩|⟨l1,_⟩
    .have:=H.bB.apart q q' ri rj c k3 l3 ei ej
     subst this
     exact MV k1 l1
    exact(l1 c ej).elim
   exact(k1 c ei).elim
  have dB:(ys.map (Sy.den A)++cF.map fun c=>Value.pointer (some ⟨A.b c.1,c.2,none⟩))=(gY m.ar xa).map (Sc.den (dS A fK)):=by
   rw[XU,hC A fK hle,ED g1]
  rw[dB]
  have ZA:∀j y,aT (fun _=>none) (gO 0 m.sh xs) j=some y->su (o2.R8 (dS A fK) m.kp) (dS A fK) j y:=fun j y hy=>by
   have Sf:=yd (jl hy)
   rcases hP j y (jl hy) A fK refl with⟨k0,_⟩|⟨t,l,rfl,⟨q,z,k1,k2,k3⟩|⟨k1,rfl⟩⟩
   .exact gB k0
   .have hnK:¬(fun q=> ∃j,(j,some q)∈fK/\AJ m.sh j=false) q:=fun⟨j',m1,m2⟩=>by
     have:=List.all_eq_true.1 (List.all_eq_true.1 g2 _ m1) _ (mz k1)
     rw[Bool.or_eq_true] at this
     rcases this with e|e
     .have e:=cr e
      dsimp only at e
      rw[e,Sf] at m2;cases m2
     simp at e
    have gz:=GF (K:=fun q=> ∃j,(j,some q)∈fK/\AJ m.sh j=false) H k2 k3 hnK
    show Rd o2.old o2.w ((dS A fK).v j) l
    rw[(ez (A:=A) k1).1]
    unfold bD.old
    rw[ZJ,Fj]
    exact gz
   show Rd o2.old o2.w ((dS A fK).v j) ([]:List (El t))
   rw[xz (A:=A) k1]
   exact Fu
  have zC:=ok o2 (dS A fK) (xs,xa) (by rw[Fj,ZI];exact gp.gv) ZA Bw
  rw[Fj] at zC
  refine zC.mono fun e w' ⟨v,he,A2,S2,hA2,F2',hv⟩=>⟨v,he,?_⟩
  have F2:=F2'.aa0
  rw[hy] at F2 hv
  clear F2'
  have hc2:jH w w' (gC A r (fun q=> ∃j,(j,some q)∈fK/\AJ m.sh j=false)):=by have:=F2.oK;rwa[Fj,ZJ] at this
  have Oo:∀ {i:Nat},i<m.pz.length->bM τ i=some (EB m.kp fK b i):=fun {i} hi=>by rw[<-hτ];exact Iv hi
  have ZK:∀ {i:Nat} {v:Option Nat},bM τ i=some v->i<m.pz.length:=fun {i v} hi=>by rw[<-hτ] at hi;exact Iw hi
  have GG:∀ {i:Nat},m.kp<=i->i<m.pz.length->bM τ i=some (some (b+i)):=fun {i} h1 h2=>by
   rw[Oo h2];unfold EB
   have:Nat.blt i m.kp=false:=by
    cases hb:Nat.blt i m.kp with
    |true=>
     have:i<m.kp:=by simpa using Nat.blt_eq▸hb
     omega
    |false=>rfl
   rw[this]
  have ZL:∀ {i:Nat},i<m.kp->∃q,bM fK i=some (some q)/\F q/\EB m.kp fK b i=some q:=fun {i} hi=>by
   obtain⟨sp,v,q1,q2⟩:=uu (x:=xs) (i:=0) (Nat.zero_le i) (by rw[Nat.zero_add];omega)
   have hb:Nat.blt i m.kp=true:=by simpa[Nat.blt_eq] using hi
   have h6:=List.all_eq_true.1 g6 i (List.mem_range.2 hi)
   rcases hP i _ q2 A fK refl with⟨_,⟨q,t,k1,k2,k3⟩|⟨k1,_⟩⟩|⟨_,_,_,⟨q,t,k1,k2,k3⟩|⟨k1,_⟩⟩
   .exact⟨q,k1,(H.dD q t k2).1,by unfold EB;rw[hb,k1]⟩
   .rw[k1] at h6;cases h6
   .exact⟨q,k1,(H.dD q t k2).1,by unfold EB;rw[hb,k1]⟩
   rw[k1] at h6;cases h6
  have kV:∀ {i:Nat},m.kp<=i->i<m.pz.length->∃t,(b+i,some t)∈re:=fun {i} h1 h2=>by
   obtain⟨sp,v,q1,q2⟩:=uu (x:=y.1) (i:=0) (Nat.zero_le i) (by rw[Nat.zero_add];exact h2)
   have ZM:AJ m.pz i=false:=by
    cases hq:AJ m.pz i with
    |false=>rfl
    |true=>have:=(aa3 i hq).1;omega
   obtain⟨k,x,t,_,k2,_,k4⟩:=Ol yY i _ (List.mem_filter.2 ⟨q2,by dsimp only;rw[ZM];rfl⟩)
   rw[GG h1 h2] at k2
   cases k2
   exact⟨t,k4⟩
  have hA:cV F A (mN A A2 b m.kp m.pz.length):=fun j hj=>Sd fun⟨q1,q2⟩=>by
   obtain⟨t,ht⟩:=kV (i:=j-b) (by omega) (by omega)
   have:=hB _ (List.mem_append_left _ ht)
   have e:b+(j-b)=j:=by omega
   simp only[e] at this
   exact hF j (by omega) this hj
  have ZN:∀i k,bM τ i=some (some k)->FU F (re++(yc m.sh fK).map fun q=>(q,(none:Option R2))) k:=fun i k hi=>by
   have hl:=ZK hi
   by_cases q:i<m.kp
   .obtain⟨q',_,k2,k3⟩:=ZL q
    rw[Oo hl,k3] at hi
    cases hi
    exact .inl k2
   rw[GG (by omega) hl] at hi
   cases hi
   obtain⟨t,ht⟩:=kV (i:=i) (by omega) hl
   exact .inr ⟨_,List.mem_append_left _ ht⟩
  have ZO:cV (· <m.pz.length) A2 (dS (mN A A2 b m.kp m.pz.length) τ):=fun i hi=>by
   by_cases q:i<m.kp
   .obtain⟨q',k1,k2,k3⟩:=ZL q
    obtain⟨e1,e2,e3,_,e5⟩:=ez (A:=mN A A2 b m.kp m.pz.length) (show bM τ i=some (some q') by rw[Oo hi,k3])
    obtain⟨d1,d2,d3,_,d5⟩:=ez (A:=A) k1
    obtain⟨a1,a2,a3,a4⟩:=hA q' k2
    obtain⟨c1,c2,c3,c4⟩:=hA2 i q
    exact⟨by rw[e1,<-a1,<-d1,<-c1],by rw[e2,<-a2,<-d2,<-c2],by rw[e5,<-a3,<-d5,<-c3],by rw[e3,<-a4,<-d3,<-c4]⟩
   obtain⟨e1,e2,e3,_,e5⟩:=ez (A:=mN A A2 b m.kp m.pz.length) (GG (show m.kp<=i by omega) hi)
   obtain⟨a1,a2,a3,a4⟩:=Sb (A:=A) (B:=A2) (b:=b) (show m.kp<=i by omega) hi
   exact⟨by rw[e1,a1],by rw[e2,a2],by rw[e5,a3],by rw[e3,a4]⟩
  have Yd:∀k z,(k,some z)∈re++(yc m.sh fK).map (fun q=>(q,(none:Option R2)))->∃i,z.den (mN A A2 b m.kp m.pz.length) k=(z.den (mN A A2 b m.kp m.pz.length) k)/\bM τ i=some (some k)/\bq A2 (aT (fun _=>none) (gO 0 m.pz y.1)) i=some (z.den (mN A A2 b m.kp m.pz.length) k)/\z.all (FU F (re++(yc m.sh fK).map fun q=>(q,(none:Option R2))))/\z.b9 (mN A A2 b m.kp m.pz.length)/\jV z=false:=fun k z hz=>by
   rcases List.mem_append.1 hz with hz|hz
   .obtain⟨i,x,t,k1,k2,k3,k4⟩:=Om yY k _ hz
    cases k4
    obtain⟨k1,k1r⟩:=List.mem_filter.1 k1
    have k1s:AJ m.pz i=false:=by simpa using k1r
    have Sf:=yd k1
    obtain⟨sp,v,q1,q2⟩:=ya k1
    cases q2
    have aa4:sp.R7=false:=by
     have JT:=k1s.symm.trans Sf
     cases sp<;>first|rfl|cases JT
    obtain⟨p1,p2,p3,p4⟩:=ZG ZN k3 k2 aa4 (mN A A2 b m.kp m.pz.length)
    have we:=Pc.Oh (v:=v) (List.all_eq_true.1 g4 sp q1)
    have hl:=(kN k1).2
    rw[Nat.zero_add] at hl
    refine⟨i,rfl,k2,?_,p2,p3,p4⟩
    show(aT _ _ i).map _=_
    rw[AK k1,p1,<-R2.congr ZO hl we.1]
    rfl
   obtain⟨q,_,hq⟩:=List.mem_map.1 hz
   cases hq
  have hsw:=H.swap hA (w':=w') (S':=fun k=>S k\/S2 k) (re:=re++(yc m.sh fK).map fun q=>(q,(none:Option R2))) (fun q=> ∃j,(j,some q)∈fK/\AJ m.sh j=false) (fun q hq=>hK hq) hc2 (fun k hk=>.inl hk) (fun k hk=>by
   rcases hk with hk|hk
   .exact .inl hk
   .rcases F2.src k hk with q|q
    .exact .inl (by rw[ZI] at q;exact q)
    refine .inr ⟨?_,F2.ig k hk,fun j z hz=>?_⟩
    .rcases q with q|q
     .exact .inr (by rw[Fj] at q;exact q)
     exact .inl (by rw[ZJ] at q;exact q)
    obtain⟨i,_,_,k2,_⟩:=Yd j z hz
    exact fun hh=>(F2.own i _ k k2 hh).2.2 hk) (fun j z hz=>by
   obtain⟨i,_,_,k2,k3,k4,k5⟩:=Yd j z hz
   refine⟨k3,k4,k5,(z.den _ j).up _ _ _ (F2.ok i _ k2) fun _ q=>.inr q,fun c hc=>?_⟩
   obtain⟨q1,q2,_⟩:=F2.own i _ c k2 hc
   refine⟨?_,q2⟩
   rcases q1 with q|q
   .exact .inr (by rw[Fj] at q;exact q)
   .exact .inl (by rw[ZJ] at q;exact q)) (fun i j zi zj c hi hj ei ej=>by
   obtain⟨i',_,ki,k2,_⟩:=Yd i zi hi
   obtain⟨j',_,kj,l2,_⟩:=Yd j zj hj
   have:=F2.apart i' j' _ _ c k2 l2 ei ej
   subst this
   rw[ki] at kj
   cases kj;rfl)
  have MO:((cs.map Sy.one).all fun y=>match y with| .lY _=>false|_=>true)=true:=by
   rw[List.all_map];exact List.all_eq_true.2 fun _ _=>rfl
  have ec:∀z∈cs.map Sy.one,z.all (FU F (re++(yc m.sh fK).map fun q=>(q,(none:Option R2))))/\z.b9 (mN A A2 b m.kp m.pz.length):=fun z hz=>by
   obtain⟨c,hc,rfl⟩:=List.mem_map.1 hz
   have:=GD ZN ZH c hc
   exact⟨this.1,this.2 _⟩
  refine⟨_,_,hsw,?_,(ud ec).1,(ud ec).2⟩
  show v=(uW (cs.map Sy.one)).den _
  rw[Ao MO,List.map_map,hv]
  congr 1
  rw[jf ZO fun c hc=>(mK g5 c hc).1,(xA ZH).1]
  exact List.map_congr_left fun _ _=>rfl
 cases h2
def uv {f:FuncId}{m:ur}{oQ:m.X->Prop}{fx:m.X->m.Y}(ok:gQ P f m oQ fx):cE P:=⟨f,V1 m oQ fx,Se ok⟩
end
section
variable {P:Program}{T':aL}{v:Value}
def V2 (de:List (Bool×Ty))(x:ji de)(raw:List Value):gH:=⟨qX 0 ((cZ de x 0).1++raw.map fun u=>.one (kY u)),(cZ de x 0).2,(cZ de x 0).2.length⟩
theorem Sg {f:FuncId}(fn:Func)(n:Nat)(T:List (cE P)){de:List (Bool×Ty)}{rs:List Ty}{fx:iI rs}(raw:List Value)(o:Orig)(vs:List Value)(x:ji de)(hx:uO o.S (· <o.w.heap.size) o.w de vs x)(hf:P.funcs[f]?=some fn)
  (k:∀a w,iK (bD.of o) n (V2 de x raw) a w->At pl P T (fn.body.getD .skip) (bodyPost P fn (Hy o fun S v w'=>jS S w' rs v fx)) [.run []] a w)
  (hb:fn.body.isSome=true:=by kernel_rfl) (hn:fn.ntmps=n:=by kernel_rfl) (hl:decide (de.length+raw.length<=n)=true:=by kernel_rfl):Calls P f (vs++raw).toArray o.w (Hy o fun S v w'=>jS S w' rs v fx):=by
 have hlen:=p7 hx
 refine enter fn n hf (fun a ha=>?_) hb hn (by rw[List.length_append,hlen];exact hl)
 obtain⟨A,h1,h2,h3,h5,h4⟩:=p6 (o:=bD.of o) de x vs 0 L3 (fun _=>False) (o5 (fun k hk=>⟨hk,fun q=>q⟩) hx) fun _ _ q=>q
 have ec:((cZ de x 0).1++raw.map fun u=>Sy.one (kY u)).map (Sy.den A)=vs++raw:=by
  rw[List.map_append,h2,List.map_map]
  congr 1
  exact(List.map_congr_left fun u _=>oL A u).trans (List.map_id raw)
 have Dy:∀y∈(cZ de x 0).1++raw.map fun u=>Sy.one (kY u),y.all (FU (fun _=>False) (cZ de x 0).2)/\y.b9 A:=fun y hy=>by
  rcases List.mem_append.1 hy with hy|hy
  .exact h4 y hy
  obtain⟨u,_,rfl⟩:=List.mem_map.1 hy
  exact⟨oM _ u,l7 A u⟩
 have iP:∀t e,ni (V2 de x raw) t=some e->e.ch=[]/\∃y,((cZ de x 0).1++raw.map fun u=>Sy.one (kY u))[t]?=some y/\e=⟨[],y⟩:=fun t e he=>by
  obtain⟨_,y,q1,q2⟩:=j7 he
  exact⟨by rw[q2],y,by simpa using q1,q2⟩
 have H0:cz (bD.of o) n A o.S (fun _=>False) (fun _=>none) (fun _=>none) a o.w:=⟨ha.1,ha.2.1,fun _ _ q=>(by cases q),fun _ _ q=>(by cases q),fun _ _ q=>(by cases q),fZ.start (bD.of o),fun _ _ q=>(by cases q),⟨fun _ q=>q.elim,fun _ q=>q.elim⟩⟩
 have H1:=H0.ro (cV.refl _ _) h3
 have hle:∀j,FU (fun _=>False) (cZ de x 0).2 j->j<(cZ de x 0).2.length:=fun j hj=>by
  rcases hj with hj|⟨z,hz⟩
  .exact hj.elim
  have:=h5 _ hz;simpa using this
 have sJ:iK (bD.of o) n (V2 de x raw) a o.w:=by
  refine⟨⟨A,o.S,H1.size,H1.eY,fun t e he=>?_,fun t e he _=>?_,fun j y hj=>?_,H1.bB,H1.args,⟨fun _ q=>q.elim,fun _ q=>q.elim⟩⟩,fun t e he=>(iP t e he).1,fun _ q=>q.elim⟩
  .obtain⟨_,y,q1,rfl⟩:=iP t e he
   have hv:(vs++raw)[t]?=some (y.den A):=by rw[<-ec,List.getElem?_map,q1];rfl
   have Km:=(List.getElem?_eq_some_iff.1 hv).1
   refine ha.2.2 ⟨t,[],y.den A⟩ (List.mem_map.2 ⟨(t,y.den A),?_,rfl⟩)
   refine List.mem_iff_getElem?.2 ⟨t,?_⟩
   rw[List.getElem?_zip_eq_some]
   exact⟨by rw[List.getElem?_range Km],hv⟩
  .obtain⟨_,y,q1,rfl⟩:=iP t e he
   have:=Dy y (List.mem_of_getElem? q1)
   exact⟨Sy.mono hle this.1,this.2⟩
  have:=H1.dD j y hj
  exact⟨hle j this.1,R2.mono hle this.2.1,this.2.2⟩
 have:=k a o.w sJ
 have this:(sub (fn.body.getD .skip) []).jK pl P (post pl P (fn.body.getD .skip) (bodyPost P fn (Hy o fun S v w'=>jS S w' rs v fx)) []) a o.w:=this.get
 have this:=xq.1 this
 exact this
def V3 (w:World):Orig:=⟨w,fun k=>k<w.heap.size,fun _ h=>h⟩
theorem KQ {f:FuncId}{args:Array Value}{w:World}{b:Bool}(h:Calls P f args w (Hy (V3 w) fun S v w'=>jS S w' [.bool] v ((b,()):iI [.bool]))):Calls P f args w (Ans (.bool b) w):=
 h.mono fun e w' ⟨v,h1,h2,h3⟩=>by
  obtain⟨cs,q1,q2⟩:Rd (qN (V3 w) w') w' v (show Bool from b):=h2
  have q1:cs=[.bool b]:=q1
  subst q1
  exact⟨by rw[h1,q2];rfl,h3⟩
end
def gM (u:List Int):Prop:=∀j:Nat,j<u.length->0<=u.getD j 0/\u.getD j 0<=(j:Int)
def AP (u:List Int):Nat->Int->Int
 |0,i=>i
 |f+1,i=>if u.getD i.toNat 0=i then i else AP u f (u.getD i.toNat 0)
def aP (u:List Int)(i:Int):Int:=AP u (i.toNat+1) i
theorem eD {u:List Int}(h:gM u){i:Int}(h0:0<=i)(h1:i<(u.length:Int)):0<=u.getD i.toNat 0/\u.getD i.toNat 0<=i:=by
 have:=h i.toNat (by omega);omega
theorem AQ {u:List Int}(h:gM u):∀(f g:Nat) (i:Int),0<=i->i<(u.length:Int)->i.toNat<f->i.toNat<g->AP u f i=AP u g i
 |0,_,_,_,_,h,_=>by omega
 |_+1,0,_,_,_,_,h=>by omega
 |f+1,g+1,i,h0,h1,hf,hg=>by
  unfold AP
  split
  .rfl
  rename_i dL
  have:=eD h h0 h1
  exact AQ h f g _ this.1 (by omega) (by omega) (by omega)
theorem fO {u:List Int}(h:gM u){i:Int}(h0:0<=i)(h1:i<(u.length:Int)):aP u i=if u.getD i.toNat 0=i then i else aP u (u.getD i.toNat 0):=by
 unfold aP
 conv=>lhs;unfold AP
 split
 .rfl
 rename_i dL
 have:=eD h h0 h1
 exact AQ h _ _ _ this.1 (by omega) (by omega) (by omega)
theorem dw {u:List Int}(h:gM u){i:Int}(h0:0<=i)(h1:i<(u.length:Int))(hr:u.getD i.toNat 0=i):aP u i=i:=by rw[fO h h0 h1,if_pos hr]
theorem tf {u:List Int}(h:gM u){i:Int}(h0:0<=i)(h1:i<(u.length:Int)):aP u (u.getD i.toNat 0)=aP u i:=by
 rw[fO h h0 h1]
 split
 .rename_i e;rw[e];exact dw h h0 h1 e
 rfl
theorem Oq {u:List Int}(h:gM u):∀(n:Nat) (i:Int),i.toNat<=n->0<=i->i<(u.length:Int)->0<=aP u i/\aP u i<=i/\u.getD (aP u i).toNat 0=aP u i:=by
 intro n
 induction n with
 |zero=>
  intro i hn h0 h1
  have:=eD h h0 h1
  rw[dw h h0 h1 (by omega)]
  exact⟨h0,Int.le_refl _,by omega⟩
 |succ n ih=>
  intro i hn h0 h1
  have hu:=eD h h0 h1
  rw[fO h h0 h1]
  split
  .rename_i e;exact⟨h0,Int.le_refl _,e⟩
  rename_i e
  obtain⟨a,b,c⟩:=ih (u.getD i.toNat 0) (by omega) hu.1 (by omega)
  exact⟨a,by omega,c⟩
theorem gZ {u:List Int}(h:gM u){i:Int}(h0:0<=i)(h1:i<(u.length:Int)):0<=aP u i/\aP u i<=i/\u.getD (aP u i).toNat 0=aP u i:=Oq h _ i (Nat.le_refl _) h0 h1
theorem nW {u:List Int}(h:gM u){i:Int}(h0:0<=i)(h1:i<(u.length:Int)):aP u (aP u i)=aP u i:=by
 obtain⟨a,b,c⟩:=gZ h h0 h1
 exact dw h a (by omega) c
theorem mO {u:List Int}{i j:Nat}{x:Int}(hi:i<u.length):(u.set i x).getD j 0=if i=j then x else u.getD j 0:=by
 rw[List.getD_eq_getElem?_getD,List.getElem?_set,List.getD_eq_getElem?_getD]
 split
 .rename_i e;subst e;simp[hi]
 rfl
theorem Iy {u:List Int}(h:gM u){i:Int}(h0:0<=i)(h1:i<(u.length:Int)):
  gM (u.set i.toNat (u.getD (u.getD i.toNat 0).toNat 0))/\∀j,0<=j->j<(u.length:Int)->aP (u.set i.toNat (u.getD (u.getD i.toNat 0).toNat 0)) j=aP u j:=by
 have hu:=eD h h0 h1
 have hz:=eD h hu.1 (show u.getD i.toNat 0<(u.length:Int) by omega)
 have eE:gM (u.set i.toNat (u.getD (u.getD i.toNat 0).toNat 0)):=by
  intro j hj
  rw[List.length_set] at hj
  rw[mO (by omega)]
  split
  .rename_i e;subst e;omega
  exact h j hj
 refine⟨eE,?_⟩
 have key:∀(n:Nat) (j:Int),j.toNat<=n->0<=j->j<(u.length:Int)->aP (u.set i.toNat (u.getD (u.getD i.toNat 0).toNat 0)) j=aP u j:=by
  intro n
  induction n with
  |zero=>
   intro j hn qS r6
   have a:=eD h qS r6
   have b:=eD eE qS (by rw[List.length_set];exact r6)
   rw[dw h qS r6 (by omega),dw eE qS (by rw[List.length_set];exact r6) (by omega)]
  |succ n ih=>
   intro j hn qS r6
   have a:=eD h qS r6
   have V4:j<((u.set i.toNat (u.getD (u.getD i.toNat 0).toNat 0)).length:Int):=by rw[List.length_set];exact r6
   rw[fO eE qS V4,mO (by omega)]
   by_cases e:i.toNat=j.toNat
   .have e:i=j:=by omega
    subst e
    rw[if_pos rfl]
    by_cases c:u.getD (u.getD i.toNat 0).toNat 0=i
    .rw[if_pos c,dw h h0 h1 (by omega)]
    rw[if_neg c,ih _ (by omega) hz.1 (by omega),tf h hu.1 (by omega),tf h h0 h1]
   rw[if_neg e]
   rw[fO h qS r6]
   split
   .rfl
   exact ih _ (by omega) a.1 (by omega)
 exact fun j=>key j.toNat j (Nat.le_refl _)
theorem Sh {u:List Int}(h:gM u){r s:Int}(hr:0<=r)(hs:0<=s)(Lx:r<(u.length:Int))(hs1:s<(u.length:Int))(er:u.getD r.toNat 0=r)(es:u.getD s.toNat 0=s)(dL:r≠s):
  gM (u.set (max r s).toNat (min r s))/\∀j,0<=j->j<(u.length:Int)->aP (u.set (max r s).toNat (min r s)) j=if aP u j=max r s then min r s else aP u j:=by
 have eE:gM (u.set (max r s).toNat (min r s)):=by
  intro j hj
  rw[List.length_set] at hj
  rw[mO (by omega)]
  split
  .rename_i e;subst e;omega
  exact h j hj
 refine⟨eE,?_⟩
 have rM:u.getD (max r s).toNat 0=max r s:=by
  rcases Int.le_total r s with q|q
  .rw[Int.max_eq_right q];exact es
  rw[Int.max_eq_left q];exact er
 have rm:u.getD (min r s).toNat 0=min r s:=by
  rcases Int.le_total r s with q|q
  .rw[Int.min_eq_left q];exact er
  rw[Int.min_eq_right q];exact es
 have key:∀(n:Nat) (j:Int),j.toNat<=n->0<=j->j<(u.length:Int)->aP (u.set (max r s).toNat (min r s)) j=if aP u j=max r s then min r s else aP u j:=by
  intro n
  induction n with
  |zero=>
   intro j hn qS r6
   have a:=eD h qS r6
   have b:=eD eE qS (by rw[List.length_set];exact r6)
   rw[dw h qS r6 (by omega),dw eE qS (by rw[List.length_set];exact r6) (by omega),if_neg (by omega)]
  |succ n ih=>
   intro j hn qS r6
   have a:=eD h qS r6
   have V4:j<((u.set (max r s).toNat (min r s)).length:Int):=by rw[List.length_set];exact r6
   rw[fO eE qS V4,mO (by omega)]
   by_cases e:(max r s).toNat=j.toNat
   .have e:j=max r s:=by omega
    subst e
    rw[if_pos rfl,if_neg (by omega),ih (min r s) (by omega) (by omega) (by omega),dw h (by omega) (by omega) rm,dw h qS r6 rM,if_neg (by omega),if_pos rfl]
   rw[if_neg e,fO h qS r6]
   split
   .rename_i c;rw[if_neg (by omega)]
   exact ih _ (by omega) a.1 (by omega)
 exact fun j=>key j.toNat j (Nat.le_refl _)
theorem lH {u:List Int}{j:Nat}{x:Int}:(u++[x]).getD j 0=if j<u.length then u.getD j 0 else if j=u.length then x else 0:=by
 rw[List.getD_eq_getElem?_getD,List.getD_eq_getElem?_getD,List.getElem?_append]
 split
 .rfl
 by_cases e:j=u.length
 .rw[if_pos e];simp[e]
 rw[if_neg e,List.getElem?_eq_none (by simp;omega)];rfl
theorem GH {u:List Int}(h:gM u):gM (u++[(u.length:Int)])/\(∀j,0<=j->j<(u.length:Int)->aP (u++[(u.length:Int)]) j=aP u j)/\aP (u++[(u.length:Int)]) (u.length:Int)=(u.length:Int):=by
 have eE:gM (u++[(u.length:Int)]):=by
  intro j hj
  rw[List.length_append,List.length_singleton] at hj
  rw[lH]
  split
  .exact h j (by assumption)
  rw[if_pos (by omega)];omega
 have hl:((u++[(u.length:Int)]).length:Int)=(u.length:Int)+1:=by simp
 refine⟨eE,?_,dw eE (by omega) (by omega) (by rw[lH,if_neg (by omega),if_pos (by omega)])⟩
 have key:∀(n:Nat) (j:Int),j.toNat<=n->0<=j->j<(u.length:Int)->aP (u++[(u.length:Int)]) j=aP u j:=by
  intro n
  induction n with
  |zero=>
   intro j hn qS r6
   have a:=eD h qS r6
   rw[dw h qS r6 (by omega),dw eE qS (by omega) (by rw[lH,if_pos (by omega)];omega)]
  |succ n ih=>
   intro j hn qS r6
   have a:=eD h qS r6
   have e9:(u++[(u.length:Int)]).getD j.toNat 0=u.getD j.toNat 0:=by rw[lH,if_pos (by omega)]
   rw[fO eE qS (by omega),fO h qS r6,e9]
   split
   .rfl
   exact ih _ (by omega) a.1 (by omega)
 exact fun j=>key j.toNat j (Nat.le_refl _)
theorem aa5 (p:Addr)(w:World)(hc:∃x,w.cell? p=some (.bool x))(hz:w.frozen? p=false):
  CallsD Tryz.prog 125 #[.pointer (some p)] .returning w fun e u' w'=>e= .returned (.tuple #[])/\u'= .returning/\w'=w.setCell p (.bool true):=by
 obtain⟨x,hc⟩:=hc
 refine callsD_of_wpS Tryz.func125 rfl fun aa6 cs hu=>?_
 apply wpS_region
 simp[wpOpsS,go_sem,recoverD,hu,Tryz.ntmps125,Exit.thenS,hc,hz,bodyPostS,results,Tryz.results125]
 cases aa6
 simp_all
theorem aa7 (sb pb:Nat)(x:Int)(w:World)(zT:(w.alloc (.cells #[.bool false] 4)).cell? ⟨sb,0,none⟩=some (.map (some pb)))(hl:∃v,(Instr.lookup 57 (.map (some pb)) (.int .i64 x) false).run Tryz.prog (w.alloc (.cells #[.bool false] 4))= .ok v (w.alloc (.cells #[.bool false] 4))):
  Calls Tryz.prog 105 #[.pointer (some ⟨sb,0,none⟩),.int .i64 x] w (Ans (.bool true) w):=by
 obtain⟨v,hl⟩:=hl
 have hmf:∀(fn:Fn) (first cap:Array Value) (w:World),(Instr.makeFunc fn first cap).run Tryz.prog w= .ok (.func fn first cap) w:=fun _ _ _ _=>rfl
 go_enter_defers Tryz.func105,Tryz.ntmps105
 go_wp2
 refine leaves_cons (f:=125) (args:= #[.pointer (some ⟨w.heap.size,0,none⟩)]) (by simp) (by simp[go_sem]) ?_
 refine(aa5 ⟨w.heap.size,0,none⟩ _ ⟨true,by simp[go_sem]⟩ (by simp[go_sem])).mono ?_
 rintro e u' w'' ⟨rfl,rfl,rfl⟩
 simp[Leaves,settle,results,Tryz.results105,go_sem]
 exact⟨rfl,j6 _ _⟩
def V5 (b:Nat)(cF:List (Nat×Nat))(ys:List Sy):Tr Out:=match cF,ys with
 |[],[.one (.ptr j 0),.one (.v (.int .i64 x))]=>.res j fun z=>match z with
  | .box _ (.mp q::_)=>.res q fun y=>match y with
   | .map .int .int _=>.ret ⟨[dc .int (show Int from x)],[],.one (.b (.lit true)),[]⟩
   |_=>.fail
  |_=>.fail
 |_,_=>.fail
theorem Si:Dm Tryz.prog 105 V5:=by
 intro o n A S F s r a w b B cF ys out H hF XS HL h cH mg hB
 unfold V5 at h
 split at h
 .rename_i j x
  obtain⟨z,hz,h⟩:=aY h
  split at h
  .rename_i bt q l
   obtain⟨y,hy,h⟩:=aY h
   split at h
   .rename_i m
    have e:=aW h
    subst e
    have hx:dc .int (show Int from x):=cH _ (List.mem_singleton.2 rfl)
    have hm:bq A r j=some (Rs.of (.box (A.b j) bt ((Sc.mp q::l).map (Sc.den A)))):=by simp[bq,hz,R2.den]
    have hb:w.heap[A.b j]?=some (.cells (((Sc.mp q::l).map (Sc.den A)).toArray) bt (0,0)):=H.bB.ok j _ hm
    obtain⟨_,hbl,_⟩:=H.bB.own j _ (A.b j) hm rfl
    have hq:bq A r q=some (qO (A.m q) m):=by simp[bq,hy,R2.den]
    obtain⟨pb,hpb,wD⟩:∃pb,A.m q=some pb/\lB S w pb m:=H.bB.ok q _ hq
    obtain⟨_,UI,_⟩:=H.bB.own q _ pb hq hpb
    have GI:=j6 w (.cells #[.bool false] 4)
    obtain⟨zs,iJ,_,_⟩:=wD.keep (w':=w.alloc (.cells #[.bool false] 4)) (fun k hk=>GI.block k (H.bB.ig k hk)) (GI.block pb UI)
    have qG:=iJ.look (P:=Tryz.prog) (t:=57) (kt:=3) (et:=3) (by kernel_rfl) (by kernel_rfl) (z:=.int .i64 0) (by kernel_rfl) hx
    have jP:(w.alloc (.cells #[.bool false] 4)).cell? ⟨A.b j,0,none⟩=some (.map (some pb)):=by
     rw[cell_of_row _ _ _ _ _ _ ((GI.block _ hbl).trans hb)]
     show some (Value.map (A.m q))=_
     rw[hpb]
    refine(aa7 (A.b j) pb x w jP ⟨_,qG⟩).mono fun e w' hw=>?_
    obtain⟨rfl,hbw⟩:=hw
    refine⟨_,rfl,A,S,?_,rfl,tv,tv⟩
    exact⟨H.size,H.eY,H.env,fun t e he hc=>⟨Sy.mono (fun _=>.inl) (H.kZ t e he hc).1,(H.kZ t e he hc).2⟩,fun j x hj=>⟨.inl (H.dD j x hj).1,R2.mono (fun _=>.inl) (H.dD j x hj).2.1,(H.dD j x hj).2.2⟩,H.bB.on hbw,H.args,⟨fun j hj=>.inl (H.wO.1 j hj),H.wO.2⟩⟩
   cases h
  cases h
 cases h
def Ot:cE Tryz.prog:=⟨_,V5,Si⟩
abbrev jc:=List (Int×Int)
def bQ (M:jc)(L:List Int)(x:Int):jc:=if(ah M x).isSome then M else cB M x (L.length:Int)
def bX (M:jc)(L:List Int)(x:Int):List Int:=if(ah M x).isSome then L else L++[x]
def ck (M:jc)(L U:List Int)(x:Int):List Int:=if(ah M x).isSome then U else U++[(L.length:Int)]
def iC (M:jc)(g x:Int):Int:=if(ah M x).isSome then g else g+1
def c9 (M:jc)(L:List Int)(x:Int):Int:=(ah M x).getD (L.length:Int)
def Fk:Nat->List Int->Int->List Int×Int
 |0,U,i=>(U,i)
 |f+1,U,i=>if U.getD i.toNat 0=i then(U,i) else Fk f (U.set i.toNat (U.getD (U.getD i.toNat 0).toNat 0)) ((U.set i.toNat (U.getD (U.getD i.toNat 0).toNat 0)).getD i.toNat 0)
theorem hvS {f:Nat}{c:List Int}{k:Int}(hf:0<f)(h:¬c.getD k.toNat 0=k):Fk f c k=Fk (f-1) (c.set k.toNat (c.getD (c.getD k.toNat 0).toNat 0)) ((c.set k.toNat (c.getD (c.getD k.toNat 0).toNat 0)).getD k.toNat 0):=by
 obtain⟨q,rfl⟩:∃q,f=q+1:=⟨f-1,by omega⟩
 rw[show q+1-1=q by omega]
 conv=>lhs;unfold Fk
 rw[if_neg h]
theorem hvE {f:Nat}{c:List Int}{k:Int}(hf:0<f)(h:c.getD k.toNat 0=k):Fk f c k=(c,k):=by
 obtain⟨q,rfl⟩:∃q,f=q+1:=⟨f-1,by omega⟩
 unfold Fk
 rw[if_pos h]
def ia (U:List Int)(i:Int):List Int:=(Fk (i.toNat+1) U i).1
def tg (U:List Int)(i:Int):Int:=(Fk (i.toNat+1) U i).2
theorem ye:∀(f:Nat) (U:List Int) (i:Int),gM U->0<=i->i<(U.length:Int)->i.toNat<f->
  (Fk f U i).2=aP U i/\gM (Fk f U i).1/\(Fk f U i).1.length=U.length/\∀j,0<=j->j<(U.length:Int)->aP (Fk f U i).1 j=aP U j
 |0,_,_,_,_,_,h=>by omega
 |f+1,U,i,hU,h0,h1,hf=>by
  unfold Fk
  split
  .rename_i he
   exact⟨(dw hU h0 h1 he).symm,hU,rfl,fun _ _ _=>rfl⟩
  rename_i he
  have hy:=eD hU h0 h1
  have hz:=eD hU hy.1 (show U.getD i.toNat 0<(U.length:Int) by omega)
  obtain⟨k1,k2⟩:=Iy hU h0 h1
  have hn:(U.set i.toNat (U.getD (U.getD i.toNat 0).toNat 0)).getD i.toNat 0=U.getD (U.getD i.toNat 0).toNat 0:=by rw[mO (by omega),if_pos rfl]
  have hl:(U.set i.toNat (U.getD (U.getD i.toNat 0).toNat 0)).length=U.length:=List.length_set ..
  rw[hn]
  obtain⟨q1,q2,q3,q4⟩:=ye f (U.set i.toNat (U.getD (U.getD i.toNat 0).toNat 0)) (U.getD (U.getD i.toNat 0).toNat 0) k1 hz.1 (by omega) (by omega)
  refine⟨?_,q2,by omega,fun j j0 j1=>by rw[q4 j j0 (by omega),k2 j j0 j1]⟩
  rw[q1,k2 _ hz.1 (by omega),tf hU hy.1 (by omega),tf hU h0 h1]
def Sj (M:jc)(L:List Int)(x y:Int):jc:=bQ (bQ M L x) (bX M L x) y
def Ou (M:jc)(L:List Int)(x y:Int):List Int:=bX (bQ M L x) (bX M L x) y
def Ov (M:jc)(L U:List Int)(x y:Int):List Int:=ia (ia (ck (bQ M L x) (bX M L x) (ck M L U x) y) (c9 M L x)) (c9 (bQ M L x) (bX M L x) y)
def rU (M:jc)(L U:List Int)(x y:Int):Int:=tg (ck (bQ M L x) (bX M L x) (ck M L U x) y) (c9 M L x)
def rV (M:jc)(L U:List Int)(x y:Int):Int:=tg (ia (ck (bQ M L x) (bX M L x) (ck M L U x) y) (c9 M L x)) (c9 (bQ M L x) (bX M L x) y)
def KR (M:jc)(L U:List Int)(x y:Int):List Int:=if rU M L U x y=rV M L U x y then Ov M L U x y else(Ov M L U x y).set (max (rU M L U x y) (rV M L U x y)).toNat (min (rU M L U x y) (rV M L U x y))
def Iz (M:jc)(L U:List Int)(g x y:Int):Int:=if rU M L U x y=rV M L U x y then iC (bQ M L x) (iC M g x) y else iC (bQ M L x) (iC M g x) y-1
def Ow (M:jc)(L U:List Int)(x y:Int):Bool:=if rU M L U x y=rV M L U x y then false else true
structure lu (M:jc)(L U:List Int):Prop where
 ok:gM U
 len:U.length=L.length
 at_:∀x i,ah M x=some i->0<=i/\i<(L.length:Int)/\L.getD i.toNat 0=x
 th:M.length<=L.length
 ex:∀i:Nat,i<L.length->ah M (L.getD i 0)=some (i:Int)
theorem pG (M:jc)(L:List Int)(x:Int):L.length<=(bX M L x).length/\(bX M L x).length<=L.length+1:=by
 unfold bX;split
 .omega
 simp
theorem Ox (M:jc)(g x:Int):g<=iC M g x/\iC M g x<=g+1:=by unfold iC;split<;>omega
theorem lu.nil:lu [] [] []:=⟨fun j h=>(by simp at h),rfl,fun x i h=>(by cases h),Nat.le_refl _,fun i h=>(by simp at h)⟩
theorem lu.put {M:jc}{L U:List Int}(h:lu M L U)(x:Int):lu (bQ M L x) (bX M L x) (ck M L U x)/\0<=c9 M L x/\c9 M L x<((bX M L x).length:Int)/\ah (bQ M L x) x=some (c9 M L x):=by
 cases hx:ah M x with
 |some i=>
  have e1:bQ M L x=M:=by unfold bQ;rw[hx];rfl
  have e2:bX M L x=L:=by unfold bX;rw[hx];rfl
  have e3:ck M L U x=U:=by unfold ck;rw[hx];rfl
  have e4:c9 M L x=i:=by unfold c9;rw[hx];rfl
  rw[e1,e2,e3,e4]
  obtain⟨h1,h2,_⟩:=h.at_ x i hx
  exact⟨h,h1,h2,hx⟩
 |none=>
  have e1:bQ M L x=cB M x (L.length:Int):=by unfold bQ;rw[hx];rfl
  have e2:bX M L x=L++[x]:=by unfold bX;rw[hx];rfl
  have e3:ck M L U x=U++[(L.length:Int)]:=by unfold ck;rw[hx];rfl
  have e4:c9 M L x=(L.length:Int):=by unfold c9;rw[hx];rfl
  rw[e1,e2,e3,e4]
  have hlen:=h.len
  have tO:∀i:Nat,i<L.length->L.getD i 0≠x:=fun i hi q=>by
   have:=h.ex i hi
   rw[q,hx] at this;cases this
  refine⟨⟨?_,by simp[hlen],fun z i hz=>?_,?_,fun i hi=>?_⟩,by omega,by simp;omega,by rw[bO,if_pos rfl]⟩
  .have:=(GH h.ok).1
   rwa[hlen] at this
  .rw[bO] at hz
   split at hz
   .rename_i q
    cases hz
    subst q
    refine⟨by omega,by simp;omega,?_⟩
    rw[Int.toNat_natCast]
    simp
   obtain⟨k1,k2,k3⟩:=h.at_ z i hz
   refine⟨k1,by simp;omega,?_⟩
   rw[List.getD_eq_getElem?_getD,List.getElem?_append_left (by omega),<-List.getD_eq_getElem?_getD];exact k3
  .have:=dh M x (L.length:Int)
   have:=h.th
   simp;omega
  rw[bO]
  simp at hi
  by_cases q:i<L.length
  .rw[List.getD_eq_getElem?_getD,List.getElem?_append_left q,<-List.getD_eq_getElem?_getD,if_neg fun e=>tO i q e.symm]
   exact h.ex i q
  have:i=L.length:=by omega
  subst this
  simp
theorem UJ {U:List Int}{i j:Int}(hU:gM U)(i0:0<=i)(i1:i<(U.length:Int))(j0:0<=j)(j1:j<(U.length:Int)):
  gM (ia U i)/\(ia U i).length=U.length/\gM (ia (ia U i) j)/\(ia (ia U i) j).length=U.length/\0<=tg U i/\tg U i<(U.length:Int)/\0<=tg (ia U i) j/\tg (ia U i) j<(U.length:Int):=by
 obtain⟨a1,a2,a3,_⟩:=ye (i.toNat+1) U i hU i0 i1 (Nat.lt_succ_self _)
 have a3:(ia U i).length=U.length:=a3
 have a2:gM (ia U i):=a2
 obtain⟨b1,b2,b3,_⟩:=ye (j.toNat+1) (ia U i) j a2 j0 (by omega) (Nat.lt_succ_self _)
 have b3:(ia (ia U i) j).length=(ia U i).length:=b3
 have a1:tg U i=aP U i:=a1
 have b1:tg (ia U i) j=aP (ia U i) j:=b1
 obtain⟨q1,q2,_⟩:=gZ hU i0 i1
 obtain⟨r1,r2,_⟩:=gZ a2 j0 (show j<((ia U i).length:Int) by omega)
 exact⟨a2,a3,b2,by omega,by rw[a1];exact q1,by rw[a1];omega,by rw[b1];exact r1,by rw[b1];omega⟩
abbrev S4:Type:=jc×(List Int×(List Int×Int))
def mP (U:List Int):Nat:=(List.range U.length).countP fun i:Nat=>decide (aP U (i:Int)=(i:Int))
structure pH (s:S4):Prop where
 rep:lu s.1 s.2.1 s.2.2.1
 cnt:s.2.2.2=(mP s.2.2.1:Int)
def Rl (s:S4)(x y:Int):Prop:=∃i j,ah s.1 x=some i/\ah s.1 y=some j/\aP s.2.2.1 i=aP s.2.2.1 j
def cQ (s:S4)(x:Int):S4:=(bQ s.1 s.2.1 x,bX s.1 s.2.1 x,ck s.1 s.2.1 s.2.2.1 x,iC s.1 s.2.2.2 x)
def CU (s:S4)(x y:Int):S4:=(Sj s.1 s.2.1 x y,Ou s.1 s.2.1 x y,KR s.1 s.2.1 s.2.2.1 x y,Iz s.1 s.2.1 s.2.2.1 s.2.2.2 x y)
def Ye (s:S4)(x y:Int):Bool:=Ow s.1 s.2.1 s.2.2.1 x y
def UK (s:S4)(x y:Int):List Int:=match ah s.1 x,ah s.1 y with
 |some i,some j=>ia (ia s.2.2.1 i) j
 |_,_=>s.2.2.1
def smS (s:S4)(x y:Int):S4:=(s.1,s.2.1,UK s x y,s.2.2.2)
def GJ (s:S4)(x y:Int):Bool:=match ah s.1 x,ah s.1 y with
 |some i,some j=>decide (tg s.2.2.1 i=tg (ia s.2.2.1 i) j)
 |_,_=>false
section
variable {s:S4}{x y a b:Int}
theorem Sk (U:List Int):mP U<=U.length:=by
 unfold mP
 have:=List.countP_le_length (p:=fun i:Nat=>decide (aP U (i:Int)=(i:Int))) (l:=List.range U.length)
 rwa[List.length_range] at this
theorem pH.nil:pH ([],[],[],0):=⟨lu.nil,rfl⟩
theorem pH.bd (h:pH s):0<=s.2.2.2/\s.2.2.2<=(s.2.1.length:Int):=by
 have:=Sk s.2.2.1
 have:=h.rep.len
 have:=h.cnt
 omega
theorem Rl.refl (h:(ah s.1 x).isSome=true):Rl s x x:=by
 obtain⟨i,hi⟩:=Option.isSome_iff_exists.1 h
 exact⟨i,i,hi,hi,rfl⟩
theorem Rl.symm (h:Rl s a b):Rl s b a:=let⟨i,j,h1,h2,h3⟩:=h;⟨j,i,h2,h1,h3.symm⟩
theorem Rl.trans {c:Int}(h:Rl s a b)(k:Rl s b c):Rl s a c:=by
 obtain⟨i,j,h1,h2,h3⟩:=h
 obtain⟨j',l,k1,k2,k3⟩:=k
 rw[h2] at k1
 cases k1
 exact⟨i,l,h1,k2,h3.trans k3⟩
theorem Rl.left (h:Rl s a b):(ah s.1 a).isSome=true:=let⟨i,_,h1,_⟩:=h;by rw[h1];rfl
theorem Rl.right (h:Rl s a b):(ah s.1 b).isSome=true:=h.symm.left
theorem pI {p q:Nat->Bool}{l:List Nat}(h:∀x∈l,p x=q x):l.countP p=l.countP q:=by
 induction l with
 |nil=>rfl
 |cons x l ih=>
  rw[List.countP_cons,List.countP_cons,ih fun z hz=>h z (List.mem_cons_of_mem _ hz),h x List.mem_cons_self]
theorem nX {p q:Nat->Bool}{n m:Nat}(hm:m<n)(hp:p m=true)(hq:q m=false)(h:∀x,x<n->x≠m->p x=q x):(List.range n).countP q+1=(List.range n).countP p:=by
 induction n with
 |zero=>omega
 |succ n ih=>
  rw[List.range_succ,List.countP_append,List.countP_append]
  by_cases e:m=n
  .subst e
   have:=pI (p:=p) (q:=q) (l:=List.range m) fun x hx=>h x (by have:=List.mem_range.1 hx;omega) (by have:=List.mem_range.1 hx;omega)
   rw[this]
   simp[List.countP_cons,hp,hq]
  have:=ih (by omega) fun x hx=>h x (by omega)
  have e2:[n].countP q=[n].countP p:=by rw[List.countP_cons,List.countP_cons,h n (by omega) (fun z=>e z.symm)];rfl
  rw[e2];omega
theorem pH.add (h:pH s)(x:Int):pH (cQ s x)/\∀a b,Rl (cQ s x) a b↔Rl s a b\/(a=x/\b=x):=by
 obtain⟨M,L,U,g⟩:=s
 obtain⟨hr,hc⟩:=h
 change lu M L U at hr
 change g=(mP U:Int) at hc
 refine⟨⟨(hr.put x).1,?_⟩,fun a b=>?_⟩
 .show iC M g x=(mP (ck M L U x):Int)
  unfold iC ck
  split
  .exact hc
  have hlen:=hr.len
  obtain⟨a1,a2,a3⟩:=GH hr.ok
  rw[hlen] at a1 a2 a3
  have e:mP (U++[(L.length:Int)])=mP U+1:=by
   unfold mP
   rw[List.length_append,List.length_singleton,List.range_succ,List.countP_append]
   have h1:=pI (p:=fun i:Nat=>decide (aP (U++[(L.length:Int)]) (i:Int)=(i:Int))) (q:=fun i:Nat=>decide (aP U (i:Int)=(i:Int))) (l:=List.range U.length) fun z hz=>by
    have hz:=List.mem_range.1 hz
    rw[a2 z (by omega) (by omega)]
   rw[h1,hlen]
   have h2:[L.length].countP (fun i:Nat=>decide (aP (U++[(L.length:Int)]) (i:Int)=(i:Int)))=1:=by
    rw[List.countP_cons]
    simp[a3]
   rw[h2]
  rw[e];omega
 show(∃i j,ah (bQ M L x) a=some i/\ah (bQ M L x) b=some j/\aP (ck M L U x) i=aP (ck M L U x) j)↔(∃i j,ah M a=some i/\ah M b=some j/\aP U i=aP U j)\/_
 cases hx:ah M x with
 |some k=>
  have e1:bQ M L x=M:=by unfold bQ;rw[hx];rfl
  have e3:ck M L U x=U:=by unfold ck;rw[hx];rfl
  rw[e1,e3]
  exact⟨.inl,fun q=>q.elim id fun⟨q1,q2⟩=>by subst q1;subst q2;exact⟨k,k,hx,hx,rfl⟩⟩
 |none=>
  have e1:bQ M L x=cB M x (L.length:Int):=by unfold bQ;rw[hx];rfl
  have e3:ck M L U x=U++[(L.length:Int)]:=by unfold ck;rw[hx];rfl
  rw[e1,e3]
  have hlen:=hr.len
  obtain⟨a1,a2,a3⟩:=GH hr.ok
  rw[hlen] at a1 a2 a3
  have key:∀z i,ah M z=some i->0<=i/\i<(L.length:Int)/\aP U i<=i:=fun z i hz=>by
   obtain⟨q1,q2,_⟩:=hr.at_ z i hz
   exact⟨q1,q2,(gZ hr.ok q1 (by omega)).2.1⟩
  constructor
  .rintro⟨i,j,h1,h2,h3⟩
   rw[bO] at h1 h2
   by_cases qa:x=a<;>by_cases qb:x=b
   .exact .inr ⟨qa.symm,qb.symm⟩
   .rw[if_pos qa] at h1
    rw[if_neg qb] at h2
    cases h1
    obtain⟨k1,k2,k3⟩:=key b j h2
    rw[a3,a2 j k1 k2] at h3
    omega
   .rw[if_neg qa] at h1
    rw[if_pos qb] at h2
    cases h2
    obtain⟨k1,k2,k3⟩:=key a i h1
    rw[a3,a2 i k1 k2] at h3
    omega
   rw[if_neg qa] at h1
   rw[if_neg qb] at h2
   obtain⟨k1,k2,_⟩:=key a i h1
   obtain⟨l1,l2,_⟩:=key b j h2
   rw[a2 i k1 k2,a2 j l1 l2] at h3
   exact .inl ⟨i,j,h1,h2,h3⟩
  rintro(⟨i,j,h1,h2,h3⟩|⟨rfl,rfl⟩)
  .obtain⟨k1,k2,_⟩:=key a i h1
   obtain⟨l1,l2,_⟩:=key b j h2
   have qa:x≠a:=fun e=>by rw[e,h1] at hx;cases hx
   have qb:x≠b:=fun e=>by rw[e,h2] at hx;cases hx
   exact⟨i,j,by rw[bO,if_neg qa];exact h1,by rw[bO,if_neg qb];exact h2,by rw[a2 i k1 k2,a2 j l1 l2];exact h3⟩
  exact⟨_,_,by rw[bO,if_pos rfl],by rw[bO,if_pos rfl],rfl⟩
theorem pH.up (h:pH s){U':List Int}(h1:gM U')(h2:U'.length=s.2.2.1.length)(h3:∀j,0<=j->j<(s.2.2.1.length:Int)->aP U' j=aP s.2.2.1 j):pH (s.1,s.2.1,U',s.2.2.2)/\∀a b,Rl (s.1,s.2.1,U',s.2.2.2) a b↔Rl s a b:=by
 have hlen:=h.rep.len
 refine⟨⟨⟨h1,h2.trans h.rep.len,h.rep.at_,h.rep.th,h.rep.ex⟩,?_⟩,fun a b=>?_⟩
 .show s.2.2.2=(mP U':Int)
  rw[h.cnt]
  congr 1
  unfold mP
  rw[h2]
  exact pI fun z hz=>by
   have hz:=List.mem_range.1 hz
   rw[h3 z (by omega) (by omega)]
 have key:∀z i,ah s.1 z=some i->aP U' i=aP s.2.2.1 i:=fun z i hz=>by
  obtain⟨q1,q2,_⟩:=h.rep.at_ z i hz
  exact h3 i q1 (by omega)
 constructor
 .rintro⟨i,j,k1,k2,k3⟩
  have k3:aP U' i=aP U' j:=k3
  exact⟨i,j,k1,k2,by rw[<-key a i k1,<-key b j k2];exact k3⟩
 rintro⟨i,j,k1,k2,k3⟩
 exact⟨i,j,k1,k2,by show aP U' i=aP U' j;rw[key a i k1,key b j k2];exact k3⟩
theorem Ue (h:pH s){i j:Int}(hi:ah s.1 x=some i)(hj:ah s.1 y=some j):gM (ia (ia s.2.2.1 i) j)/\(ia (ia s.2.2.1 i) j).length=s.2.2.1.length/\(∀k,0<=k->k<(s.2.2.1.length:Int)->aP (ia (ia s.2.2.1 i) j) k=aP s.2.2.1 k)/\tg s.2.2.1 i=aP s.2.2.1 i/\tg (ia s.2.2.1 i) j=aP s.2.2.1 j:=by
 have hlen:=h.rep.len
 obtain⟨i0,i1,_⟩:=h.rep.at_ x i hi
 obtain⟨j0,j1,_⟩:=h.rep.at_ y j hj
 obtain⟨a1,a2,a3,a4⟩:=ye (i.toNat+1) s.2.2.1 i h.rep.ok i0 (by omega) (Nat.lt_succ_self _)
 have a3:(ia s.2.2.1 i).length=s.2.2.1.length:=a3
 have a2:gM (ia s.2.2.1 i):=a2
 have a4:∀k,0<=k->k<(s.2.2.1.length:Int)->aP (ia s.2.2.1 i) k=aP s.2.2.1 k:=a4
 obtain⟨b1,b2,b3,b4⟩:=ye (j.toNat+1) (ia s.2.2.1 i) j a2 j0 (by omega) (Nat.lt_succ_self _)
 have b1:tg (ia s.2.2.1 i) j=aP (ia s.2.2.1 i) j:=b1
 exact⟨b2,b3.trans a3,fun k k0 k1=>(b4 k k0 (by omega)).trans (a4 k k0 k1),a1,by rw[b1,a4 j j0 (by omega)]⟩
theorem pH.sm (h:pH s)(x y:Int):pH (smS s x y)/\(∀a b,Rl (smS s x y) a b↔Rl s a b)/\(GJ s x y=true↔Rl s x y):=by
 unfold smS UK GJ
 cases hx:ah s.1 x with
 |none=>exact⟨h,fun a b=>Iff.rfl,fun q=>by simp at q,fun⟨i,_,q,_⟩=>by rw[hx] at q;cases q⟩
 |some i=>
  cases hy:ah s.1 y with
  |none=>exact⟨h,fun a b=>Iff.rfl,fun q=>by simp at q,fun⟨_,j,_,q,_⟩=>by rw[hy] at q;cases q⟩
  |some j=>
   obtain⟨a1,a2,a3,a4,a5⟩:=Ue h hx hy
   obtain⟨b1,b2⟩:=h.up a1 a2 a3
   refine⟨b1,b2,?_⟩
   dsimp only
   rw[decide_eq_true_iff,a4,a5]
   constructor
   .exact fun q=>⟨i,j,hx,hy,q⟩
   rintro⟨i',j',k1,k2,k3⟩
   rw[hx] at k1
   rw[hy] at k2
   cases k1;cases k2
   exact k3
theorem Sl {M:jc}{L U:List Int}(h:lu M L U){z i:Int}(hz:ah M z=some i)(x:Int):ah (bQ M L x) z=some i:=by
 unfold bQ
 split
 .exact hz
 rename_i q
 rw[bO,if_neg]
 .exact hz
 intro e;rw[e,hz] at q;exact q rfl
theorem pH.jn (h:pH s)(x y:Int):pH (CU s x y)/\(Ye s x y=true↔¬(Rl s x y\/x=y))/\∀a b,Rl (CU s x y) a b↔(Rl (cQ (cQ s x) y) a b\/(Rl (cQ (cQ s x) y) a x/\Rl (cQ (cQ s x) y) y b)\/(Rl (cQ (cQ s x) y) a y/\Rl (cQ (cQ s x) y) x b)):=by
 obtain⟨h1,r1⟩:=h.add x
 obtain⟨h2,r2⟩:=h1.add y
 obtain⟨_,p0,p1,px⟩:=h.rep.put x
 obtain⟨_,p2,p3,py⟩:=h1.rep.put y
 have px:ah (cQ (cQ s x) y).1 x=some (c9 s.1 s.2.1 x):=Sl h1.rep px y
 have py:ah (cQ (cQ s x) y).1 y=some (c9 (cQ s x).1 (cQ s x).2.1 y):=py
 obtain⟨a1,a2,a3,a4,a5⟩:=Ue h2 px py
 have Mz:rU s.1 s.2.1 s.2.2.1 x y=aP (cQ (cQ s x) y).2.2.1 (c9 s.1 s.2.1 x):=a4
 have hrj:rV s.1 s.2.1 s.2.2.1 x y=aP (cQ (cQ s x) y).2.2.1 (c9 (cQ s x).1 (cQ s x).2.1 y):=a5
 have hT:Rl (cQ (cQ s x) y) x y↔rU s.1 s.2.1 s.2.2.1 x y=rV s.1 s.2.1 s.2.2.1 x y:=by
  rw[Mz,hrj]
  constructor
  .rintro⟨i,j,k1,k2,k3⟩
   rw[px] at k1
   rw[py] at k2
   cases k1;cases k2
   exact k3
  exact fun q=>⟨_,_,px,py,q⟩
 have hT2:Rl (cQ (cQ s x) y) x y↔Rl s x y\/x=y:=by
  rw[r2,r1]
  constructor
  .rintro((q|q)|q)
   .exact .inl q
   .exact .inr q.2.symm
   exact .inr q.1
  rintro(q|q)
  .exact .inl (.inl q)
  exact .inl (.inr ⟨rfl,q.symm⟩)
 have hS:∀U',KR s.1 s.2.1 s.2.2.1 x y=U'->CU s x y=((cQ (cQ s x) y).1,(cQ (cQ s x) y).2.1,U',Iz s.1 s.2.1 s.2.2.1 s.2.2.2 x y):=fun U' e=>by rw[<-e];rfl
 have hU2:Ov s.1 s.2.1 s.2.2.1 x y=ia (ia (cQ (cQ s x) y).2.2.1 (c9 s.1 s.2.1 x)) (c9 (cQ s x).1 (cQ s x).2.1 y):=rfl
 have hb:Ye s x y=true↔¬rU s.1 s.2.1 s.2.2.1 x y=rV s.1 s.2.1 s.2.2.1 x y:=by
  unfold Ye Ow
  split
  .rename_i q;exact⟨(fun z=>by cases z),fun z=>(z q).elim⟩
  rename_i q;exact⟨fun _=>q,fun _=>rfl⟩
 rw[hb,<-hT,hT2]
 generalize Oy:cQ (cQ s x) y=s2 at*
 have abF:=h2.rep.len
 obtain⟨i0,i1,_⟩:=h2.rep.at_ _ _ px
 obtain⟨j0,j1,_⟩:=h2.rep.at_ _ _ py
 by_cases q:rU s.1 s.2.1 s.2.2.1 x y=rV s.1 s.2.1 s.2.2.1 x y
 .have eU:KR s.1 s.2.1 s.2.2.1 x y=Ov s.1 s.2.1 s.2.2.1 x y:=if_pos q
  have eG:Iz s.1 s.2.1 s.2.2.1 s.2.2.2 x y=s2.2.2.2:=by
   unfold Iz;rw[if_pos q,<-Oy];rfl
  rw[hS _ (eU.trans hU2),eG]
  obtain⟨b1,b2⟩:=h2.up a1 a2 a3
  refine⟨b1,Iff.rfl,fun a b=>?_⟩
  rw[b2]
  have HR:=hT.2 q
  exact⟨.inl,fun z=>z.elim id fun z=>z.elim (fun⟨z1,z2⟩=>z1.trans (HR.trans z2)) fun⟨z1,z2⟩=>z1.trans (HR.symm.trans z2)⟩
 obtain⟨b1,b2⟩:=h2.up a1 a2 a3
 generalize hv:ia (ia s2.2.2.1 (c9 s.1 s.2.1 x)) (c9 (cQ s x).1 (cQ s x).2.1 y)=V at*
 have eU:KR s.1 s.2.1 s.2.2.1 x y=V.set (max (rU s.1 s.2.1 s.2.2.1 x y) (rV s.1 s.2.1 s.2.2.1 x y)).toNat (min (rU s.1 s.2.1 s.2.2.1 x y) (rV s.1 s.2.1 s.2.2.1 x y)):=by
  have:KR s.1 s.2.1 s.2.2.1 x y=(Ov s.1 s.2.1 s.2.2.1 x y).set (max (rU s.1 s.2.1 s.2.2.1 x y) (rV s.1 s.2.1 s.2.2.1 x y)).toNat (min (rU s.1 s.2.1 s.2.2.1 x y) (rV s.1 s.2.1 s.2.2.1 x y)):=if_neg q
  rw[this,hU2]
 have eG:Iz s.1 s.2.1 s.2.2.1 s.2.2.2 x y=s2.2.2.2-1:=by
  unfold Iz;rw[if_neg q,<-Oy];rfl
 rw[hS _ eU,eG,Mz,hrj]
 rw[Mz,hrj] at q
 generalize hpi:c9 s.1 s.2.1 x=pi at*
 generalize hpj:c9 (cQ s x).1 (cQ s x).2.1 y=pj at*
 obtain⟨u1,u2,u3⟩:=gZ h2.rep.ok i0 (show pi<(s2.2.2.1.length:Int) by omega)
 obtain⟨v1,v2,v3⟩:=gZ h2.rep.ok j0 (show pj<(s2.2.2.1.length:Int) by omega)
 have Oz:=nW h2.rep.ok i0 (show pi<(s2.2.2.1.length:Int) by omega)
 have OA:=nW h2.rep.ok j0 (show pj<(s2.2.2.1.length:Int) by omega)
 generalize hr:aP s2.2.2.1 pi=r at*
 generalize ht:aP s2.2.2.1 pj=t at*
 have hrV:V.getD r.toNat 0=r:=by
  have e:=a3 r u1 (by omega)
  have:=(gZ a1 u1 (show r<(V.length:Int) by omega)).2.2
  rw[e,Oz] at this;exact this
 have htV:V.getD t.toNat 0=t:=by
  have e:=a3 t v1 (by omega)
  have:=(gZ a1 v1 (show t<(V.length:Int) by omega)).2.2
  rw[e,OA] at this;exact this
 obtain⟨c1,c2⟩:=Sh a1 u1 v1 (by omega) (by omega) hrV htV q
 generalize hW:V.set (max r t).toNat (min r t)=Wn at*
 have GK:Wn.length=s2.2.2.1.length:=by rw[<-hW,List.length_set];exact a2
 have c3:∀k,0<=k->k<(s2.2.2.1.length:Int)->aP Wn k=if aP s2.2.2.1 k=max r t then min r t else aP s2.2.2.1 k:=fun k k0 k1=>by rw[c2 k k0 (by omega),a3 k k0 k1]
 have hmx:0<=max r t/\max r t<(s2.2.2.1.length:Int)/\aP s2.2.2.1 (max r t)=max r t/\max r t≠min r t/\aP s2.2.2.1 (min r t)=min r t:=by
  rcases Int.le_total r t with z|z
  .rw[Int.max_eq_right z,Int.min_eq_left z];exact⟨v1,by omega,OA,fun e=>q e.symm,Oz⟩
  rw[Int.max_eq_left z,Int.min_eq_right z];exact⟨u1,by omega,Oz,q,OA⟩
 obtain⟨m1,m2,m3,m4,m5⟩:=hmx
 refine⟨⟨⟨c1,GK.trans h2.rep.len,h2.rep.at_,h2.rep.th,h2.rep.ex⟩,?_⟩,Iff.rfl,fun a b=>?_⟩
 .show s2.2.2.2-1=(mP Wn:Int)
  have aa8:mP Wn+1=mP s2.2.2.1:=by
   unfold mP
   rw[GK]
   refine nX (m:=(max r t).toNat) (by omega) ?_ ?_ fun k hk dL=>?_
   .rw[decide_eq_true_iff,Int.toNat_of_nonneg m1];exact m3
   .rw[decide_eq_false_iff_not,Int.toNat_of_nonneg m1,c3 _ m1 m2,if_pos m3];exact fun e=>m4 e.symm
   rw[decide_eq_decide,c3 k (by omega) (by omega)]
   by_cases z:aP s2.2.2.1 (k:Int)=max r t
   .rw[if_pos z,z]
    constructor
    .intro e;omega
    intro e
    have:aP s2.2.2.1 (k:Int)=min r t:=by rw[<-e];exact m5
    omega
   rw[if_neg z]
  have:=h2.cnt
  omega
 have key:∀z i,ah s2.1 z=some i->0<=i/\i<(s2.2.2.1.length:Int):=fun z i hz=>by
  obtain⟨q1,q2,_⟩:=h2.rep.at_ z i hz
  exact⟨q1,by omega⟩
 constructor
 .rintro⟨i,j,k1,k2,k3⟩
  have k3:aP Wn i=aP Wn j:=k3
  obtain⟨e0,e1⟩:=key a i k1
  obtain⟨f0,f1⟩:=key b j k2
  rw[c3 i e0 e1,c3 j f0 f1] at k3
  have Fe:(max r t=r/\min r t=t)\/(max r t=t/\min r t=r):=by
   rcases Int.le_total r t with z|z
   .exact .inr ⟨Int.max_eq_right z,Int.min_eq_left z⟩
   exact .inl ⟨Int.max_eq_left z,Int.min_eq_right z⟩
  have Ad:∀z i,ah s2.1 z=some i->aP s2.2.2.1 i=r->Rl s2 z x:=fun z i hz e=>⟨i,pi,hz,px,by rw[e,hr]⟩
  have Kb:∀z i,ah s2.1 z=some i->aP s2.2.2.1 i=t->Rl s2 z y:=fun z i hz e=>⟨i,pj,hz,py,by rw[e,ht]⟩
  split at k3<;>split at k3
  .rename_i z1 z2;exact .inl ⟨i,j,k1,k2,z1.trans z2.symm⟩
  .rename_i z1 z2
   rcases Fe with⟨n1,n2⟩|⟨n1,n2⟩
   .exact .inr (.inl ⟨Ad a i k1 (z1.trans n1),(Kb b j k2 (k3.symm.trans n2)).symm⟩)
   exact .inr (.inr ⟨Kb a i k1 (z1.trans n1),(Ad b j k2 (k3.symm.trans n2)).symm⟩)
  .rename_i z1 z2
   rcases Fe with⟨n1,n2⟩|⟨n1,n2⟩
   .exact .inr (.inr ⟨Kb a i k1 (k3.trans n2),(Ad b j k2 (z2.trans n1)).symm⟩)
   exact .inr (.inl ⟨Ad a i k1 (k3.trans n2),(Kb b j k2 (z2.trans n1)).symm⟩)
  exact .inl ⟨i,j,k1,k2,k3⟩
 have abG:∀z i,ah s2.1 z=some i->ah (s2.1,s2.2.1,Wn,s2.2.2.2-1).1 z=some i:=fun z i hz=>hz
 have eqx:∀z,Rl s2 z x->∃i,ah s2.1 z=some i/\aP s2.2.2.1 i=r:=fun z ⟨i,j,k1,k2,k3⟩=>by
  rw[px] at k2;cases k2
  exact⟨i,k1,by rw[k3,hr]⟩
 have eqy:∀z,Rl s2 z y->∃i,ah s2.1 z=some i/\aP s2.2.2.1 i=t:=fun z ⟨i,j,k1,k2,k3⟩=>by
  rw[py] at k2;cases k2
  exact⟨i,k1,by rw[k3,ht]⟩
 have both:∀e,(e=r\/e=t)->(if e=max r t then min r t else e)=min r t:=fun e he=>by
  rcases Int.le_total r t with z|z
  .rw[Int.max_eq_right z,Int.min_eq_left z]
   rcases he with rfl|rfl
   .split<;>rfl
   rw[if_pos rfl]
  rw[Int.max_eq_left z,Int.min_eq_right z]
  rcases he with rfl|rfl
  .rw[if_pos rfl]
  split<;>rfl
 rintro(⟨i,j,k1,k2,k3⟩|⟨z1,z2⟩|⟨z1,z2⟩)
 .obtain⟨e0,e1⟩:=key a i k1
  obtain⟨f0,f1⟩:=key b j k2
  exact⟨i,j,k1,k2,by show aP Wn i=aP Wn j;rw[c3 i e0 e1,c3 j f0 f1,k3]⟩
 .obtain⟨i,k1,k2⟩:=eqx a z1
  obtain⟨j,l1,l2⟩:=eqy b z2.symm
  obtain⟨e0,e1⟩:=key a i k1
  obtain⟨f0,f1⟩:=key b j l1
  exact⟨i,j,k1,l1,by show aP Wn i=aP Wn j;rw[c3 i e0 e1,c3 j f0 f1,both _ (.inl k2),both _ (.inr l2)]⟩
 obtain⟨i,k1,k2⟩:=eqy a z1
 obtain⟨j,l1,l2⟩:=eqx b z2.symm
 obtain⟨e0,e1⟩:=key a i k1
 obtain⟨f0,f1⟩:=key b j l1
 exact⟨i,j,k1,l1,by show aP Wn i=aP Wn j;rw[c3 i e0 e1,c3 j f0 f1,both _ (.inr k2),both _ (.inl l2)]⟩
theorem pH.one (h:pH s):s.2.2.2<=1↔∀a b,(ah s.1 a).isSome=true->(ah s.1 b).isSome=true->Rl s a b:=by
 obtain⟨hr,hc⟩:=h
 have hlen:=hr.len
 constructor
 .intro h1 a b ha hb
  obtain⟨i,hi⟩:=Option.isSome_iff_exists.1 ha
  obtain⟨j,hj⟩:=Option.isSome_iff_exists.1 hb
  obtain⟨i0,i1,_⟩:=hr.at_ a i hi
  obtain⟨j0,j1,_⟩:=hr.at_ b j hj
  refine⟨i,j,hi,hj,Classical.byContradiction fun q=>?_⟩
  obtain⟨u1,u2,_⟩:=gZ hr.ok i0 (by omega)
  obtain⟨v1,v2,_⟩:=gZ hr.ok j0 (by omega)
  have ui:=nW hr.ok i0 (by omega)
  have vi:=nW hr.ok j0 (by omega)
  have zV:2<=mP s.2.2.1:=by
   unfold mP
   have e1:=nX (n:=s.2.2.1.length) (p:=fun i:Nat=>decide (aP s.2.2.1 (i:Int)=(i:Int))) (q:=fun k:Nat=>decide (aP s.2.2.1 (k:Int)=(k:Int)) && !decide (k=(aP s.2.2.1 i).toNat)) (m:=(aP s.2.2.1 i).toNat) (by omega) (by rw[decide_eq_true_iff,Int.toNat_of_nonneg u1];exact ui) (by simp) fun k hk dL=>by simp[dL]
   have e2:=nX (n:=s.2.2.1.length) (p:=fun k:Nat=>decide (aP s.2.2.1 (k:Int)=(k:Int)) && !decide (k=(aP s.2.2.1 i).toNat)) (q:=fun k:Nat=>(decide (aP s.2.2.1 (k:Int)=(k:Int)) && !decide (k=(aP s.2.2.1 i).toNat)) && !decide (k=(aP s.2.2.1 j).toNat)) (m:=(aP s.2.2.1 j).toNat) (by omega) (by
    rw[Int.toNat_of_nonneg v1,decide_eq_true vi]
    simp only[Bool.true_and,Bool.not_eq_true',decide_eq_false_iff_not]
    omega) (by simp) fun k hk dL=>by simp[dL]
   omega
  omega
 intro h1
 refine Classical.byContradiction fun q=>?_
 have zV:2<=mP s.2.2.1:=by omega
 have hex:∃i,i<s.2.2.1.length/\aP s.2.2.1 (i:Int)=(i:Int):=by
  refine Classical.byContradiction fun z=>?_
  have:mP s.2.2.1=0:=by
   unfold mP
   rw[List.countP_eq_zero]
   intro k hk e
   exact z ⟨k,List.mem_range.1 hk,of_decide_eq_true e⟩
  omega
 obtain⟨i,hi,ei⟩:=hex
 have aa9:∃j,j<s.2.2.1.length/\aP s.2.2.1 (j:Int)=(j:Int)/\j≠i:=by
  refine Classical.byContradiction fun z=>?_
  have e1:=nX (n:=s.2.2.1.length) (p:=fun i:Nat=>decide (aP s.2.2.1 (i:Int)=(i:Int))) (q:=fun _=>false) (m:=i) hi (decide_eq_true ei) rfl fun k hk dL=>decide_eq_false fun e=>z ⟨k,hk,e,dL⟩
  have e2:(List.range s.2.2.1.length).countP (fun _=>false)=0:=by rw[List.countP_eq_zero];intro k _ e;cases e
  unfold mP at zV
  omega
 obtain⟨j,hj,ej,dL⟩:=aa9
 have ai:=hr.ex i (by omega)
 have aj:=hr.ex j (by omega)
 obtain⟨i',j',k1,k2,k3⟩:=h1 _ _ (by rw[ai];rfl) (by rw[aj];rfl)
 rw[ai] at k1
 rw[aj] at k2
 cases k1;cases k2
 rw[ei,ej] at k3
 omega
end
def mQ:Nat->S4
 |0=>([],[],[],0)
 |k+1=>cQ (mQ k) (k:Int)
theorem KS {i:Int}(h:0<=i):mQ (i+1).toNat=cQ (mQ i.toNat) i:=by
 rw[show(i+1).toNat=i.toNat+1 by omega]
 show cQ _ ((i.toNat:Nat):Int)=_
 rw[Int.toNat_of_nonneg h]
theorem wg:∀k,pH (mQ k)/\(mQ k).2.1.length=k/\(∀x,(ah (mQ k).1 x).isSome=true↔0<=x/\x<(k:Int))/\∀a b,Rl (mQ k) a b↔0<=a/\a<(k:Int)/\a=b
 |0=>⟨pH.nil,rfl,fun x=>⟨(fun h=>by cases h),fun h=>by omega⟩,fun a b=>⟨(fun⟨i,_,h,_⟩=>by cases h),fun h=>by omega⟩⟩
 |k+1=>by
  obtain⟨h1,h2,h3,h4⟩:=wg k
  obtain⟨k1,k2⟩:=h1.add (k:Int)
  have hn:ah (mQ k).1 (k:Int)=none:=by
   cases hq:ah (mQ k).1 (k:Int) with
   |none=>rfl
   |some _=>have:=(h3 (k:Int)).1 (by rw[hq];rfl);omega
  refine⟨k1,?_,fun x=>?_,fun a b=>?_⟩
  .show(bX (mQ k).1 (mQ k).2.1 (k:Int)).length=_
   unfold bX;rw[hn];simp[h2]
  .show(ah (bQ (mQ k).1 (mQ k).2.1 (k:Int)) x).isSome=true↔_
   unfold bQ;rw[hn]
   simp only[Option.isSome_none,Bool.false_eq_true,if_false]
   rw[bO]
   split
   .exact⟨fun _=>by omega,fun _=>rfl⟩
   rw[h3];omega
  show Rl (cQ (mQ k) (k:Int)) a b↔_
  rw[k2,h4]
  omega
def oF (ow:jc)(l:List Int)(i:Int)(s:S4×jc)(k:Nat):Option (S4×jc):=
 if(ah ow (l.getD k 0)).isSome=false\/(ah s.2 (l.getD k 0)).isSome=true\/(0<k/\l.getD k 0<=l.getD (k-1) 0) then none
 else if k=0 then some (s.1,cB s.2 (l.getD k 0) i)
 else if Ye s.1 ((ah ow (l.getD 0 0)).getD 0) ((ah ow (l.getD k 0)).getD 0)=true then some (CU s.1 ((ah ow (l.getD 0 0)).getD 0) ((ah ow (l.getD k 0)).getD 0),cB s.2 (l.getD k 0) i) else none
def runK (ow:jc)(l:List Int)(i:Int)(s:S4×jc):Nat->Option (S4×jc)
 |0=>some s
 |k+1=>(runK ow l i s k).bind fun z=>oF ow l i z k
def lW (ow:jc)(S:List (List Int))(s:S4×jc)(i:Nat):Option (S4×jc):=
 if(S.getD i []).length<2\/(0<i/\(S.getD i []).getD 0 0<=(S.getD (i-1) []).getD 0 0) then none else runK ow (S.getD i []) (i:Int) s (S.getD i []).length
def iU (ow:jc)(S:List (List Int))(N:Nat):Nat->Option (S4×jc)
 |0=>some (mQ N,[])
 |i+1=>(iU ow S N i).bind fun s=>lW ow S s i
def bA (n:Int)(E:List (Int×Int))(V L:List Int)(T S:List (List Int)):Int:=
 if fW n E V L T≠0 then fW n E V L T
 else match iU (bL E (az n E V L) (aa n E V L T).1 (aa n E V L T).1.length) S (az n E V L).length S.length with
  |none=>7
  |some s=>if 1<s.1.2.2.2 then 7 else 0
structure OB (ow:jc)(N:Nat):Prop where
 v:∀x c,ah ow x=some c->0<=c/\c<(N:Int)
 len:ow.length<=100000
structure yS (ow:jc)(N:Nat)(s:S4×jc):Prop where
 ok:pH s.1
 len:s.1.2.1.length=N
 all:∀x,0<=x->x<(N:Int)->(ah s.1.1 x).isSome=true
 kn:KN s.2
 sub:∀x,(ah s.2 x).isSome=true->(ah ow x).isSome=true
section
variable {ow:jc}{N:Nat}{s:S4×jc}{l:List Int}{S:List (List Int)}
theorem yS.start:yS ow N (mQ N,[]):=by
 obtain⟨h1,h2,h3,_⟩:=wg N
 exact⟨h1,h2,fun x h h'=>(h3 x).2 ⟨h,h'⟩,B6,fun x h=>by cases h⟩
theorem yS.th (h:yS ow N s)(ho:OB ow N):s.2.length<=100000:=by
 have:=h.kn.length_le_of_subset (l₂:=ow.map (·.1)) fun x hx=>mem_keys.2 (h.sub x (mem_keys.1 hx))
 rw[List.length_map,List.length_map] at this
 exact Nat.le_trans this ho.len
theorem IA {M:jc}{L:List Int}{x:Int}(h:(ah M x).isSome=true):bX M L x=L:=if_pos h
theorem Ci {M:jc}{L:List Int}{x:Int}(h:(ah M x).isSome=true):bQ M L x=M:=if_pos h
theorem yS.jn (h:yS ow N s){x y:Int}(x0:0<=x)(x1:x<(N:Int))(y0:0<=y)(y1:y<(N:Int)):pH (CU s.1 x y)/\(CU s.1 x y).2.1.length=N/\(CU s.1 x y).1=s.1.1:=by
 have hx:=h.all x x0 x1
 have hy:=h.all y y0 y1
 have e1:(CU s.1 x y).1=s.1.1:=by
  show bQ (bQ s.1.1 s.1.2.1 x) (bX s.1.1 s.1.2.1 x) y=_
  rw[Ci hx,Ci hy]
 have e2:(CU s.1 x y).2.1=s.1.2.1:=by
  show bX (bQ s.1.1 s.1.2.1 x) (bX s.1.1 s.1.2.1 x) y=_
  rw[Ci hx,IA hx,IA hy]
 exact⟨(h.ok.jn x y).1,by rw[e2];exact h.len,e1⟩
theorem yS.met (h:yS ow N s){x i:Int}(hx:(ah ow x).isSome=true):yS ow N (s.1,cB s.2 x i):=
 ⟨h.ok,h.len,h.all,Eh h.kn _ _,fun z hz=>by
  have hz:(ah (cB s.2 x i) z).isSome=true:=hz
  rw[bO] at hz
  split at hz
  .rename_i e;rw[<-e];exact hx
  exact h.sub z hz⟩
theorem wh (ho:OB ow N){i:Int}{k:Nat}(hl:0<k->(ah ow (l.getD 0 0)).isSome=true){z:S4×jc}(h:yS ow N s)(e:oF ow l i s k=some z):yS ow N z:=by
 unfold oF at e
 split at e
 .cases e
 rename_i q
 have hx:(ah ow (l.getD k 0)).isSome=true:=by
  cases hq:(ah ow (l.getD k 0)).isSome with
  |true=>rfl
  |false=>exact(q (.inl hq)).elim
 split at e
 .cases e;exact h.met hx
 rename_i hk0
 split at e
 .cases e
  obtain⟨c0,hc0⟩:=Option.isSome_iff_exists.1 (hl (by omega))
  obtain⟨c1,zT⟩:=Option.isSome_iff_exists.1 hx
  have b0:=ho.v _ _ hc0
  have b1:=ho.v _ _ zT
  have hj:=h.jn b0.1 b0.2 b1.1 b1.2
  rw[hc0,zT]
  have h':yS ow N (CU s.1 c0 c1,s.2):=⟨hj.1,hj.2.1,fun x h0 h1=>by show(ah (CU s.1 c0 c1).1 x).isSome=true;rw[hj.2.2];exact h.all x h0 h1,h.kn,h.sub⟩
  exact h'.met hx
 cases e
theorem mR {i:Int}{k:Nat}(h:runK ow l i s k=none):∀ {m:Nat},k<=m->runK ow l i s m=none
 |0,hm=>by rw[show k=0 by omega] at h;exact h
 |m+1,hm=>by
  by_cases q:k=m+1
  .rw[<-q];exact h
  show(runK ow l i s m).bind _=none
  rw[mR h (m:=m) (by omega)];rfl
theorem AR {k:Nat}(h:iU ow S N k=none):∀ {m:Nat},k<=m->iU ow S N m=none
 |0,hm=>by rw[show k=0 by omega] at h;exact h
 |m+1,hm=>by
  by_cases q:k=m+1
  .rw[<-q];exact h
  show(iU ow S N m).bind _=none
  rw[AR h (m:=m) (by omega)];rfl
theorem nY {i:Int}:∀ {k:Nat} {z:S4×jc},0<k->runK ow l i s k=some z->(ah ow (l.getD 0 0)).isSome=true
 |1,z,_,h=>by
  have h:(some s).bind (fun z=>oF ow l i z 0)=some z:=h
  have h:oF ow l i s 0=some z:=h
  unfold oF at h
  split at h
  .cases h
  rename_i q
  cases hq:(ah ow (l.getD 0 0)).isSome with
  |true=>rfl
  |false=>exact(q (.inl hq)).elim
 |k+2,z,_,h=>by
  have h:(runK ow l i s (k+1)).bind (fun z=>oF ow l i z (k+1))=some z:=h
  cases hq:runK ow l i s (k+1) with
  |none=>rw[hq] at h;cases h
  |some y=>exact nY (k:=k+1) (by omega) hq
theorem qu {i:Int}{k:Int}{z:S4×jc}(h0:0<=k)(h:runK ow l i s k.toNat=some z):runK ow l i s (k+1).toNat=oF ow l i z k.toNat:=by
 rw[show(k+1).toNat=k.toNat+1 by omega]
 show(runK ow l i s k.toNat).bind _=_
 rw[h];rfl
theorem uw {i:Int}{z:S4×jc}(h0:0<=i)(h:iU ow S N i.toNat=some z):iU ow S N (i+1).toNat=lW ow S z i.toNat:=by
 rw[show(i+1).toNat=i.toNat+1 by omega]
 show(iU ow S N i.toNat).bind _=_
 rw[h];rfl
theorem mS {i:Int}{z:S4×jc}(h0:0<=i)(hi:i<(S.length:Int))(h:iU ow S N i.toNat=some z)(hb:lW ow S z i.toNat=none):iU ow S N S.length=none:=
 AR (k:=(i+1).toNat) (by rw[uw h0 h];exact hb) (by omega)
theorem AS {i:Int}{z:S4×jc}(h0:0<=i)(h:((S.getD i.toNat []).length:Int)<2\/(0<i/\(S.getD i.toNat []).getD 0 0<=(S.getD (i-1).toNat []).getD 0 0)):lW ow S z i.toNat=none:=by
 unfold lW
 rw[if_pos]
 rcases h with h|⟨h1,h2⟩
 .exact .inl (by omega)
 exact .inr ⟨by omega,by rw[show i.toNat-1=(i-1).toNat by omega];exact h2⟩
theorem qv {i:Int}{z:S4×jc}(h0:0<=i)(h:¬(((S.getD i.toNat []).length:Int)<2)/\(¬(0<i)\/¬((S.getD i.toNat []).getD 0 0<=(S.getD (i-1).toNat []).getD 0 0))):lW ow S z i.toNat=runK ow (S.getD i.toNat []) i z (S.getD i.toNat []).length:=by
 unfold lW
 rw[if_neg,Int.toNat_of_nonneg h0]
 rintro(q|⟨q1,q2⟩)
 .exact h.1 (by omega)
 rw[show i.toNat-1=(i-1).toNat by omega] at q2
 exact h.2.elim (fun z=>z (by omega)) fun z=>z q2
theorem EE {i k:Int}{z:S4×jc}(h0:0<=k)(h:((ah ow (l.getD k.toNat 0)).isSome=false\/(ah z.2 (l.getD k.toNat 0)).isSome=true)\/(0<k/\l.getD k.toNat 0<=l.getD (k-1).toNat 0)):oF ow l i z k.toNat=none:=by
 unfold oF
 rw[if_pos]
 rcases h with(h|h)|⟨h1,h2⟩
 .exact .inl h
 .exact .inr (.inl h)
 exact .inr (.inr ⟨by omega,by rw[show k.toNat-1=(k-1).toNat by omega];exact h2⟩)
theorem AT {i k:Int}{z:S4×jc}(h0:0<=k)(h:((ah ow (l.getD k.toNat 0)).isSome=true/\(ah z.2 (l.getD k.toNat 0)).isSome=false)/\(¬(0<k)\/¬(l.getD k.toNat 0<=l.getD (k-1).toNat 0))):
  oF ow l i z k.toNat=if k=0 then some (z.1,cB z.2 (l.getD k.toNat 0) i) else if Ye z.1 ((ah ow (l.getD 0 0)).getD 0) ((ah ow (l.getD k.toNat 0)).getD 0)=true then some (CU z.1 ((ah ow (l.getD 0 0)).getD 0) ((ah ow (l.getD k.toNat 0)).getD 0),cB z.2 (l.getD k.toNat 0) i) else none:=by
 unfold oF
 rw[if_neg]
 .by_cases q:k=0
  .rw[if_pos (by omega),if_pos q]
  rw[if_neg (by omega),if_neg q]
 rintro(q|q|⟨q1,q2⟩)
 .rw[h.1.1] at q;cases q
 .rw[h.1.2] at q;cases q
 rw[show k.toNat-1=(k-1).toNat by omega] at q2
 exact h.2.elim (fun z=>z (by omega)) fun z=>z q2
end
theorem OC {n:Int}{E:List (Int×Int)}{V L:List Int}{P:kQ}{W:List (Int×List Int)}(hp:aA n E V L=0)(hP:u7 E V L P)(hW:s8 E V L W):∀ {k:Nat},k<=W.length->∀x c,ah (bL E P W k) x=some c->0<=c/\c<(P.length:Int)
 |0,_,x,c,h=>by cases h
 |k+1,hk,x,c,h=>by
  have h:ah (cB (bL E P W k) (W.getD k (0,[])).1 ((ah (um P P.length) (fV E (W.getD k (0,[])))).getD 0)) x=some c:=h
  rw[bO] at h
  split at h
  .have hm:W.getD k (0,[])∈W:=aB.2 ⟨k,by omega,rfl⟩
   obtain⟨i,hi,_,e⟩:=Ca hP (qo hp hW hm)
   rw[e] at h
   have h:(i:Int)=c:=by injection h
   omega
  exact OC hp hP hW (k:=k) (by omega) x c h
theorem OB.at_ {ow:jc}{N:Nat}(h:OB ow N){x:Int}(hx:(ah ow x).isSome=true):0<=(ah ow x).getD 0/\(ah ow x).getD 0<(N:Int):=by
 obtain⟨c,hc⟩:=Option.isSome_iff_exists.1 hx
 rw[hc];exact h.v _ _ hc
theorem mT {ow:jc}{S:List (List Int)}{N:Nat}:∀ {i:Nat} {z:S4×jc},iU ow S N i=some z->∀j,j<i->2<=(S.getD j []).length
 |0,z,_,j,hj=>by omega
 |i+1,z,h,j,hj=>by
  have h:(iU ow S N i).bind (fun s=>lW ow S s i)=some z:=h
  cases hq:iU ow S N i with
  |none=>rw[hq] at h;cases h
  |some y=>
   by_cases e:j=i
   .subst e
    rw[hq] at h
    have h:lW ow S y j=some z:=h
    unfold lW at h
    split at h
    .cases h
    rename_i q
    exact Nat.le_of_not_lt fun z=>q (.inl z)
   exact mT hq j (by omega)
theorem OD {n:Int}{E:List (Int×Int)}{V L:List Int}(hp:aA n E V L=0){W:List (Int×List Int)}(h:s8 E V L W){w:Int×List Int}(hw:w∈W):(w.2.length=0/\-1<=-1-w.1/\-1-w.1<=1000000)\/(w.2.length≠0/\0<=w.1/\w.1/2<(E.length:Int)/\w.1<=1000000):=by
 obtain⟨hr,hV,hL,eE⟩:=aD hp
 obtain⟨r1,r2,r3,r4⟩:=aN hr
 rcases h.key w hw with⟨q,z⟩|⟨q,z⟩
 .have:=(aG.1 hV).2 _ z
  exact .inl ⟨q,by omega,by omega⟩
 have:=cv hp z
 exact .inr ⟨q,by omega,by omega,by omega⟩
theorem bf {n:Int}{E:List (Int×Int)}{V L:List Int}{T:List (List Int)}(h:fW n E V L T=0):(aa n E V L T).2=0:=by
 rw[dm,<-vZ (V:=V)]
 unfold fW at h
 split at h
 .exact h
 rename_i q;exact Classical.not_not.1 q
section
variable {n:Int}{E:List (Int×Int)}{V L:List Int}{T S:List (List Int)}
theorem kO (h:fW n E V L T≠0):bA n E V L T S=fW n E V L T:=if_pos h
theorem gE (h:fW n E V L T=0)(hb:iU (bL E (az n E V L) (aa n E V L T).1 (aa n E V L T).1.length) S (az n E V L).length S.length=none):bA n E V L T S=7:=by
 unfold bA;rw[if_neg (fun q=>q h),hb]
theorem nZ {s:S4×jc}(h:fW n E V L T=0)(hb:iU (bL E (az n E V L) (aa n E V L T).1 (aa n E V L T).1.length) S (az n E V L).length S.length=some s):bA n E V L T S=if 1<s.1.2.2.2 then 7 else 0:=by
 unfold bA;rw[if_neg (fun q=>q h),hb]
end
def cL (E:List (Int×Int))(v:Int)(l:List Int):Int:=if l.findIdx (fun x=>decide (ak E x=v))<l.length then((l.findIdx fun x=>decide (ak E x=v):Nat):Int) else -1
section
variable {E:List (Int×Int)}{v:Int}{l:List Int}
theorem EF {i:Int}(h0:0<=i)(h1:i<(l.length:Int))(h2:ak E (l.getD i.toNat 0)=v)(h3:∀j:Nat,(j:Int)<i->¬ak E (l.getD j 0)=v):cL E v l=i:=by
 have hi:i.toNat<l.length:=by omega
 have hg:∀j (hj:j<l.length),l.getD j 0=l[j]:=fun j hj=>by rw[List.getD_eq_getElem?_getD,List.getElem?_eq_getElem hj];rfl
 have h:l.findIdx (fun x=>decide (ak E x=v))=i.toNat:=(List.findIdx_eq hi).2 ⟨by rw[<-hg i.toNat hi];simpa using h2,fun j hj=>by
  have:=h3 j (by omega)
  rw[hg j (by omega)] at this
  simpa using this⟩
 unfold cL
 rw[h,if_pos hi];omega
theorem IB (h:∀j:Nat,(j:Int)<(l.length:Int)->¬ak E (l.getD j 0)=v):cL E v l= -1:=by
 unfold cL
 rw[if_neg]
 intro q
 have:=List.findIdx_getElem (w:=q)
 have hj:=h _ (show((l.findIdx fun x=>decide (ak E x=v):Nat):Int)<_ by omega)
 rw[List.getD_eq_getElem?_getD,List.getElem?_eq_getElem q] at hj
 exact hj (by simpa using this)
theorem V6: -1<=cL E v l/\cL E v l<(l.length:Int):=by
 unfold cL;split<;>omega
end
def AU (E:List (Int×Int))(s:List Int×List (List Int))(d:Int):List Int×List (List Int):=
 if cL E (ak E (aq d)) (s.1++[d])<0 then(s.1++[d],s.2)
 else((s.1++[d]).take (cL E (ak E (aq d)) (s.1++[d])).toNat,
  if(((s.1++[d]).drop (cL E (ak E (aq d)) (s.1++[d])).toNat).length:Int)≠2\/((s.1++[d]).drop (cL E (ak E (aq d)) (s.1++[d])).toNat).getD 0 0≠aq (((s.1++[d]).drop (cL E (ak E (aq d)) (s.1++[d])).toNat).getD 1 0)
  then s.2++[(s.1++[d]).drop (cL E (ak E (aq d)) (s.1++[d])).toNat] else s.2)
def Cj (E:List (Int×Int))(ds:List Int):Nat->List Int×List (List Int)
 |0=>([],[])
 |k+1=>AU E (Cj E ds k) (ds.getD k 0)
def zk (E:List (Int×Int))(d:Int):Prop:=0<=d/\d/2<(E.length:Int)
instance (E:List (Int×Int)) (d:Int):Decidable (zk E d):=inferInstanceAs (Decidable (_/\_))
def fP (n:Int)(E:List (Int×Int))(ds:List Int):List (List Int):=if bh n E=0/\∀d∈ds,zk E d then(Cj E ds ds.length).2 else[]
section
variable {n:Int}{E:List (Int×Int)}{ds:List Int}
theorem mU {i:Int}(h:0<=i):Cj E ds (i+1).toNat=AU E (Cj E ds i.toNat) (ds.getD i.toNat 0):=by
 rw[show(i+1).toNat=i.toNat+1 by omega];rfl
theorem Sm {s:List Int×List (List Int)}{d:Int}:(∀x∈(AU E s d).1,x∈s.1\/x=d)/\(∀l∈(AU E s d).2,l∈s.2\/∀x∈l,x∈s.1\/x=d):=by
 have ha:∀x,x∈s.1++[d]->x∈s.1\/x=d:=fun x hx=>(List.mem_append.1 hx).imp id fun h=>List.mem_singleton.1 h
 unfold AU
 split
 .exact⟨ha,fun l hl=>.inl hl⟩
 refine⟨fun x hx=>ha x (List.mem_of_mem_take hx),fun l hl=>?_⟩
 dsimp only at hl
 split at hl
 .rcases List.mem_append.1 hl with q|q
  .exact .inl q
  rw[List.mem_singleton.1 q];exact .inr fun x hx=>ha x (List.mem_of_mem_drop hx)
 exact .inl hl
theorem wj:∀k,k<=ds.length->(∀x∈(Cj E ds k).1,x∈ds)/\(∀l∈(Cj E ds k).2,∀x∈l,x∈ds)
 |0,_=>⟨fun x hx=>(by cases hx),fun l hl=>(by cases hl)⟩
 |k+1,hk=>by
  obtain⟨h1,h2⟩:=wj k (by omega)
  obtain⟨m1,m2⟩:=Sm (E:=E) (s:=Cj E ds k) (d:=ds.getD k 0)
  have hd:ds.getD k 0∈ds:=af (by omega)
  exact⟨fun x hx=>(m1 x hx).elim (h1 x) fun e=>e▸hd,fun l hl=>(m2 l hl).elim (h2 l) fun q x hx=>(q x hx).elim (h1 x) fun e=>e▸hd⟩
theorem Sn {s:List Int×List (List Int)}{d:Int}:(AU E s d).1.length<=s.1.length+1/\(AU E s d).2.length<=s.2.length+1:=by
 unfold AU
 split
 .simp only[List.length_append,List.length_cons,List.length_nil];omega
 refine⟨Nat.le_trans (List.length_take_le' ..) (by simp),?_⟩
 dsimp only
 split
 .simp
 omega
theorem qw:∀k,(Cj E ds k).1.length<=k/\(Cj E ds k).2.length<=k
 |0=>⟨Nat.le_refl _,Nat.le_refl _⟩
 |k+1=>by
  have h:=qw k
  have:=Sn (E:=E) (s:=Cj E ds k) (d:=ds.getD k 0)
  show(AU _ _ _).1.length<=_/\(AU _ _ _).2.length<=_
  omega
theorem V7 {s:List Int×List (List Int)}{d:Int}{N:Nat}(h:s.1.length<N)(hl:∀l∈s.2,l.length<=N):∀l∈(AU E s d).2,l.length<=N:=by
 intro l hx
 unfold AU at hx
 split at hx
 .exact hl l hx
 dsimp only at hx
 split at hx
 .rcases List.mem_append.1 hx with q|q
  .exact hl l q
  rw[List.mem_singleton.1 q,List.length_drop]
  simp only[List.length_append,List.length_cons,List.length_nil];omega
 exact hl l hx
theorem OE:∀k,k<=ds.length->∀l∈(Cj E ds k).2,l.length<=ds.length
 |0,_=>fun l hl=>(by cases hl)
 |k+1,hk=>by
  have h:=(qw (E:=E) (ds:=ds) k).1
  exact V7 (by omega) (OE k (by omega))
theorem IC {l:List Int}{B:Int}(hB:0<=B)(h:∀d∈l,0<=d/\d<=B)(k j:Nat):0<=(l.drop k).getD j 0/\(l.drop k).getD j 0<=B:=by
 rw[List.getD_eq_getElem?_getD]
 cases hq:(l.drop k)[j]? with
 |none=>exact⟨Int.le_refl _,hB⟩
 |some x=>exact h x (List.mem_of_mem_drop (List.mem_of_getElem? hq))
theorem ID {gone:List Int}{out:List (List Int)}{d:Int}(h:cL E (ak E (aq d)) (gone++[d])<0):AU E (gone,out) d=(gone++[d],out):=if_pos h
theorem IE {gone:List Int}{out:List (List Int)}{d:Int}(h:¬cL E (ak E (aq d)) (gone++[d])<0)(h2:¬(((gone++[d]).drop (cL E (ak E (aq d)) (gone++[d])).toNat).length:Int)=2\/¬((gone++[d]).drop (cL E (ak E (aq d)) (gone++[d])).toNat).getD 0 0=aq (((gone++[d]).drop (cL E (ak E (aq d)) (gone++[d])).toNat).getD 1 0)):
  AU E (gone,out) d=((gone++[d]).take (cL E (ak E (aq d)) (gone++[d])).toNat,out++[(gone++[d]).drop (cL E (ak E (aq d)) (gone++[d])).toNat]):=by
 unfold AU
 rw[if_neg h,if_pos h2]
theorem OF {gone:List Int}{out:List (List Int)}{d:Int}(h:¬cL E (ak E (aq d)) (gone++[d])<0)(h2:(((gone++[d]).drop (cL E (ak E (aq d)) (gone++[d])).toNat).length:Int)=2/\((gone++[d]).drop (cL E (ak E (aq d)) (gone++[d])).toNat).getD 0 0=aq (((gone++[d]).drop (cL E (ak E (aq d)) (gone++[d])).toNat).getD 1 0)):
  AU E (gone,out) d=((gone++[d]).take (cL E (ak E (aq d)) (gone++[d])).toNat,out):=by
 unfold AU
 rw[if_neg h,if_neg (by rintro(q|q);exact q h2.1;exact q h2.2)]
theorem ve (h:¬(bh n E=0/\∀d∈ds,zk E d)):fP n E ds=[]:=if_neg h
theorem GL (h:bh n E=0)(h2:∀d∈ds,zk E d):fP n E ds=(Cj E ds ds.length).2:=if_pos ⟨h,h2⟩
theorem yf {p:Int->Prop}{i:Int}(hi:i=(ds.length:Int))(h:∀j:Nat,(j:Int)<i->p (ds.getD j 0)):∀d∈ds,p d:=by
 intro d hd
 obtain⟨k,hk,e⟩:=List.getElem_of_mem hd
 have:=h k (by omega)
 rwa[List.getD_eq_getElem?_getD,List.getElem?_eq_getElem hk,show((some ds[k]:Option Int).getD 0)=ds[k] from rfl,e] at this
end
def EG (ds:List Int)(j:Nat):Int:=if j=0 then ds.getD (ds.length-1) 0 else ds.getD (j-1) 0
def Sq (E:List (Int×Int))(ds:List Int)(k:Nat):Prop:=
 (∀j,j<k->ak E (aq (EG ds j))=ak E (ds.getD j 0))/\∀j,j<k->∀i,i<j->¬ak E (ds.getD i 0)=ak E (ds.getD j 0)/\¬ds.getD i 0/2=ds.getD j 0/2
def yg (n:Int)(E:List (Int×Int))(V L:List Int)(ds:List Int):Prop:=aA n E V L=0/\ds≠[]/\(∀d∈ds,0<=d/\hasB L (d/2)=true)/\Sq E ds ds.length
instance (E:List (Int×Int)) (ds:List Int) (k:Nat):Decidable (Sq E ds k):=by unfold Sq;infer_instance
instance (n:Int) (E:List (Int×Int)) (V L:List Int) (ds:List Int):Decidable (yg n E V L ds):=by unfold yg;infer_instance
def mV (n:Int)(E:List (Int×Int))(V L:List Int)(ds:List Int):Bool:=decide (yg n E V L ds)
structure Sr (E:List (Int×Int))(ds:List Int)(k:Nat)(vm em:List (Int×Int))(a:Int):Prop where
 ok:Sq E ds k
 vk:∀x,(ah vm x).isSome=true↔∃j,j<k/\ak E (ds.getD j 0)=x
 ek:∀x,(ah em x).isSome=true↔∃j,j<k/\ds.getD j 0/2=x
 pr:a=EG ds k
 len:vm.length<=k/\em.length<=k
section
variable {E:List (Int×Int)}{ds:List Int}{vm em:List (Int×Int)}{a:Int}
theorem OG (h:ds≠[]){j:Nat}(hj:j<ds.length):EG ds j∈ds:=by
 have:=List.length_pos_iff.2 h
 unfold EG
 split
 .exact af (by omega)
 exact af (by omega)
theorem Sr.start:Sr E ds 0 [] [] (ds.getD (ds.length-1) 0):=
 ⟨⟨fun j h=>(by omega),fun j h=>(by omega)⟩,fun x=>⟨fun h=>(by cases h),fun⟨j,h,_⟩=>(by omega)⟩,fun x=>⟨fun h=>(by cases h),fun⟨j,h,_⟩=>(by omega)⟩,(if_pos rfl).symm,Nat.le_refl _,Nat.le_refl _⟩
theorem Sr.step {i:Int}(h0:0<=i)(h:Sr E ds i.toNat vm em a)(h1:((ah vm (ak E (ds.getD i.toNat 0))).isSome=false/\(ah em (ds.getD i.toNat 0/2)).isSome=false)/\ak E (aq a)=ak E (ds.getD i.toNat 0)):
  Sr E ds (i+1).toNat (cB vm (ak E (ds.getD i.toNat 0)) i) (cB em (ds.getD i.toNat 0/2) i) (ds.getD i.toNat 0):=by
 obtain⟨⟨g1,g2⟩,g3⟩:=h1
 have g1:¬(ah vm (ak E (ds.getD i.toNat 0))).isSome=true:=by rw[g1];decide
 have g2:¬(ah em (ds.getD i.toNat 0/2)).isSome=true:=by rw[g2];decide
 rw[show(i+1).toNat=i.toNat+1 by omega]
 have ZP:∀(m:List (Int×Int)) (f:Nat->Int) (x:Int),(∀x,(ah m x).isSome=true↔∃j,j<i.toNat/\f j=x)->((ah (cB m (f i.toNat) i) x).isSome=true↔∃j,j<i.toNat+1/\f j=x):=by
  intro m f x hm
  rw[bO]
  by_cases q:f i.toNat=x
  .rw[if_pos q];exact⟨fun _=>⟨_,Nat.lt_succ_self _,q⟩,fun _=>rfl⟩
  rw[if_neg q,hm]
  exact⟨fun⟨j,h1,h2⟩=>⟨j,by omega,h2⟩,fun⟨j,h1,h2⟩=>⟨j,by
   rcases Nat.lt_succ_iff_lt_or_eq.1 h1 with z|z
   .exact z
   subst z;exact absurd h2 q,h2⟩⟩
 refine⟨⟨fun j hj=>?_,fun j hj p hp=>?_⟩,fun x=>ZP vm (fun j=>ak E (ds.getD j 0)) x h.vk,fun x=>ZP em (fun j=>ds.getD j 0/2) x h.ek,?_,?_,?_⟩
 .rcases Nat.lt_succ_iff_lt_or_eq.1 hj with z|z
  .exact h.ok.1 j z
  subst z;rw[<-h.pr];exact g3
 .rcases Nat.lt_succ_iff_lt_or_eq.1 hj with z|z
  .exact h.ok.2 j z p hp
  subst z
  exact⟨fun e=>g1 ((h.vk _).2 ⟨p,hp,e⟩),fun e=>g2 ((h.ek _).2 ⟨p,hp,e⟩)⟩
 .unfold EG;rw[if_neg (by omega)];rfl
 .have:=dh vm (ak E (ds.getD i.toNat 0)) i;have:=h.len;omega
 have:=dh em (ds.getD i.toNat 0/2) i;have:=h.len;omega
theorem Sr.bad {i:Int}(h0:0<=i)(h:Sr E ds i.toNat vm em a)(hi:i.toNat<ds.length)(h1:((ah vm (ak E (ds.getD i.toNat 0))).isSome=true\/(ah em (ds.getD i.toNat 0/2)).isSome=true)\/¬ak E (aq a)=ak E (ds.getD i.toNat 0)):¬Sq E ds ds.length:=by
 intro hk
 rcases h1 with(q|q)|q
 .obtain⟨j,hj,e⟩:=(h.vk _).1 q;exact(hk.2 i.toNat hi j hj).1 e
 .obtain⟨j,hj,e⟩:=(h.ek _).1 q;exact(hk.2 i.toNat hi j hj).2 e
 exact q (by rw[h.pr];exact hk.1 _ hi)
theorem GM {n:Int}{V L:List Int}(h:¬yg n E V L ds):false=mV n E V L ds:=by unfold mV;rw[decide_eq_false h]
theorem Ss {n:Int}{V L:List Int}(h:yg n E V L ds):true=mV n E V L ds:=by unfold mV;rw[decide_eq_true h]
end
end Go.Proofs.YtnfdimfepbbbpaaGreat
namespace Go.Proofs.YtnfdimfepbbbpaaGreat
open Go.RowKit
open Go.Proofs.YtnfdimfepbbbpaaGreat.Deep
def pJ (N:Nat)(p:Nat->Bool):Int:=match(List.range N).find? p with
 |some i=>(i:Int)
 |none=> -1
section
variable {N:Nat}{p:Nat->Bool}
theorem yh {i:Int}(h0:0<=i)(hi:i<(N:Int))(h:p i.toNat=true)(hb:∀j:Nat,(j:Int)<i->p j=false):pJ N p=i:=by
 have:(List.range N).find? p=some i.toNat:=by
  rw[List.find?_range_eq_some]
  exact⟨h,List.mem_range.2 (by omega),fun j hj=>by rw[hb j (by omega)];rfl⟩
 unfold pJ
 rw[this]
 show((i.toNat:Nat):Int)=i
 omega
theorem Ck (hb:∀j:Nat,(j:Int)<(N:Int)->p j=false):pJ N p= -1:=by
 have:(List.range N).find? p=none:=by
  rw[List.find?_eq_none]
  intro j hj
  rw[hb j (by have:=List.mem_range.1 hj;omega)];decide
 unfold pJ
 rw[this]
theorem tj {i:Nat}(hi:i<N)(h:p i=true):∃j:Nat,pJ N p=(j:Int)/\j<=i/\p j=true:=by
 cases hq:(List.range N).find? p with
 |none=>
  rw[List.find?_eq_none] at hq
  exact absurd h (hq i (List.mem_range.2 hi))
 |some j=>
  have hj:=List.find?_range_eq_some.1 hq
  refine⟨j,by unfold pJ;rw[hq],Nat.le_of_not_lt fun z=>?_,hj.1⟩
  have:=hj.2.2 i z
  rw[h] at this;cases this
theorem V8: -1<=pJ N p/\pJ N p<(N:Int):=by
 unfold pJ
 cases hq:(List.range N).find? p with
 |none=>exact⟨Int.le_refl _,by show(-1:Int)<_;omega⟩
 |some j=>
  have hj:=List.mem_range.1 (List.find?_range_eq_some.1 hq).2.1
  show -1<=(j:Int)/\(j:Int)<_
  omega
end
def dK (W:List (Int×List Int))(key:Int):Int:=pJ W.length fun i=>decide ((W.getD i (0,[])).1=key)
def kR (E:List (Int×Int))(P:kQ)(w:Int×List Int):Int:=pJ P.length fun i=>decide (jD E w∈(P.getD i ([],[])).1)
theorem Wa {W:List (Int×List Int)}{key i:Int}(hi:(W.length:Int)<=i)(h:∀j:Nat,(j:Int)<i->decide ((W.getD j (0,[])).1=key)=false):dK W key= -1:=Ck fun j hj=>h j (by omega)
theorem Wb {E:List (Int×Int)}{P:kQ}{w:Int×List Int}{i:Int}(hi:(P.length:Int)<=i)(h:∀j:Nat,(j:Int)<i->decide (jD E w∈(P.getD j ([],[])).1)=false):kR E P w= -1:=Ck fun j hj=>h j (by omega)
def AV (S:List (List Int))(key:Int):Nat->List Int×Bool
 |0=>([key],true)
 |k+1=>if key∈S.getD k [] then(S.getD k [],decide ((S.getD k []).getD 0 0=key)) else AV S key k
def sg (S:List (List Int))(W:List (Int×List Int)):Nat->List (List Int)
 |0=>[]
 |k+1=>if(AV S (W.getD k (0,[])).1 S.length).2=true then sg S W k++[(AV S (W.getD k (0,[])).1 S.length).1] else sg S W k
section
variable {S:List (List Int)}{W:List (Int×List Int)}{key i:Int}
theorem Su (h0:0<=i)(h:decide (key∈S.getD i.toNat [])=true):AV S key (i+1).toNat=(S.getD i.toNat [],decide ((S.getD i.toNat []).getD 0 0=key)):=by
 rw[show(i+1).toNat=i.toNat+1 by omega];exact if_pos (of_decide_eq_true h)
theorem Wc (h0:0<=i)(h:decide (key∈S.getD i.toNat [])=false):AV S key (i+1).toNat=AV S key i.toNat:=by
 rw[show(i+1).toNat=i.toNat+1 by omega];exact if_neg (of_decide_eq_false h)
theorem Sv (h0:0<=i){l:List Int}(h:(l,true)=AV S (W.getD i.toNat (0,[])).1 S.length):sg S W (i+1).toNat=sg S W i.toNat++[l]:=by
 rw[show(i+1).toNat=i.toNat+1 by omega]
 show(if _ then _ else _)=_
 rw[<-h];rfl
theorem Wd (h0:0<=i){l:List Int}(h:(l,false)=AV S (W.getD i.toNat (0,[])).1 S.length):sg S W (i+1).toNat=sg S W i.toNat:=by
 rw[show(i+1).toNat=i.toNat+1 by omega]
 show(if _ then _ else _)=_
 rw[<-h];rfl
theorem Cl:∀k,(sg S W k).length<=k
 |0=>Nat.le_refl _
 |k+1=>by
  have:=Cl k
  unfold sg
  split
  .rw[List.length_append];simp;omega
  omega
end
def OH (W:List (Int×List Int))(R:List (List Int))(d:Int):Int:=pJ R.length fun i=>decide ((qL W d).1∈R.getD i [])
theorem We {W:List (Int×List Int)}{R:List (List Int)}{d i:Int}(hi:(R.length:Int)<=i)(h:∀j:Nat,(j:Int)<i->decide ((qL W d).1∈R.getD j [])=false):OH W R d= -1:=Ck fun j hj=>h j (by omega)
theorem Sw {W:List (Int×List Int)}{R:List (List Int)}{d i:Int}(h0:0<=i)(hi:i<(R.length:Int))(h:decide ((qL W d).1∈R.getD i.toNat [])=true)(hb:∀j:Nat,(j:Int)<i->decide ((qL W d).1∈R.getD j [])=false):OH W R d=i:=yh h0 hi h hb
def Cm (ds:List Int)(e:Int):Bool:=decide (∃j,j<ds.length/\ds.getD j 0/2=e)
theorem Sz {ds:List Int}{e i:Int}(h0:0<=i)(hi:i<(ds.length:Int))(h:ds.getD i.toNat 0/2=e):true=Cm ds e:=(decide_eq_true ⟨i.toNat,by omega,h⟩).symm
theorem Wf {ds:List Int}{e i:Int}(hi:(ds.length:Int)<=i)(h:∀j:Nat,(j:Int)<i->¬ds.getD j 0/2=e):false=Cm ds e:=(decide_eq_false fun⟨j,h1,h2⟩=>h j (by omega) h2).symm
def OI (E:List (Int×Int))(ds:List Int):List (List Int):=if ∀d∈ds,zk E d then(Cj E ds ds.length).2 else[]
theorem Wg {n:Int}{E:List (Int×Int)}{ds:List Int}(h:bh n E=0):OI E ds=fP n E ds:=by
 unfold OI fP
 by_cases q:∀d∈ds,zk E d
 .rw[if_pos q,if_pos ⟨h,q⟩]
 rw[if_neg q,if_neg fun z=>q z.2]
abbrev bz (n:Int):Prop:= -9223372036854775808<=n/\n<=9223372036854775807
theorem ZQ:aS Tryz.prog 29 [(false,(.list .int)),(false,.int)] [.bool] (fun _=>True) (fun x=>(decide ((I_ x.2.1)∈(J_ x.1)),())):=by
 refine aF Tryz.f29 18 [] Tryz.func29 fun o x hd _ _ h=>?_
 obtain⟨(l:List Int),(x:Int),_⟩:=x
 have e7:=cg h 0 l
 refine aC [] h fun _ _ h=>?_
 refine go_loop (Int) (fun i=>⟨[(0,eo 0),(1,en x),(5,en i)],[(0,some (.ar .int l))],1⟩) (fun i=>0<=i/\i<=(l.length:Int)/\∀j:Nat,(j:Int)<i->¬l.getD j 0=x) (fun i=>((l.length:Int)-i).toNat) (0) (ir 1) h ⟨Int.le_refl _,Int.natCast_nonneg _,fun j hj=>by omega⟩ fun i _ _ _ cq hI h=>?_
 obtain⟨i0,i1,i2⟩:=hI
 refine aC [] h fun _ _ h=>?_
 refine ag h (fun(q1:i<(l.length:Int))=>?_) (fun(q1:¬(i<(l.length:Int)))=>?_)
 .refine go (pr:=(aV i l.length)) [] h bx fun _ _ h=>?_
  refine ag h (fun(q2:(l.getD i.toNat 0)=x)=>?_) (fun(q2:¬((l.getD i.toNat 0)=x))=>?_)
  .refine aC [] h fun _ _ h=>?_
   exact out ((true:Bool),()) h (congrArg (·,()) (show(true)=decide (x∈l) from(decide_eq_true (fC.2 ⟨i.toNat,by omega,q2⟩)).symm))
  refine go (pr:=(aX .i64 (i+1))) [] h bw fun _ _ h=>?_
  exact bZ (cq (i+1) (ir 1) h ⟨by omega,by omega,fun j hj=>if z:(j:Int)<i then i2 j z else by rw[show j=i.toNat by omega];exact q2⟩ (by omega))
 refine aC [] h fun _ _ h=>?_
 exact out ((false:Bool),()) h (congrArg (·,()) (show(false)=decide (x∈l) from(decide_eq_false fun q=>by obtain⟨j,hj,e⟩:=fC.1 q;exact i2 j (by omega) e).symm))
def lI:cE Tryz.prog:=plain ZQ
theorem OJ:aS Tryz.prog 13 [(false,(.list .int)),(false,(.list .int))] [.bool] (fun _=>True) (fun x=>(decide ((J_ x.1)=(J_ x.2.1)),())):=by
 refine aF Tryz.f13 26 [] Tryz.func13 fun o x hd _ _ h=>?_
 obtain⟨(l:List Int),(m:List Int),_⟩:=x
 have e7:=cg h 0 l
 have eZ:=cg h 1 m
 refine aC [] h fun _ _ h=>?_
 refine ag h (fun(q1:¬((l.length:Int)=(m.length:Int)))=>?_) (fun(q1:(l.length:Int)=(m.length:Int))=>?_)
 .refine aC [] h fun _ _ h=>?_
  exact out ((false:Bool),()) h (congrArg (·,()) (show(false)=decide (l=m) from(decide_eq_false fun e=>q1 (by rw[e])).symm))
 have hle:=q1
 refine aC [] h fun _ _ h=>?_
 refine go_loop (Int) (fun i=>⟨[(0,eo 0),(1,eo 1),(5,en i)],[(0,some (.ar .int l)),(1,some (.ar .int m))],2⟩) (fun i=>0<=i/\i<=(l.length:Int)/\∀j:Nat,(j:Int)<i->l.getD j 0=m.getD j 0) (fun i=>((l.length:Int)-i).toNat) (0) (ir 2) h ⟨Int.le_refl _,Int.natCast_nonneg _,fun j hj=>by omega⟩ fun i _ _ _ cq hI h=>?_
 obtain⟨i0,i1,i2⟩:=hI
 refine aC [] h fun _ _ h=>?_
 refine ag h (fun(q2:i<(l.length:Int))=>?_) (fun(q2:¬(i<(l.length:Int)))=>?_)
 .refine go (pr:=(aV i l.length)/\(aV i m.length)) [] h ⟨bx,bx⟩ fun _ _ h=>?_
  refine ag h (fun(q3:¬((l.getD i.toNat 0)=(m.getD i.toNat 0)))=>?_) (fun(q3:(l.getD i.toNat 0)=(m.getD i.toNat 0))=>?_)
  .refine aC [] h fun _ _ h=>?_
   exact out ((false:Bool),()) h (congrArg (·,()) (show(false)=decide (l=m) from(decide_eq_false fun e=>q3 (by rw[e])).symm))
  refine go (pr:=(aX .i64 (i+1))) [] h bw fun _ _ h=>?_
  exact bZ (cq (i+1) (ir 2) h ⟨by omega,by omega,fun j hj=>if z:(j:Int)<i then i2 j z else by rw[show j=i.toNat by omega];exact q3⟩ (by omega))
 refine aC [] h fun _ _ h=>?_
 exact out ((true:Bool),()) h (congrArg (·,()) (show(true)=decide (l=m) from(decide_eq_true (Ga hle fun j hj=>i2 j (by omega))).symm))
def OK:cE Tryz.prog:=plain OJ
theorem OL:aS Tryz.prog 117 [(false,(.list .int)),(false,.int)] [.bool] (fun _=>True) (fun x=>(decide (bP (J_ x.1) (I_ x.2.1)),())):=by
 refine aF Tryz.f117 41 [] Tryz.func117 fun o x hd _ _ h=>?_
 obtain⟨(l:List Int),(n:Int),_⟩:=x
 have e7:=cg h 0 l
 refine aC [] h fun _ _ h=>?_
 refine go_loop (Int) (fun i=>⟨[(0,eo 0),(1,en n),(5,en i)],[(0,some (.ar .int l))],1⟩) (fun i=>0<=i/\i<=(l.length:Int)/\∀j:Nat,(j:Int)<i->(0<=l.getD j 0/\l.getD j 0<n/\(0<j->l.getD (j-1) 0<l.getD j 0))) (fun i=>((l.length:Int)-i).toNat) (0) (ir 1) h ⟨Int.le_refl _,Int.natCast_nonneg _,fun j hj=>by omega⟩ fun i _ _ _ cq hI h=>?_
 obtain⟨i0,i1,i2⟩:=hI
 refine aC [] h fun _ _ h=>?_
 refine ag h (fun(q1:i<(l.length:Int))=>?_) (fun(q1:¬(i<(l.length:Int)))=>?_)
 .refine go (pr:=(aV i l.length)/\((¬((l.getD i.toNat 0)<0))->(aV i l.length))/\(((¬((l.getD i.toNat 0)<0))/\(¬(n<=(l.getD i.toNat 0))))->((0:Int)<i)->(aV i l.length))/\(((¬((l.getD i.toNat 0)<0))/\(¬(n<=(l.getD i.toNat 0))))->((0:Int)<i)->(aX .i64 (i-1)))/\(((¬((l.getD i.toNat 0)<0))/\(¬(n<=(l.getD i.toNat 0))))->((0:Int)<i)->(aV (i-1) l.length))) [] h ⟨bx,fun _=>bx,fun _ _=>bx,fun _ _=>bw,fun _ _=>bx⟩ fun _ _ h=>?_
  refine ag h (fun(q2:(((l.getD i.toNat 0)<0)\/(n<=(l.getD i.toNat 0)))\/(((0:Int)<i)/\((l.getD i.toNat 0)<=(l.getD (i-1).toNat 0))))=>?_) (fun(q2:((¬((l.getD i.toNat 0)<0))/\(¬(n<=(l.getD i.toNat 0))))/\((¬((0:Int)<i))\/(¬((l.getD i.toNat 0)<=(l.getD (i-1).toNat 0)))))=>?_)
  .refine aC [] h fun _ _ h=>?_
   exact out ((false:Bool),()) h (congrArg (·,()) (show(false)=decide (bP l n) from(decide_eq_false fun q=>by have q:=q i.toNat (by omega);have z:=q2;rw[show(i-1).toNat=i.toNat-1 by omega] at z;omega).symm))
  refine go (pr:=(aX .i64 (i+1))) [] h bw fun _ _ h=>?_
  exact bZ (cq (i+1) (ir 1) h ⟨by omega,by omega,fun j hj=>if z:(j:Int)<i then i2 j z else by rw[show j=i.toNat by omega];have q:=q2;rw[show(i-1).toNat=i.toNat-1 by omega] at q;omega⟩ (by omega))
 refine aC [] h fun _ _ h=>?_
 exact out ((true:Bool),()) h (congrArg (·,()) (show(true)=decide (bP l n) from(decide_eq_true (show bP l n from fun j hj=>i2 j (by omega))).symm))
def OM:cE Tryz.prog:=plain OL
theorem ON:aS Tryz.prog 59 [(false,(.list .int)),(false,.int)] [.bool] (fun _=>True) (fun x=>(decide (bP (J_ x.1) (I_ x.2.1)),())):=by
 refine aF Tryz.f59 35 [] Tryz.func59 fun o x hd _ _ h=>?_
 obtain⟨(l:List Int),(n:Int),_⟩:=x
 have e7:=cg h 0 l
 refine aC [] h fun _ _ h=>?_
 refine go_loop (Int) (fun i=>⟨[(0,eo 0),(1,en n),(7,eo 0),(8,en (l.length:Int)),(9,en i)],[(0,some (.ar .int l))],1⟩) (fun i=>0<=i/\i<=(l.length:Int)/\∀j:Nat,(j:Int)<i->(0<=l.getD j 0/\l.getD j 0<n/\(0<j->l.getD (j-1) 0<l.getD j 0))) (fun i=>((l.length:Int)-i).toNat) (0) (ir 1) h ⟨Int.le_refl _,Int.natCast_nonneg _,fun j hj=>by omega⟩ fun i _ _ _ cq hI h=>?_
 obtain⟨i0,i1,i2⟩:=hI
 refine aC [] h fun _ _ h=>?_
 refine ag h (fun(q1:i<(l.length:Int))=>?_) (fun(q1:¬(i<(l.length:Int)))=>?_)
 .refine go (pr:=(aV i l.length)/\(((¬((l.getD i.toNat 0)<0))/\(¬(n<=(l.getD i.toNat 0))))->((0:Int)<i)->(aX .i64 (i-1)))/\(((¬((l.getD i.toNat 0)<0))/\(¬(n<=(l.getD i.toNat 0))))->((0:Int)<i)->(aV (i-1) l.length))) [] h ⟨bx,fun _ _=>bw,fun _ _=>bx⟩ fun _ _ h=>?_
  refine ag h (fun(q2:(((l.getD i.toNat 0)<0)\/(n<=(l.getD i.toNat 0)))\/(((0:Int)<i)/\((l.getD i.toNat 0)<=(l.getD (i-1).toNat 0))))=>?_) (fun(q2:((¬((l.getD i.toNat 0)<0))/\(¬(n<=(l.getD i.toNat 0))))/\((¬((0:Int)<i))\/(¬((l.getD i.toNat 0)<=(l.getD (i-1).toNat 0)))))=>?_)
  .refine aC [] h fun _ _ h=>?_
   exact out ((false:Bool),()) h (congrArg (·,()) (show(false)=decide (bP l n) from(decide_eq_false fun q=>by have q:=q i.toNat (by omega);have z:=q2;rw[show(i-1).toNat=i.toNat-1 by omega] at z;omega).symm))
  refine go (pr:=(aX .i64 (i+1))) [] h bw fun _ _ h=>?_
  exact bZ (cq (i+1) (ir 1) h ⟨by omega,by omega,fun j hj=>if z:(j:Int)<i then i2 j z else by rw[show j=i.toNat by omega];have q:=q2;rw[show(i-1).toNat=i.toNat-1 by omega] at q;omega⟩ (by omega))
 refine aC [] h fun _ _ h=>?_
 exact out ((true:Bool),()) h (congrArg (·,()) (show(true)=decide (bP l n) from(decide_eq_true (show bP l n from fun j hj=>i2 j (by omega))).symm))
def OO:cE Tryz.prog:=plain ON
theorem OP:aS Tryz.prog 46 [(false,gX)] [.int] (fun x=>bz (I_ x.1.1)) (fun x=>(bh (I_ x.1.1) (E_ x.1.2),())):=by
 refine aF Tryz.f46 70 [] Tryz.func46 fun o x hd _ _ h=>?_
 obtain⟨⟨(n:Int),(E:List (Int×Int))⟩,_⟩:=x
 have e7:=gL h 0 E
 change bz n at hd
 have hn:=hd
 unfold bz at hn
 refine aC [] h fun _ _ h=>?_
 refine ag h (fun(q1:n<0)=>?_) (fun(q1:¬(n<0))=>?_)
 .refine aC [] h fun _ _ h=>?_
  exact out (((3:Int):Int),()) h (congrArg (·,()) (show((3:Int))=bh n E from by unfold bh;first|rw[if_pos (by omega)]|rw[if_neg (by omega),if_pos (by omega)]))
 refine go (pr:=((¬((1024:Int)<n))/\(¬((1024:Int)<(E.length:Int))))->(aX .i64 (n+(E.length:Int)))) [] h (fun _=>bw) fun _ _ h=>?_
 refine ag h (fun(q2:(((1024:Int)<n)\/((1024:Int)<(E.length:Int)))\/((1024:Int)<n+(E.length:Int)))=>?_) (fun(q2:((¬((1024:Int)<n))/\(¬((1024:Int)<(E.length:Int))))/\(¬((1024:Int)<n+(E.length:Int))))=>?_)
 .refine aC [] h fun _ _ h=>?_
  exact out (((2:Int):Int),()) h (congrArg (·,()) (show((2:Int))=bh n E from by unfold bh;first|rw[if_pos (by omega)]|rw[if_neg (by omega),if_pos (by omega)]))
 refine aC [] h fun _ _ h=>?_
 refine go_loop (Int) (fun i=>⟨[(1,ep 0),(3,en i)],[(0,some (.box 24 [.v (.int .i64 n),.own 1])),(1,some (.ar fA E))],2⟩) (fun i=>0<=i/\i<=(E.length:Int)/\∀j:Nat,(j:Int)<i->Ko n (E.getD j (0,0))) (fun i=>((E.length:Int)-i).toNat) (0) (rk [1,0]) h ⟨Int.le_refl _,Int.natCast_nonneg _,fun j hj=>by omega⟩ fun i _ _ _ cq hI h=>?_
 obtain⟨i0,i1,i2⟩:=hI
 refine aC [] h fun _ _ h=>?_
 refine ag h (fun(q3:i<(E.length:Int))=>?_) (fun(q3:¬(i<(E.length:Int)))=>?_)
 .refine go (pr:=(aV i E.length)/\((¬((E.getD i.toNat (0,0)).1<0))->(aV i E.length))/\(((¬((E.getD i.toNat (0,0)).1<0))/\(¬(n<=(E.getD i.toNat (0,0)).1)))->(aV i E.length))/\((((¬((E.getD i.toNat (0,0)).1<0))/\(¬(n<=(E.getD i.toNat (0,0)).1)))/\(¬((E.getD i.toNat (0,0)).2<0)))->(aV i E.length))) [] h ⟨bx,fun _=>bx,fun _=>bx,fun _=>bx⟩ fun _ _ h=>?_
  refine ag h (fun(q4:((((E.getD i.toNat (0,0)).1<0)\/(n<=(E.getD i.toNat (0,0)).1))\/((E.getD i.toNat (0,0)).2<0))\/(n<=(E.getD i.toNat (0,0)).2))=>?_) (fun(q4:(((¬((E.getD i.toNat (0,0)).1<0))/\(¬(n<=(E.getD i.toNat (0,0)).1)))/\(¬((E.getD i.toNat (0,0)).2<0)))/\(¬(n<=(E.getD i.toNat (0,0)).2)))=>?_)
  .refine aC [] h fun _ _ h=>?_
   exact out (((3:Int):Int),()) h (congrArg (·,()) (show((3:Int))=bh n E from(xG (by omega) (by omega) (by omega) i0 (by omega) (by unfold Ko;have:=q4;omega)).symm))
  refine go (pr:=(aX .i64 (i+1))) [] h bw fun _ _ h=>?_
  exact bZ (cq (i+1) (ir 2) h ⟨by omega,by omega,fun j hj=>if z:(j:Int)<i then i2 j z else by rw[show j=i.toNat by omega];unfold Ko;have:=q4;omega⟩ (by omega))
 refine aC [] h fun _ _ h=>?_
 exact out (((0:Int):Int),()) h (congrArg (·,()) (show((0:Int))=bh n E from(Ap (i:=i) (by omega) (by omega) (by omega) (by omega) i2).symm))
def EH:cE Tryz.prog:=plain OP
theorem SA:aS Tryz.prog 37 [(false,gX)] [.int] (fun x=>bz (I_ x.1.1)) (fun x=>(bh (I_ x.1.1) (E_ x.1.2),())):=by
 refine aF Tryz.f37 50 [] Tryz.func37 fun o x hd _ _ h=>?_
 obtain⟨⟨(n:Int),(E:List (Int×Int))⟩,_⟩:=x
 have e7:=gL h 0 E
 change bz n at hd
 have hn:=hd
 unfold bz at hn
 refine aC [] h fun _ _ h=>?_
 refine ag h (fun(q1:n<0)=>?_) (fun(q1:¬(n<0))=>?_)
 .refine aC [] h fun _ _ h=>?_
  exact out (((3:Int):Int),()) h (congrArg (·,()) (show((3:Int))=bh n E from by unfold bh;first|rw[if_pos (by omega)]|rw[if_neg (by omega),if_pos (by omega)]))
 refine go (pr:=(¬((1024:Int)<n))->(aX .i64 (1024-n))) [] h (fun _=>bw) fun _ _ h=>?_
 refine ag h (fun(q2:((1024:Int)<n)\/(1024-n<(E.length:Int)))=>?_) (fun(q2:(¬((1024:Int)<n))/\(¬(1024-n<(E.length:Int))))=>?_)
 .refine aC [] h fun _ _ h=>?_
  exact out (((2:Int):Int),()) h (congrArg (·,()) (show((2:Int))=bh n E from by unfold bh;first|rw[if_pos (by omega)]|rw[if_neg (by omega),if_pos (by omega)]))
 refine aC [] h fun _ _ h=>?_
 refine go_loop (Int) (fun i=>⟨[(1,ep 0),(21,eo 1),(22,en (E.length:Int)),(23,en i)],[(0,some (.box 24 [.v (.int .i64 n),.own 1])),(1,some (.ar fA E))],2⟩) (fun i=>0<=i/\i<=(E.length:Int)/\∀j:Nat,(j:Int)<i->Ko n (E.getD j (0,0))) (fun i=>((E.length:Int)-i).toNat) (0) (rk [1,0]) h ⟨Int.le_refl _,Int.natCast_nonneg _,fun j hj=>by omega⟩ fun i _ _ _ cq hI h=>?_
 obtain⟨i0,i1,i2⟩:=hI
 refine aC [] h fun _ _ h=>?_
 refine ag h (fun(q3:i<(E.length:Int))=>?_) (fun(q3:¬(i<(E.length:Int)))=>?_)
 .refine go (pr:=(aV i E.length)) [] h bx fun _ _ h=>?_
  refine ag h (fun(q4:((((E.getD i.toNat (0,0)).1<0)\/(n<=(E.getD i.toNat (0,0)).1))\/((E.getD i.toNat (0,0)).2<0))\/(n<=(E.getD i.toNat (0,0)).2))=>?_) (fun(q4:(((¬((E.getD i.toNat (0,0)).1<0))/\(¬(n<=(E.getD i.toNat (0,0)).1)))/\(¬((E.getD i.toNat (0,0)).2<0)))/\(¬(n<=(E.getD i.toNat (0,0)).2)))=>?_)
  .refine aC [] h fun _ _ h=>?_
   exact out (((3:Int):Int),()) h (congrArg (·,()) (show((3:Int))=bh n E from(xG (by omega) (by omega) (by omega) i0 (by omega) (by unfold Ko;have:=q4;omega)).symm))
  refine go (pr:=(aX .i64 (i+1))) [] h bw fun _ _ h=>?_
  exact bZ (cq (i+1) (ir 2) h ⟨by omega,by omega,fun j hj=>if z:(j:Int)<i then i2 j z else by rw[show j=i.toNat by omega];unfold Ko;have:=q4;omega⟩ (by omega))
 refine aC [] h fun _ _ h=>?_
 exact out (((0:Int):Int),()) h (congrArg (·,()) (show((0:Int))=bh n E from(Ap (i:=i) (by omega) (by omega) (by omega) (by omega) i2).symm))
def Co:cE Tryz.prog:=plain SA
theorem SB:aS Tryz.prog 79 [(false,.int)] [.bool] (fun _=>True) (fun x=>(false,())):=by
 refine aF Tryz.f79 6 [] Tryz.func79 fun o x hd _ _ h=>?_
 obtain⟨(x:Int),_⟩:=x
 refine aC [] h fun _ _ h=>?_
 exact out ((!(decide (x=x)):Bool),()) h (congrArg (·,()) (show(!(decide (x=x)))=false from by simp))
def SC:cE Tryz.prog:=plain SB
theorem OQ:aS Tryz.prog 113 [(false,.int)] [.bool] (fun _=>True) (fun x=>(false,())):=by
 refine aF Tryz.f113 6 [] Tryz.func113 fun o x hd _ _ h=>?_
 obtain⟨(x:Int),_⟩:=x
 refine aC [] h fun _ _ h=>?_
 exact out ((!(decide (x=x)):Bool),()) h (congrArg (·,()) (show(!(decide (x=x)))=false from by simp))
def OR:cE Tryz.prog:=plain OQ
theorem Wh:aS Tryz.prog 78 [(false,.int),(false,.int)] [.bool] (fun _=>True) (fun x=>(decide ((I_ x.1)<(I_ x.2.1)),())):=by
 refine aF Tryz.f78 17 [OR] Tryz.func78 fun o x hd _ _ h=>?_
 obtain⟨(x:Int),(y:Int),_⟩:=x
 refine go (pr:=True/\((false=true)->True)) [] h ⟨tv,fun _=>trivial⟩ fun _ _ h=>?_
 exact out (((false && (!false))||(decide (x<y)):Bool),()) h (congrArg (·,()) (show((false && (!false))||(decide (x<y)))=decide (x<y) from by simp))
def Wi:cE Tryz.prog:=plain Wh
theorem aba:aS Tryz.prog 40 [(false,(.list .int)),(false,.int)] [.int,.bool] (fun x=>(J_ x.1).length<=1000000) (fun x=>(Ny (J_ x.1) (I_ x.2.1),hasB (J_ x.1) (I_ x.2.1),())):=by
 refine aF Tryz.f40 54 [SC,Wi] Tryz.func40 fun o x hd _ _ h=>?_
 obtain⟨(l:List Int),(x:Int),_⟩:=x
 have e7:=cg h 0 l
 change l.length<=1000000 at hd
 refine aC [] h fun _ _ h=>?_
 refine aK Int Int (fun p q=>⟨[(0,eo 0),(1,en x),(6,en (l.length:Int)),(7,en p),(8,en q)],[(0,some (.ar .int l))],1⟩) (fun p q=>0<=p/\p<=q/\q<=(l.length:Int)/\H9 l x p q=Ny l x) (fun p q=>(q-p).toNat) 0 (l.length:Int) (ir 1) h ⟨Int.le_refl _,Int.natCast_nonneg _,Int.le_refl _,Uw l x⟩ fun p q _ _ _ cq hI h=>?_
 obtain⟨h1,h2,h3,hb⟩:=hI
 refine aC [] h fun _ _ h=>?_
 refine ag h (fun(q1:p<q)=>?_) (fun(q1:¬(p<q))=>?_)
 .refine go (pr:=(aX .i64 (p+q))/\(aX .u64 (p+q))/\(aX .i64 ((p+q)/2))/\(aV ((p+q)/2) l.length)/\True) [] h ⟨bw,⟨by omega,by omega⟩,bw,bx,tv⟩ fun _ _ h=>?_
  refine ag h (fun(q2:(decide ((l.getD ((p+q)/2).toNat 0)<x))=true)=>?_) (fun(q2:(decide ((l.getD ((p+q)/2).toNat 0)<x))=false)=>?_)
  .refine go (pr:=(aX .i64 (((p+q)/2)+1))) [] h bw fun _ _ h=>?_
   exact bZ (cq (((p+q)/2)+1) q (ir 1) h ⟨by omega,by omega,by omega,by rw[Uu (by omega) (of_decide_eq_true q2)] at hb;exact hb⟩ (by omega))
  refine aC [] h fun _ _ h=>?_
  exact bZ (cq p ((p+q)/2) (ir 1) h ⟨by omega,by omega,by omega,by rw[Uv (by omega) (of_decide_eq_false q2)] at hb;exact hb⟩ (by omega))
 have e1:p=Ny l x:=by rw[BV (by omega)] at hb;exact hb
 refine go (pr:=((p<(l.length:Int))->(aV p l.length))/\((p<(l.length:Int))->(¬((l.getD p.toNat 0)=x))->(aV p l.length))/\((p<(l.length:Int))->(¬((l.getD p.toNat 0)=x))->True)/\((p<(l.length:Int))->(¬((l.getD p.toNat 0)=x))->(false=true)->True)) [] h ⟨fun _=>bx,fun _ _=>bx,fun _ _=>trivial,fun _ _ _=>trivial⟩ fun _ _ h=>?_
 exact out ((p:Int),((decide (p<(l.length:Int))) && ((decide ((l.getD p.toNat 0)=x))||(false && false)):Bool),()) h (Prod.ext e1 (congrArg (·,()) (show((decide (p<(l.length:Int))) && ((decide ((l.getD p.toNat 0)=x))||(false && false)))=hasB l x from by unfold hasB;rw[<-e1];simp)))
def abb:cE Tryz.prog:=plain aba
theorem ZR:aS Tryz.prog 23 [(false,(.list .int)),(false,.int)] [.bool] (fun x=>(J_ x.1).length<=1000000) (fun x=>(hasB (J_ x.1) (I_ x.2.1),())):=by
 refine aF Tryz.f23 14 [abb] Tryz.func23 fun o x hd _ _ h=>?_
 obtain⟨(l:List Int),(x:Int),_⟩:=x
 have e7:=cg h 0 l
 change l.length<=1000000 at hd
 refine go (pr:=(l.length<=1000000)) [] h hd fun _ _ h=>?_
 exact out ((hasB l x:Bool),()) h rfl
def OS:cE Tryz.prog:=plain ZR
theorem SD:aS Tryz.prog 33 [(false,gX),(false,fR)] [.int] (fun x=>bz (I_ x.1.1)) (fun x=>(aA (I_ x.1.1) (E_ x.1.2) (J_ x.2.1.1) (J_ x.2.1.2),())):=by
 refine aF Tryz.f33 58 [OS,Co,OO] Tryz.func33 fun o x hd _ _ h=>?_
 obtain⟨⟨(n:Int),(E:List (Int×Int))⟩,⟨(V:List Int),(L:List Int)⟩,_⟩:=x
 have e7:=gL h 0 E
 have eZ:=cg h 1 V
 have fS:=cg h 2 L
 change bz n at hd
 have hn:=hd
 refine go (pr:=(bz n)) [] h hn fun _ _ h=>?_
 refine ag h (fun(q1:¬(bh n E=0))=>?_) (fun(q1:bh n E=0)=>?_)
 .refine aC [] h fun _ _ h=>?_
  exact out ((bh n E:Int),()) h (congrArg (·,()) (show(bh n E)=aA n E V L from(if_pos q1).symm))
 refine go (pr:=True/\(((decide (bP V n))=true)->True)) [] h ⟨tv,fun _=>trivial⟩ fun _ _ h=>?_
 refine ag h (fun(q2:((decide (bP V n))=false)\/((decide (bP L (E.length:Int)))=false))=>?_) (fun(q2:((decide (bP V n))=true)/\((decide (bP L (E.length:Int)))=true))=>?_)
 .refine aC [] h fun _ _ h=>?_
  exact out (((4:Int):Int),()) h (congrArg (·,()) (show((4:Int))=aA n E V L from by unfold aA;rw[if_neg (by omega),if_pos (q2.imp of_decide_eq_false of_decide_eq_false)]))
 have vt:=aN (n:=n) (E:=E) q1
 have Lx:bP V n:=of_decide_eq_true q2.1
 have zl:bP L (E.length:Int):=of_decide_eq_true q2.2
 have hv9:=ay Lx (by omega)
 have hl9:=ay zl (by omega)
 refine aC [] h fun _ _ h=>?_
 refine go_loop (Int) (fun i=>⟨[(2,ep 0),(3,ep 1),(29,eo 2),(30,en (L.length:Int)),(31,en i)],[(0,some (.box 24 [.v (.int .i64 n),.own 3])),(1,some (.box 27 [.own 4,.own 2])),(2,some (.ar .int L)),(3,some (.ar fA E)),(4,some (.ar .int V))],5⟩) (fun i=>0<=i/\i<=(L.length:Int)/\∀j:Nat,(j:Int)<i->(hasB V (E.getD (L.getD j 0).toNat (0,0)).1=true/\hasB V (E.getD (L.getD j 0).toNat (0,0)).2=true)) (fun i=>((L.length:Int)-i).toNat) (0) (rk [3,4099,2,0,1]) h ⟨Int.le_refl _,Int.natCast_nonneg _,fun j hj=>by omega⟩ fun i _ _ _ cq hI h=>?_
 obtain⟨i0,i1,i2⟩:=hI
 refine aC [] h fun _ _ h=>?_
 refine ag h (fun(q3:i<(L.length:Int))=>?_) (fun(q3:¬(i<(L.length:Int)))=>?_)
 .have hx:=zl i.toNat (by omega)
  refine go (pr:=(aV i L.length)/\(aV (L.getD i.toNat 0) E.length)/\(V.length<=1000000)/\(((hasB V ((E.getD (L.getD i.toNat 0).toNat (0,0)).1))=true)->(aV (L.getD i.toNat 0) E.length))/\(((hasB V ((E.getD (L.getD i.toNat 0).toNat (0,0)).1))=true)->(V.length<=1000000))) [] h ⟨bx,bx,by omega,fun _=>bx,fun _=>by omega⟩ fun _ _ h=>?_
  refine ag h (fun(q4:((hasB V ((E.getD (L.getD i.toNat 0).toNat (0,0)).1))=false)\/((hasB V ((E.getD (L.getD i.toNat 0).toNat (0,0)).2))=false))=>?_) (fun(q4:((hasB V ((E.getD (L.getD i.toNat 0).toNat (0,0)).1))=true)/\((hasB V ((E.getD (L.getD i.toNat 0).toNat (0,0)).2))=true))=>?_)
  .refine aC [] h fun _ _ h=>?_
   exact out (((4:Int):Int),()) h (congrArg (·,()) (show((4:Int))=aA n E V L from by unfold aA;rw[if_neg (by omega),if_neg (by rintro(q|q);exact q Lx;exact q zl),if_neg (fun q:o7 E V L=>by have z:=q i.toNat (by omega);rcases q4 with y|y;rw[z.1] at y;cases y;rw[z.2] at y;cases y)]))
  refine go (pr:=(aX .i64 (i+1))) [] h bw fun _ _ h=>?_
  exact bZ (cq (i+1) (ir 5) h ⟨by omega,by omega,fun j hj=>if z:(j:Int)<i then i2 j z else by rw[show j=i.toNat by omega];exact q4⟩ (by omega))
 refine aC [] h fun _ _ h=>?_
 exact out (((0:Int):Int),()) h (congrArg (·,()) (show((0:Int))=aA n E V L from by unfold aA;rw[if_neg (by omega),if_neg (by rintro(q|q);exact q Lx;exact q zl),if_pos (show o7 E V L from fun j hj=>i2 j (by omega))]))
def wm:cE Tryz.prog:=plain SD
theorem OT:aS Tryz.prog 89 [(false,gX),(false,fR)] [.int] (fun x=>bz (I_ x.1.1)) (fun x=>(aA (I_ x.1.1) (E_ x.1.2) (J_ x.2.1.1) (J_ x.2.1.2),())):=by
 refine aF Tryz.f89 64 [lI,EH,OM] Tryz.func89 fun o x hd _ _ h=>?_
 obtain⟨⟨(n:Int),(E:List (Int×Int))⟩,⟨(V:List Int),(L:List Int)⟩,_⟩:=x
 have e7:=gL h 0 E
 have eZ:=cg h 1 V
 have fS:=cg h 2 L
 change bz n at hd
 have hn:=hd
 refine go (pr:=(bz n)) [] h hn fun _ _ h=>?_
 refine ag h (fun(q1:¬(bh n E=0))=>?_) (fun(q1:bh n E=0)=>?_)
 .refine aC [] h fun _ _ h=>?_
  exact out ((bh n E:Int),()) h (congrArg (·,()) (show(bh n E)=aA n E V L from(if_pos q1).symm))
 refine go (pr:=True/\(((decide (bP V n))=true)->True)) [] h ⟨tv,fun _=>trivial⟩ fun _ _ h=>?_
 refine ag h (fun(q2:((decide (bP V n))=false)\/((decide (bP L (E.length:Int)))=false))=>?_) (fun(q2:((decide (bP V n))=true)/\((decide (bP L (E.length:Int)))=true))=>?_)
 .refine aC [] h fun _ _ h=>?_
  exact out (((4:Int):Int),()) h (congrArg (·,()) (show((4:Int))=aA n E V L from by unfold aA;rw[if_neg (by omega),if_pos (q2.imp of_decide_eq_false of_decide_eq_false)]))
 have vt:=aN (n:=n) (E:=E) q1
 have Lx:bP V n:=of_decide_eq_true q2.1
 have zl:bP L (E.length:Int):=of_decide_eq_true q2.2
 have hv9:=ay Lx (by omega)
 have hl9:=ay zl (by omega)
 refine aC [] h fun _ _ h=>?_
 refine go_loop (Int) (fun i=>⟨[(2,ep 0),(3,ep 1),(6,en i)],[(0,some (.box 24 [.v (.int .i64 n),.own 2])),(1,some (.box 27 [.own 3,.own 4])),(2,some (.ar fA E)),(3,some (.ar .int V)),(4,some (.ar .int L))],5⟩) (fun i=>0<=i/\i<=(L.length:Int)/\∀j:Nat,(j:Int)<i->(hasB V (E.getD (L.getD j 0).toNat (0,0)).1=true/\hasB V (E.getD (L.getD j 0).toNat (0,0)).2=true)) (fun i=>((L.length:Int)-i).toNat) (0) (rk [3,4099,0,1,2]) h ⟨Int.le_refl _,Int.natCast_nonneg _,fun j hj=>by omega⟩ fun i _ _ _ cq hI h=>?_
 obtain⟨i0,i1,i2⟩:=hI
 refine aC [] h fun _ _ h=>?_
 refine ag h (fun(q3:i<(L.length:Int))=>?_) (fun(q3:¬(i<(L.length:Int)))=>?_)
 .have hx:=zl i.toNat (by omega)
  refine go (pr:=(aV i L.length)/\(aV (L.getD i.toNat 0) E.length)/\True/\(((decide ((E.getD (L.getD i.toNat 0).toNat (0,0)).1∈V))=true)->(aV i L.length))/\(((decide ((E.getD (L.getD i.toNat 0).toNat (0,0)).1∈V))=true)->(aV (L.getD i.toNat 0) E.length))/\(((decide ((E.getD (L.getD i.toNat 0).toNat (0,0)).1∈V))=true)->True)) [] h ⟨bx,bx,tv,fun _=>bx,fun _=>bx,fun _=>trivial⟩ fun _ _ h=>?_
  refine ag h (fun(q4:((decide ((E.getD (L.getD i.toNat 0).toNat (0,0)).1∈V))=false)\/((decide ((E.getD (L.getD i.toNat 0).toNat (0,0)).2∈V))=false))=>?_) (fun(q4:((decide ((E.getD (L.getD i.toNat 0).toNat (0,0)).1∈V))=true)/\((decide ((E.getD (L.getD i.toNat 0).toNat (0,0)).2∈V))=true))=>?_)
  .refine aC [] h fun _ _ h=>?_
   exact out (((4:Int):Int),()) h (congrArg (·,()) (show((4:Int))=aA n E V L from by unfold aA;rw[if_neg (by omega),if_neg (by rintro(q|q);exact q Lx;exact q zl),if_neg (fun q:o7 E V L=>by have z:=q i.toNat (by omega);rw[eC Lx,eC Lx] at z;rcases q4 with y|y;exact(of_decide_eq_false y) (of_decide_eq_true z.1);exact(of_decide_eq_false y) (of_decide_eq_true z.2))]))
  refine go (pr:=(aX .i64 (i+1))) [] h bw fun _ _ h=>?_
  exact bZ (cq (i+1) (ir 5) h ⟨by omega,by omega,fun j hj=>if z:(j:Int)<i then i2 j z else by rw[show j=i.toNat by omega];rw[eC Lx,eC Lx];exact q4⟩ (by omega))
 refine aC [] h fun _ _ h=>?_
 exact out (((0:Int):Int),()) h (congrArg (·,()) (show((0:Int))=aA n E V L from by unfold aA;rw[if_neg (by omega),if_neg (by rintro(q|q);exact q Lx;exact q zl),if_pos (show o7 E V L from fun j hj=>i2 j (by omega))]))
def OU:cE Tryz.prog:=plain OT
theorem SE:aS Tryz.prog 98 [(false,.int)] [.int] (fun x=>0<=(I_ x.1)/\(I_ x.1)<=1000000) (fun x=>(aq (I_ x.1),())):=by
 refine aF Tryz.f98 10 [] Tryz.func98 fun o x hd _ _ h=>?_
 obtain⟨(d:Int),_⟩:=x
 change 0<=d/\d<=1000000 at hd
 obtain⟨h0,h1⟩:=hd
 refine go (pr:=(0<=d/\0<(2:Int))) [] h (⟨by omega,by omega⟩) fun _ _ h=>?_
 refine ag h (fun(q1:d%2=0)=>?_) (fun(q1:¬(d%2=0))=>?_)
 .refine go (pr:=(aX .i64 (d+1))) [] h bw fun _ _ h=>?_
  exact out ((d+1:Int),()) h (congrArg (·,()) (show(d+1)=aq d from(if_pos (by omega)).symm))
 refine go (pr:=(aX .i64 (d-1))) [] h bw fun _ _ h=>?_
 exact out ((d-1:Int),()) h (congrArg (·,()) (show(d-1)=aq d from(if_neg (by omega)).symm))
def Cq:cE Tryz.prog:=plain SE
theorem SF:aS Tryz.prog 56 [(false,gX),(false,.int)] [.int] (fun x=>bz (I_ x.1.1)/\0<=(I_ x.2.1)/\(I_ x.2.1)/2<((E_ x.1.2).length:Int)/\(I_ x.2.1)<=1000000) (fun x=>(ak (E_ x.1.2) (I_ x.2.1),())):=by
 refine aF Tryz.f56 22 [] Tryz.func56 fun o x hd _ _ h=>?_
 obtain⟨⟨(n:Int),(E:List (Int×Int))⟩,(d:Int),_⟩:=x
 have e7:=gL h 0 E
 change bz n/\0<=d/\d/2<(E.length:Int)/\d<=1000000 at hd
 obtain⟨hn,h0,h1,h2⟩:=hd
 refine go (pr:=(0<=d/\0<(2:Int))) [] h (⟨by omega,by omega⟩) fun _ _ h=>?_
 refine ag h (fun(q1:d%2=0)=>?_) (fun(q1:¬(d%2=0))=>?_)
 .refine go (pr:=(0<=d/\0<(2:Int)/\aX .i64 d)/\(aV (d/2) E.length)) [] h ⟨⟨by omega,by omega,⟨by omega,by omega⟩⟩,bx⟩ fun _ _ h=>?_
  exact out (((E.getD (d/2).toNat (0,0)).1:Int),()) h (congrArg (·,()) (show((E.getD (d/2).toNat (0,0)).1)=ak E d from(if_pos (by omega)).symm))
 refine go (pr:=(0<=d/\0<(2:Int)/\aX .i64 d)/\(aV (d/2) E.length)) [] h ⟨⟨by omega,by omega,⟨by omega,by omega⟩⟩,bx⟩ fun _ _ h=>?_
 exact out (((E.getD (d/2).toNat (0,0)).2:Int),()) h (congrArg (·,()) (show((E.getD (d/2).toNat (0,0)).2)=ak E d from(if_neg (by omega)).symm))
def qx:cE Tryz.prog:=plain SF
theorem SG:aS Tryz.prog 97 [(false,gX),(false,.int)] [.int] (fun x=>bz (I_ x.1.1)/\0<=(I_ x.2.1)/\(I_ x.2.1)/2<((E_ x.1.2).length:Int)/\(I_ x.2.1)<=999999) (fun x=>(ak (E_ x.1.2) (aq (I_ x.2.1)),())):=by
 refine aF Tryz.f97 9 [qx,Cq] Tryz.func97 fun o x hd _ _ h=>?_
 obtain⟨⟨(n:Int),(E:List (Int×Int))⟩,(d:Int),_⟩:=x
 have e7:=gL h 0 E
 change bz n/\0<=d/\d/2<(E.length:Int)/\d<=999999 at hd
 obtain⟨hn,h0,h1,h2⟩:=hd
 have ht:0<=aq d/\aq d/2<(E.length:Int)/\aq d<=1000000:=by unfold aq;split<;>omega
 refine go (pr:=(0<=d/\d<=1000000)/\(bz n/\0<=(aq d)/\(aq d)/2<(E.length:Int)/\(aq d)<=1000000)) [] h ⟨⟨by omega,by omega⟩,⟨hn,by omega,by omega,by omega⟩⟩ fun _ _ h=>?_
 exact out ((ak E (aq d):Int),()) h rfl
def SH:cE Tryz.prog:=plain SG
theorem OV:aS Tryz.prog 90 [(false,gX),(false,fR),(false,.int)] [(.list .int)] (fun x=>bz (I_ x.1.1)/\bP (J_ x.2.1.2) ((E_ x.1.2).length:Int)/\((E_ x.1.2).length:Int)<=100000) (fun x=>(aR (E_ x.1.2) (J_ x.2.1.2) (I_ x.2.2.1),())):=by
 refine aF Tryz.f90 45 [qx] Tryz.func90 fun o x hd _ _ h=>?_
 obtain⟨⟨(n:Int),(E:List (Int×Int))⟩,⟨(V:List Int),(L:List Int)⟩,(v:Int),_⟩:=x
 have e7:=gL h 0 E
 have eZ:=cg h 1 V
 have fS:=cg h 2 L
 change bz n/\bP L (E.length:Int)/\(E.length:Int)<=100000 at hd
 obtain⟨hn,hL,hE⟩:=hd
 have vf:=ay hL (Int.natCast_nonneg _)
 refine aC [] h fun _ _ h=>?_
 refine aK Int (List Int) (fun i ou=>⟨[(2,en v),(3,ep 0),(4,ep 1),(7,eo 2),(8,en i)],[(0,some (.box 24 [.v (.int .i64 n),.own 3])),(1,some (.box 27 [.own 4,.own 5])),(2,some (.row 3 .int ou)),(3,some (.ar fA E)),(4,some (.ar .int V)),(5,some (.ar .int L))],6⟩) (fun i ou=>0<=i/\i<=(L.length:Int)/\(ou.length:Int)<=2*i/\ou++aR E (L.drop i.toNat) v=aR E L v) (fun i ou=>((L.length:Int)-i).toNat) 0 [] [(0,some 3),(1,some 4099),(2,none),(3,some 0),(4,some 1),(5,some 2)] h ⟨Int.le_refl _,Int.natCast_nonneg _,Int.le_refl _,rfl⟩ fun i ou _ _ _ cq hI h=>?_
 obtain⟨i0,i1,i2,i3⟩:=hI
 refine aC [] h fun _ _ h=>?_
 refine ag h (fun(q1:i<(L.length:Int))=>?_) (fun(q1:¬(i<(L.length:Int)))=>?_)
 .have qG:=hL i.toNat (by omega)
  refine aC [] h fun _ _ h=>?_
  refine aK Int (List Int) (fun s o2=>⟨[(2,en v),(3,ep 0),(4,ep 1),(7,eo 2),(8,en i),(9,en s)],[(0,some (.box 24 [.v (.int .i64 n),.own 3])),(1,some (.box 27 [.own 4,.own 5])),(2,some (.row 3 .int o2)),(3,some (.ar fA E)),(4,some (.ar .int V)),(5,some (.ar .int L))],6⟩) (fun s o2=>0<=s/\s<=2/\(o2.length:Int)<=2*i+s/\o2++(cG E (L.getD i.toNat 0) v s++aR E (L.drop (i+1).toNat) v)=aR E L v) (fun s o2=>(2-s).toNat) 0 ou (ir 6) h ⟨Int.le_refl _,by omega,by omega,by rw[<-BW i0 (by omega)];exact i3⟩ fun s o2 _ _ _ fQ hI h=>?_
  obtain⟨s0,s1,s2,s3⟩:=hI
  refine aC [] h fun _ _ h=>?_
  refine ag h (fun(q2:s<2)=>?_) (fun(q2:¬(s<2))=>?_)
  .refine go (pr:=(aV i L.length)/\(aX .i64 (2*(L.getD i.toNat 0)))/\(aX .i64 ((2*(L.getD i.toNat 0))+s))/\(bz n/\0<=((2*(L.getD i.toNat 0))+s)/\((2*(L.getD i.toNat 0))+s)/2<(E.length:Int)/\((2*(L.getD i.toNat 0))+s)<=1000000)) [] h ⟨bx,bw,bw,⟨hn,by omega,by omega,by omega⟩⟩ fun _ _ h=>?_
   refine ag h (fun(q3:ak E ((2*(L.getD i.toNat 0))+s)=v)=>?_) (fun(q3:¬(ak E ((2*(L.getD i.toNat 0))+s)=v))=>?_)
   .refine go (pr:=(aV i L.length)/\(aX .i64 (2*(L.getD i.toNat 0)))/\(aX .i64 ((2*(L.getD i.toNat 0))+s))/\(o2.length+([(2*(L.getD i.toNat 0))+s]:List Int).length<=2147483647)/\(aX .i64 (s+1))) [] h ⟨bx,bw,bw,ln,bw⟩ fun _ _ h=>?_
    exact bZ (fQ (s+1) (o2++([(2*(L.getD i.toNat 0))+s]:List Int)) (rk [0,1,98310,3,4,5]) h ⟨by omega,by omega,by(try rw[List.length_append,List.length_singleton]);omega,by rw[oq s0 (by omega),if_pos q3] at s3;(try rw[List.nil_append] at s3);(try simp only[List.append_assoc] at s3 ⊢);exact s3⟩ (by omega))
   refine go (pr:=(aX .i64 (s+1))) [] h bw fun _ _ h=>?_
   exact bZ (fQ (s+1) o2 (ir 6) h ⟨by omega,by omega,by(try rw[List.length_append,List.length_singleton]);omega,by rw[oq s0 (by omega),if_neg q3] at s3;(try rw[List.nil_append] at s3);(try simp only[List.append_assoc] at s3 ⊢);exact s3⟩ (by omega))
  refine go (pr:=(aX .i64 (i+1))) [] h bw fun _ _ h=>?_
  exact bZ (cq (i+1) o2 (ir 6) h ⟨by omega,by omega,by omega,by rw[y9 (by omega),List.nil_append] at s3;exact s3⟩ (by omega))
 refine aC [] h fun _ _ h=>?_
 exact out ((ou:List Int),()) h (congrArg (·,()) (show(ou)=aR E L v from by rw[Gc (by omega),List.append_nil] at i3;exact i3))
def EI:cE Tryz.prog:=plain OV
theorem ZS:aS Tryz.prog 101 [(false,(.list .int)),(false,(.list .int))] [(.list .int)] (fun x=>(J_ x.1).length<=1000000/\(J_ x.2.1).length<=1000000) (fun x=>(gd (J_ x.1) (J_ x.2.1) 1,())):=by
 refine aF Tryz.f101 75 [] Tryz.func101 fun o x hd _ _ h=>?_
 obtain⟨(l:List Int),(m:List Int),_⟩:=x
 have e7:=cg h 0 l
 have eZ:=cg h 1 m
 change l.length<=1000000/\m.length<=1000000 at hd
 obtain⟨hs1,Oy⟩:=hd
 refine aC [] h fun _ _ h=>?_
 refine fB Int Int (List Int) (fun i k ou=>⟨[(0,eo 0),(1,eo 1),(5,eo 2),(6,en i),(7,en k)],[(0,some (.ar .int l)),(1,some (.ar .int m)),(2,some (.row 3 .int ou))],3⟩) (fun i k ou=>0<=i/\0<=k/\i<=(l.length:Int)/\k<=(m.length:Int)/\(ou.length:Int)<=i+k/\ou++VN l m i k=gd l m 1) (fun i k ou=>((l.length:Int)-i+(m.length:Int)-k).toNat) 0 0 [] [(0,some 0),(1,some 1),(2,none)] h ⟨Int.le_refl _,Int.le_refl _,Int.natCast_nonneg _,Int.natCast_nonneg _,Int.le_refl _,rfl⟩ fun i k ou _ _ _ cq hI h=>?_
 obtain⟨h0,h0b,h1,h1b,h2,hi⟩:=hI
 refine aC [] h fun _ _ h=>?_
 refine ag h (fun(q1:(i<(l.length:Int))\/(k<(m.length:Int)))=>?_) (fun(q1:(¬(i<(l.length:Int)))/\(¬(k<(m.length:Int))))=>?_)
 .refine go (pr:=((¬(k=(m.length:Int)))->(i<(l.length:Int))->(aV i l.length))/\((¬(k=(m.length:Int)))->(i<(l.length:Int))->(aV k m.length))) [] h ⟨fun _ _=>bx,fun _ _=>bx⟩ fun _ _ h=>?_
  refine ag h (fun(q2:(k=(m.length:Int))\/((i<(l.length:Int))/\((l.getD i.toNat 0)<=(m.getD k.toNat 0))))=>?_) (fun(q2:(¬(k=(m.length:Int)))/\((¬(i<(l.length:Int)))\/(¬((l.getD i.toNat 0)<=(m.getD k.toNat 0)))))=>?_)
  .refine go (pr:=((k<(m.length:Int))->(aV i l.length))/\((k<(m.length:Int))->(aV k m.length))) [] h ⟨fun _=>bx,fun _=>bx⟩ fun _ _ h=>?_
   refine ag h (fun(q3:(k<(m.length:Int))/\((l.getD i.toNat 0)=(m.getD k.toNat 0)))=>?_) (fun(q3:(¬(k<(m.length:Int)))\/(¬((l.getD i.toNat 0)=(m.getD k.toNat 0))))=>?_)
   .refine go (pr:=(aX .i64 (k+1))/\(aV i l.length)/\(ou.length+([(l.getD i.toNat 0)]:List Int).length<=2147483647)/\(aX .i64 (i+1))) [] h ⟨bw,bx,ln,bw⟩ fun _ _ h=>?_
    exact bZ (cq (i+1) (k+1) (ou++([(l.getD i.toNat 0)]:List Int)) (rk [0,1,225283]) h ⟨by omega,by omega,by omega,by omega,by rw[List.length_append,List.length_singleton];omega,by rw[ue h0 h0b (by omega)] at hi;(repeat' split at hi)<;>first|(exfalso;omega)|((try simp only[List.append_assoc] at hi ⊢);exact hi)⟩ (by omega))
   refine go (pr:=(aV i l.length)/\(ou.length+([(l.getD i.toNat 0)]:List Int).length<=2147483647)/\(aX .i64 (i+1))) [] h ⟨bx,ln,bw⟩ fun _ _ h=>?_
   exact bZ (cq (i+1) k (ou++([(l.getD i.toNat 0)]:List Int)) (rk [0,1,212995]) h ⟨by omega,by omega,by omega,by omega,by rw[List.length_append,List.length_singleton];omega,by rw[ue h0 h0b (by omega)] at hi;(repeat' split at hi)<;>first|(exfalso;omega)|((try simp only[List.append_assoc] at hi ⊢);exact hi)⟩ (by omega))
  refine go (pr:=(aV k m.length)/\(ou.length+([(m.getD k.toNat 0)]:List Int).length<=2147483647)/\(aX .i64 (k+1))) [] h ⟨bx,ln,bw⟩ fun _ _ h=>?_
  exact bZ (cq i (k+1) (ou++([(m.getD k.toNat 0)]:List Int)) (rk [0,1,151555]) h ⟨by omega,by omega,by omega,by omega,by rw[List.length_append,List.length_singleton];omega,by rw[ue h0 h0b (by omega)] at hi;(repeat' split at hi)<;>first|(exfalso;omega)|((try simp only[List.append_assoc] at hi ⊢);exact hi)⟩ (by omega))
 refine aC [] h fun _ _ h=>?_
 exact out ((ou:List Int),()) h (congrArg (·,()) (show(ou)=gd l m 1 from by rw[RC (by omega),List.append_nil] at hi;exact hi))
def ZT:cE Tryz.prog:=plain ZS
theorem SI:aS Tryz.prog 16 [(false,gX)] [fR] (fun x=>bz (I_ x.1.1)) (fun x=>(fD (I_ x.1.1) (E_ x.1.2),())):=by
 refine aF Tryz.f16 36 [Co] Tryz.func16 fun o x hd _ _ h=>?_
 obtain⟨⟨(n:Int),(E:List (Int×Int))⟩,_⟩:=x
 have e7:=gL h 0 E
 change bz n at hd
 have hn:=hd
 refine go (pr:=(bz n)) [] h hn fun _ _ h=>?_
 refine ag h (fun(q1:¬(bh n E=0))=>?_) (fun(q1:bh n E=0)=>?_)
 .refine aC [] h fun _ _ h=>?_
  exact out ((([],[]):(List Int)×List Int),()) h (congrArg (·,()) (show(([],[]))=fD n E from(if_pos q1).symm))
 have vt:=aN (n:=n) (E:=E) q1
 refine aC [] h fun _ _ h=>?_
 refine aK Int (List Int) (fun i va=>⟨[(1,ep 0),(2,ep 1),(3,ep 2),(11,en n),(12,en i)],[(0,some (.box 24 [.v (.int .i64 n),.own 3])),(1,some (.box 27 [.v (.slice none 0 0),.v (.slice none 0 0)])),(2,some (.box 27 [.own 4,.v (.slice none 0 0)])),(3,some (.ar fA E)),(4,some (.row 3 .int va))],5⟩) (fun i va=>0<=i/\(i<=n\/i=0)/\va=upto i) (fun i va=>(n-i).toNat) 0 [] [(0,some 1),(1,some 4097),(2,some 8193),(3,some 0),(4,none)] h ⟨Int.le_refl _,.inr rfl,rfl⟩ fun i va _ _ _ cq hI h=>?_
 obtain⟨i0,i1,i2⟩:=hI
 refine aC [] h fun _ _ h=>?_
 refine ag h (fun(q2:i<n)=>?_) (fun(q2:¬(i<n))=>?_)
 .have MQ:=sM i
  rw[<-i2] at MQ
  refine go (pr:=(va.length+([i]:List Int).length<=2147483647)/\(aX .i64 (i+1))) [] h ⟨ln,bw⟩ fun _ _ h=>?_
  exact bZ (cq (i+1) (va++([i]:List Int)) (rk [0,1,2,3,28677]) h ⟨by omega,.inl (by omega),by rw[qc i0,<-i2]⟩ (by omega))
 have YR:va=upto n:=by rw[i2,show i=n by omega]
 refine aC [] h fun _ _ h=>?_
 refine aK Int (List Int) (fun k vb=>⟨[(2,ep 0),(3,ep 1),(24,en (E.length:Int)),(25,en k)],[(0,some (.box 27 [.v (.slice none 0 0),.v (.slice none 0 0)])),(1,some (.box 27 [.own 2,.own 3])),(2,some (.row 3 .int va)),(3,some (.row 3 .int vb))],4⟩) (fun k vb=>0<=k/\(k<=(E.length:Int)\/k=0)/\vb=upto k) (fun k vb=>((E.length:Int)-k).toNat) 0 [] [(0,some 1),(1,some 2),(2,some 4),(3,none)] h ⟨Int.le_refl _,.inr rfl,rfl⟩ fun k vb _ _ _ fQ hI h=>?_
 obtain⟨k0,k1,k2⟩:=hI
 refine aC [] h fun _ _ h=>?_
 refine ag h (fun(q3:k<(E.length:Int))=>?_) (fun(q3:¬(k<(E.length:Int)))=>?_)
 .have MQ:=sM k
  rw[<-k2] at MQ
  refine go (pr:=(vb.length+([k]:List Int).length<=2147483647)/\(aX .i64 (k+1))) [] h ⟨ln,bw⟩ fun _ _ h=>?_
  exact bZ (fQ (k+1) (vb++([k]:List Int)) (rk [0,1,2,28676]) h ⟨by omega,.inl (by omega),by rw[qc k0,<-k2]⟩ (by omega))
 have Nq:vb=upto (E.length:Int):=by rw[k2,show k=(E.length:Int) by omega]
 refine aC [] h fun _ _ h=>?_
 exact out (((va,vb):(List Int)×List Int),()) h (congrArg (·,()) (show((va,vb))=fD n E from by rw[YR,Nq];exact(if_neg fun q=>q q1).symm))
def IF:cE Tryz.prog:=plain SI
theorem OW:aS Tryz.prog 17 [(false,gX)] [fR] (fun x=>bz (I_ x.1.1)/\(I_ x.1.1)<=1000000/\(E_ x.1.2).length<=1000000) (fun x=>((upto (I_ x.1.1),upto ((E_ x.1.2).length:Int)),())):=by
 refine aF Tryz.f17 32 [] Tryz.func17 fun o x hd _ _ h=>?_
 obtain⟨⟨(n:Int),(E:List (Int×Int))⟩,_⟩:=x
 have e7:=gL h 0 E
 change bz n/\n<=1000000/\E.length<=1000000 at hd
 obtain⟨hn,CQ,hE⟩:=hd
 refine aC [] h fun _ _ h=>?_
 refine aK Int (List Int) (fun i va=>⟨[(1,ep 0),(2,ep 1),(3,ep 2),(4,en i)],[(0,some (.box 24 [.v (.int .i64 n),.own 3])),(1,some (.box 27 [.v (.slice none 0 0),.v (.slice none 0 0)])),(2,some (.box 27 [.own 4,.v (.slice none 0 0)])),(3,some (.ar fA E)),(4,some (.row 3 .int va))],5⟩) (fun i va=>0<=i/\(i<=n\/i=0)/\va=upto i) (fun i va=>(n-i).toNat) 0 [] [(0,some 1),(1,some 4097),(2,some 8193),(3,some 0),(4,none)] h ⟨Int.le_refl _,.inr rfl,rfl⟩ fun i va _ _ _ cq hI h=>?_
 obtain⟨i0,i1,i2⟩:=hI
 refine aC [] h fun _ _ h=>?_
 refine ag h (fun(q1:i<n)=>?_) (fun(q1:¬(i<n))=>?_)
 .have MQ:=sM i
  rw[<-i2] at MQ
  refine go (pr:=(va.length+([i]:List Int).length<=2147483647)/\(aX .i64 (i+1))) [] h ⟨ln,bw⟩ fun _ _ h=>?_
  exact bZ (cq (i+1) (va++([i]:List Int)) (rk [0,1,2,3,32773]) h ⟨by omega,.inl (by omega),by rw[qc i0,<-i2]⟩ (by omega))
 have YR:va=upto n:=i2.trans (Ia q1 i1)
 refine aC [] h fun _ _ h=>?_
 refine aK Int (List Int) (fun k vb=>⟨[(1,ep 0),(2,ep 1),(3,ep 2),(5,en k)],[(0,some (.box 24 [.v (.int .i64 n),.own 3])),(1,some (.box 27 [.v (.slice none 0 0),.v (.slice none 0 0)])),(2,some (.box 27 [.own 4,.own 5])),(3,some (.ar fA E)),(4,some (.row 3 .int va)),(5,some (.row 3 .int vb))],6⟩) (fun k vb=>0<=k/\(k<=(E.length:Int)\/k=0)/\vb=upto k) (fun k vb=>((E.length:Int)-k).toNat) 0 [] [(0,some 0),(1,some 1),(2,some 2),(3,some 3),(4,some 4),(5,none)] h ⟨Int.le_refl _,.inr rfl,rfl⟩ fun k vb _ _ _ fQ hI h=>?_
 obtain⟨k0,k1,k2⟩:=hI
 refine aC [] h fun _ _ h=>?_
 refine ag h (fun(q2:k<(E.length:Int))=>?_) (fun(q2:¬(k<(E.length:Int)))=>?_)
 .have MQ:=sM k
  rw[<-k2] at MQ
  refine go (pr:=(vb.length+([k]:List Int).length<=2147483647)/\(aX .i64 (k+1))) [] h ⟨ln,bw⟩ fun _ _ h=>?_
  exact bZ (fQ (k+1) (vb++([k]:List Int)) (rk [0,1,2,3,4,36870]) h ⟨by omega,.inl (by omega),by rw[qc k0,<-k2]⟩ (by omega))
 have Nq:vb=upto (E.length:Int):=k2.trans (Ia q2 k1)
 refine aC [] h fun _ _ h=>?_
 exact out (((va,vb):(List Int)×List Int),()) h (congrArg (·,()) (show((va,vb))=(upto n,upto (E.length:Int)) from by rw[YR,Nq]))
def yj:cE Tryz.prog:=plain OW
end Go.Proofs.YtnfdimfepbbbpaaGreat
namespace Go.Proofs.YtnfdimfepbbbpaaGreat
open Go.RowKit
open Go.Proofs.YtnfdimfepbbbpaaGreat.Deep
def QK (lf:Int->Int)(ds:List Int):Nat->List Int
 |0=>[]
 |k+1=>gd (QK lf ds k) [lf (ds.getD k 0)] 1
def Fl (E:List (Int×Int))(L:List Int)(lf:Int->Int)(v:Int):List Int:=if(aR E L v).length=0 then[lf (-1-v)] else QK lf (aR E L v) (aR E L v).length
section
variable {lf:Int->Int}{ds L:List Int}{E:List (Int×Int)}
theorem OX {i:Int}(h:0<=i):QK lf ds (i+1).toNat=gd (QK lf ds i.toNat) [lf (ds.getD i.toNat 0)] 1:=by
 rw[show(i+1).toNat=i.toNat+1 by omega];rfl
theorem IG:∀k,(QK lf ds k).length<=k
 |0=>Nat.le_refl _
 |k+1=>by
  have h:=IG k
  have:=Gh (QK lf ds k) [lf (ds.getD k 0)] 1
  show(gd _ _ _).length<=_
  simp only[List.length_cons,List.length_nil] at this
  omega
theorem OY:∀k,BZ (QK lf ds k)/\∀x,x∈QK lf ds k↔∃j,j<k/\x=lf (ds.getD j 0)
 |0=>⟨List.Pairwise.nil,fun x=>⟨fun h=>(by cases h),fun⟨j,h,_⟩=>(by omega)⟩⟩
 |k+1=>by
  obtain⟨h1,h2⟩:=OY k
  obtain⟨k1,k2⟩:=RJ h1 (show BZ [lf (ds.getD k 0)] from List.pairwise_singleton _ _)
  refine⟨k1,fun x=>?_⟩
  show x∈gd _ _ _↔_
  rw[k2,h2,List.mem_singleton]
  constructor
  .rintro(⟨j,hj,e⟩|e)
   .exact⟨j,by omega,e⟩
   exact⟨k,Nat.lt_succ_self _,e⟩
  rintro⟨j,hj,e⟩
  rcases Nat.lt_succ_iff_lt_or_eq.1 hj with z|z
  .exact .inl ⟨j,z,e⟩
  subst z;exact .inr e
theorem GN (v:Int):0<(Fl E L lf v).length/\(((aR E L v).length=0/\(Fl E L lf v).getD 0 0=lf (-1-v))\/∃d∈aR E L v,(Fl E L lf v).getD 0 0=lf d):=by
 unfold Fl
 by_cases q:(aR E L v).length=0
 .rw[if_pos q];exact⟨Nat.one_pos,.inl ⟨q,rfl⟩⟩
 rw[if_neg q]
 obtain⟨_,h2⟩:=OY (lf:=lf) (ds:=aR E L v) (aR E L v).length
 have hm:=(h2 (lf ((aR E L v).getD 0 0))).2 ⟨0,by omega,rfl⟩
 have hl:0<(QK lf (aR E L v) (aR E L v).length).length:=List.length_pos_of_mem hm
 refine⟨hl,.inr ?_⟩
 obtain⟨j,hj,e⟩:=(h2 _).1 (af (i:=0) (d:=0) hl)
 exact⟨_,af hj,e⟩
end
def II (N:Nat)(lf:Int->Int):List (Int×Int):=(List.range N).map fun e:Nat=>(lf (2*(e:Int)),lf (2*(e:Int)+1))
def iY (L ds:List Int):List Int:=L.filter fun e=>!Cm ds e
def EJ (N:Nat)(L:List Int)(lf:Int->Int)(ds:List Int):List Int:=spread (II N lf) (iY L ds) (lf (ds.getD 0 0)) (-1)
section
variable {lf:Int->Int}{ds L m:List Int}{N:Nat}{i:Nat}{k:Int}
theorem Cr {e:Int}(h0:0<=e)(h1:e<(N:Int)):eA (II N lf) e=lf (2*e)/\eB (II N lf) e=lf (2*e+1):=by
 have:(II N lf).getD e.toNat (0,0)=(lf (2*e),lf (2*e+1)):=by
  unfold II
  rw[List.getD_eq_getElem?_getD,List.getElem?_map,List.getElem?_range (by omega)]
  show(lf (2*((e.toNat:Nat):Int)),lf (2*((e.toNat:Nat):Int)+1))=_
  rw[Int.toNat_of_nonneg h0]
 unfold eA eB
 rw[this];exact⟨rfl,rfl⟩
theorem Wj (h0:0<=k)(h1:k<(L.length:Int))(h:Cm ds (L.getD k.toNat 0)=true):iY (L.take (k+1).toNat) ds=iY (L.take k.toNat) ds:=by
 rw[show(k+1).toNat=k.toNat+1 by omega,b6 (show k.toNat<L.length by omega) 0]
 unfold iY
 rw[List.filter_append,List.filter_cons_of_neg (by rw[h];decide)];simp
theorem SJ (h0:0<=k)(h1:k<(L.length:Int))(h:Cm ds (L.getD k.toNat 0)=false):iY (L.take (k+1).toNat) ds=iY (L.take k.toNat) ds++[L.getD k.toNat 0]:=by
 rw[show(k+1).toNat=k.toNat+1 by omega,b6 (show k.toNat<L.length by omega) 0]
 unfold iY
 rw[List.filter_append,List.filter_cons_of_pos (p:=fun e=>!Cm ds e) (by rw[h];rfl)];rfl
theorem Wk (h0:0<=k)(h1:k<(L.length:Int))(h:Cm ds (L.getD k.toNat 0)=true):dO (II N lf) (-1) i (iY (L.take (k+1).toNat) ds) m=dO (II N lf) (-1) i (iY (L.take k.toNat) ds) m:=by rw[Wj h0 h1 h]
theorem wo (h0:0<=k)(h1:k<(L.length:Int))(h:Cm ds (L.getD k.toNat 0)=false)(h2:0<=L.getD k.toNat 0)(h3:L.getD k.toNat 0<(N:Int)):dO (II N lf) (-1) i (iY (L.take (k+1).toNat) ds) m=ja (-1) i (ja (-1) i (dO (II N lf) (-1) i (iY (L.take k.toNat) ds) m) (lf (2*L.getD k.toNat 0)) (lf (2*L.getD k.toNat 0+1))) (lf (2*L.getD k.toNat 0+1)) (lf (2*L.getD k.toNat 0)):=by
 rw[SJ h0 h1 h]
 unfold dO
 rw[List.foldl_append]
 show nL (II N lf) (-1) i _ _=_
 rw[mC,(Cr h2 h3).1,(Cr h2 h3).2]
theorem SK (L ds:List Int):(iY L ds).length<=L.length:=List.length_filter_le _ _
theorem OZ (L ds:List Int)(k:Nat):∀x∈iY (L.take k) ds,x∈iY L ds:=fun x hx=>by
 have h:=List.mem_filter.1 hx
 exact List.mem_filter.2 ⟨List.mem_of_mem_take h.1,h.2⟩
end
abbrev e8 (E:List (Int×Int))(V L:List Int)(T S:List (List Int)):Int->Int:=OH (ax E V L T) (sg S (ax E V L T) (ax E V L T).length)
abbrev Wl (E:List (Int×Int))(V L:List Int)(T S:List (List Int)):List (Int×Int):=II E.length (e8 E V L T S)
abbrev UL (E:List (Int×Int))(V L:List Int)(T S:List (List Int))(ds:List Int):Int:=e8 E V L T S (ds.getD 0 0)
def QL (n:Int)(E:List (Int×Int))(V L:List Int)(T S:List (List Int))(ds:List Int):Prop:=
 (bz n/\av T/\aA n E V L=0/\bW n E L T/\av S/\∀l∈S,l≠[])/\0<ds.length/\(∀d∈ds,0<=d/\d<=1000000/\d/2<(E.length:Int))/\(∀e∈L,0<=e8 E V L T S (2*e)/\0<=e8 E V L T S (2*e+1))/\0<=UL E V L T S ds
def Wm (E:List (Int×Int))(ds:List Int)(v:Int):Bool:=decide (∃j,j<ds.length/\ak E (ds.getD j 0)=v)
def Fm (E:List (Int×Int))(L:List Int)(lf:Int->Int)(ds:List Int)(v:Int):Int:=
 if Wm E ds v=true then 0 else if(Fl E L lf v).getD 0 0∈EJ E.length L lf ds then 1 else 2
theorem Wo {E:List (Int×Int)}{L:List Int}{lf:Int->Int}{ds:List Int}{v i:Int}(h0:0<=i)(hi:i<(ds.length:Int))(h:ak E (ds.getD i.toNat 0)=v):Fm E L lf ds v=0:=if_pos (decide_eq_true ⟨i.toNat,by omega,h⟩)
theorem IJ {E:List (Int×Int)}{L:List Int}{lf:Int->Int}{ds:List Int}{v i:Int}(hi:(ds.length:Int)<=i)(h:∀j:Nat,(j:Int)<i->¬ak E (ds.getD j 0)=v):Fm E L lf ds v=if(Fl E L lf v).getD 0 0∈EJ E.length L lf ds then 1 else 2:=
 if_neg fun q=>by obtain⟨j,hj,e⟩:=of_decide_eq_true q;exact h j (by omega) e
end Go.Proofs.YtnfdimfepbbbpaaGreat
namespace Go.Proofs.YtnfdimfepbbbpaaGreat
open Go.RowKit
open Go.Proofs.YtnfdimfepbbbpaaGreat.Deep
def zm (k:Nat):List Int:=(List.range k).map fun(i:Nat)=>(i:Int)
theorem KT {i:Int}(h:0<=i):zm (i+1).toNat=zm i.toNat++[i]:=by
 rw[show(i+1).toNat=i.toNat+1 by omega]
 unfold zm
 rw[List.range_succ,List.map_append]
 show _++[((i.toNat:Nat):Int)]=_
 rw[Int.toNat_of_nonneg h]
theorem yl (k:Nat):(zm k).length=k:=by unfold zm;rw[List.length_map,List.length_range]
def SL (E:List (Int×Int))(P:kQ)(W:List (Int×List Int))(key:Int):Int:=kR E P (W.getD (dK W key).toNat (0,[]))
def mW (g:List Int)(a b:Int):Nat->List Int
 |0=>g
 |k+1=>if(mW g a b k).getD k 0=b then(mW g a b k).set k a else mW g a b k
def mX (W:List (Int×List Int))(l m:List Int):Nat->Option (List Int)
 |0=>some m
 |k+1=>(mX W l m k).bind fun z=>if(dK W (l.getD k 0)<0\/l.getD k 0∈z)\/(0<k/\l.getD k 0<=l.getD (k-1) 0) then none else some (z++[l.getD k 0])
def yT (o:Int->Int)(l g:List Int):Nat->Option (List Int)
 |0=>some g
 |k+1=>(yT o l g k).bind fun z=>if z.getD (o (l.getD 0 0)).toNat 0=z.getD (o (l.getD (k+1) 0)).toNat 0 then none else some (mW z (z.getD (o (l.getD 0 0)).toNat 0) (z.getD (o (l.getD (k+1) 0)).toNat 0) z.length)
def O0 (o:Int->Int)(W:List (Int×List Int))(S:List (List Int))(s:List Int×List Int)(i:Nat):Option (List Int×List Int):=
 if(S.getD i []).length<2\/(0<i/\(S.getD i []).getD 0 0<=(S.getD (i-1) []).getD 0 0) then none
 else(mX W (S.getD i []) s.2 (S.getD i []).length).bind fun m=>(yT o (S.getD i []) s.1 ((S.getD i []).length-1)).bind fun g=>some (g,m)
def Cs (o:Int->Int)(W:List (Int×List Int))(S:List (List Int))(N:Nat):Nat->Option (List Int×List Int)
 |0=>some (zm N,[])
 |i+1=>(Cs o W S N i).bind fun s=>O0 o W S s i
def O1 (g:List Int):Int:=if ∀x∈g,x=g.getD 0 0 then 0 else 7
def ZU:Option (List Int×List Int)->Int
 |none=>7
 |some s=>O1 s.1
def pK (n:Int)(E:List (Int×Int))(V L:List Int)(T S:List (List Int)):Int:=
 if(bT n E V L T).2≠0 then(bT n E V L T).2
 else if vq n E V L T=false then 6
 else ZU (Cs (SL E (dW E V L V.length).2 (ax E V L T)) (ax E V L T) S (dW E V L V.length).2.length S.length)
section
variable {n:Int}{E:List (Int×Int)}{V L:List Int}{T S:List (List Int)}
theorem AW (h:(bT n E V L T).2≠0):pK n E V L T S=(bT n E V L T).2:=if_pos h
theorem AX (h:(bT n E V L T).2=0)(k:vq n E V L T=false):pK n E V L T S=6:=by unfold pK;rw[if_neg (fun q=>q h),if_pos k]
theorem iV (h:(bT n E V L T).2=0)(k:vq n E V L T=true){r:Option (List Int×List Int)}(hr:Cs (SL E (dW E V L V.length).2 (ax E V L T)) (ax E V L T) S (dW E V L V.length).2.length S.length=r):pK n E V L T S=ZU r:=by
 subst hr;unfold pK;rw[if_neg (fun q=>q h),if_neg (by rw[k];decide)]
end
theorem IK (W:List (Int×List Int))(key:Int): -1<=dK W key/\dK W key<(W.length:Int):=V8
theorem UM {n:Int}{E:List (Int×Int)}{V L:List Int}{P:kQ}{W:List (Int×List Int)}(hp:aA n E V L=0)(hP:u7 E V L P)(hW:s8 E V L W){w:Int×List Int}(hw:w∈W):0<=kR E P w/\kR E P w<(P.length:Int)/\fV E w∈(P.getD (kR E P w).toNat ([],[])).1:=by
 obtain⟨i,hi,hx⟩:=hP.RD _ (qo hp hW hw)
 obtain⟨j,e,hj,hq⟩:=tj (p:=fun i=>decide (jD E w∈(P.getD i ([],[])).1)) hi (decide_eq_true (by rw[Ch hp hW hw];exact hx))
 have e:kR E P w=(j:Int):=e
 rw[e]
 refine⟨by omega,by omega,?_⟩
 rw[Int.toNat_natCast,<-Ch hp hW hw]
 exact of_decide_eq_true hq
theorem Ct {n:Int}{E:List (Int×Int)}{V L:List Int}{P:kQ}{W:List (Int×List Int)}{x:Int}{Q:Prop}(hn:Q)(hp:aA n E V L=0)(hP:u7 E V L P)(hW:s8 E V L W)(hx:0<=dK W x):
  dK W x<(W.length:Int)/\(Q/\-1000000<=(W.getD (dK W x).toNat (0,[])).1/\(W.getD (dK W x).toNat (0,[])).1<=1000000/\(0<=(W.getD (dK W x).toNat (0,[])).1->(W.getD (dK W x).toNat (0,[])).1/2<(E.length:Int)))/\0<=kR E P (W.getD (dK W x).toNat (0,[]))/\kR E P (W.getD (dK W x).toNat (0,[]))<(P.length:Int):=by
 have hb:=(IK W x).2
 have hw:W.getD (dK W x).toNat (0,[])∈W:=af (by omega)
 have kb:=u9 hp hW hw
 obtain⟨o0,o1,_⟩:=UM hp hP hW hw
 exact⟨hb,⟨hn,by omega,by omega,fun z=>(hW.key _ hw).elim (fun q=>by have:=(aG.1 (aD hp).2.1).2 _ q.2;omega) fun q=>(cv hp q.2).2.2.1⟩,o0,o1⟩
section
variable {g l m:List Int}{a b:Int}{W:List (Int×List Int)}{o:Int->Int}
theorem jG:∀k,(mW g a b k).length=g.length
 |0=>rfl
 |k+1=>by
  unfold mW
  split
  .rw[List.length_set];exact jG k
  exact jG k
theorem EK {j:Int}(h0:0<=j){z:List Int}(hz:z=mW g a b j.toNat)(h:z.getD j.toNat 0=b):z.set j.toNat a=mW g a b (j+1).toNat:=by
 rw[show(j+1).toNat=j.toNat+1 by omega]
 unfold mW
 rw[<-hz,if_pos h]
theorem IL {j:Int}(h0:0<=j){z:List Int}(hz:z=mW g a b j.toNat)(h:¬z.getD j.toNat 0=b):z=mW g a b (j+1).toNat:=by
 rw[show(j+1).toNat=j.toNat+1 by omega]
 unfold mW
 rw[<-hz,if_neg h]
theorem qy {k:Int}{z:List Int}(h0:0<=k)(h:mX W l m k.toNat=some z):mX W l m (k+1).toNat=if(dK W (l.getD k.toNat 0)<0\/l.getD k.toNat 0∈z)\/(0<k/\l.getD k.toNat 0<=l.getD (k-1).toNat 0) then none else some (z++[l.getD k.toNat 0]):=by
 rw[show(k+1).toNat=k.toNat+1 by omega]
 show(mX W l m k.toNat).bind _=_
 rw[h]
 show(if(_\/_)\/_ then none else _)=_
 rw[show k.toNat-1=(k-1).toNat by omega]
 by_cases q:(dK W (l.getD k.toNat 0)<0\/l.getD k.toNat 0∈z)\/(0<k/\l.getD k.toNat 0<=l.getD (k-1).toNat 0)
 .rw[if_pos q,if_pos (q.imp id fun w=>⟨by omega,w.2⟩)]
 rw[if_neg q,if_neg fun w=>q (w.imp id fun w=>⟨by omega,w.2⟩)]
theorem ux {k:Nat}(h:mX W l m k=none):∀ {j:Nat},k<=j->mX W l m j=none
 |0,hj=>by rw[show k=0 by omega] at h;exact h
 |j+1,hj=>by
  by_cases e:k=j+1
  .rw[<-e];exact h
  show(mX W l m j).bind _=none
  rw[ux h (j:=j) (by omega)];rfl
theorem tq {k:Nat}(h:yT o l g k=none):∀ {j:Nat},k<=j->yT o l g j=none
 |0,hj=>by rw[show k=0 by omega] at h;exact h
 |j+1,hj=>by
  by_cases e:k=j+1
  .rw[<-e];exact h
  show(yT o l g j).bind _=none
  rw[tq h (j:=j) (by omega)];rfl
structure EL (W:List (Int×List Int))(m:List Int):Prop where
 nd:m.Nodup
 fn:∀x∈m,0<=dK W x
theorem SM {x y:Int}(hx:0<=dK W x)(e:dK W x=dK W y):x=y:=by
 have key:∀x,0<=dK W x->(W.getD (dK W x).toNat (0,[])).1=x:=fun x hx=>by
  unfold dK pJ at hx ⊢
  split at hx
  .rename_i i hi
   have:=(List.find?_range_eq_some.1 hi).1
   exact of_decide_eq_true this
  omega
 rw[<-key x hx,<-key y (by omega),e]
theorem EL.len (h:EL W m):m.length<=W.length:=by
 have hn:(m.map fun x=>(dK W x).toNat).Nodup:=by
  refine List.pairwise_map.2 (h.nd.imp_of_mem fun {x y} hx hy q e=>q ?_)
  have:=h.fn x hx
  have:=h.fn y hy
  exact SM (by omega) (by omega)
 have:=hn.length_le_of_subset (l₂:=List.range W.length) fun z hz=>by
  obtain⟨x,hx,rfl⟩:=List.mem_map.1 hz
  have:=(IK W x).2
  have:=h.fn x hx
  exact List.mem_range.2 (by omega)
 rwa[List.length_map,List.length_range] at this
theorem EL.snoc (h:EL W m){x:Int}(h1:¬dK W x<0)(h2:x∉m):EL W (m++[x]):=
 ⟨List.nodup_append.2 ⟨h.nd,List.pairwise_singleton _ _,fun a ha b hb e=>h2 (by rw[<-List.mem_singleton.1 hb,<-e];exact ha)⟩,fun y hy=>(List.mem_append.1 hy).elim (h.fn y) fun q=>by rw[List.mem_singleton.1 q];omega⟩
theorem IM {k:Nat}{z:List Int}(h:mX W l m k=some z):∀j,j<k->0<=dK W (l.getD j 0):=by
 induction k generalizing z with
 |zero=>intro j hj;omega
 |succ k ih=>
  have h:(mX W l m k).bind _=some z:=h
  cases hq:mX W l m k with
  |none=>rw[hq] at h;cases h
  |some y=>
   rw[hq] at h
   intro j hj
   rcases Nat.lt_succ_iff_lt_or_eq.1 hj with q|q
   .exact ih hq j q
   subst q
   refine Int.not_lt.1 fun w=>?_
   have h:(if(_\/_)\/_ then none else _)=some z:=h
   rw[if_pos (.inl (.inl w))] at h;cases h
theorem tu {k:Int}{z:List Int}(h0:1<=k)(h:yT o l g (k-1).toNat=some z):yT o l g (k+1-1).toNat=if z.getD (o (l.getD 0 0)).toNat 0=z.getD (o (l.getD k.toNat 0)).toNat 0 then none else some (mW z (z.getD (o (l.getD 0 0)).toNat 0) (z.getD (o (l.getD k.toNat 0)).toNat 0) z.length):=by
 rw[show(k+1-1).toNat=(k-1).toNat+1 by omega]
 show(yT o l g (k-1).toNat).bind _=_
 rw[h]
 show(if _ then none else _)=_
 rw[show(k-1).toNat+1=k.toNat by omega]
theorem EM {S:List (List Int)}{N k:Nat}(h:Cs o W S N k=none):∀ {j:Nat},k<=j->Cs o W S N j=none
 |0,hj=>by rw[show k=0 by omega] at h;exact h
 |j+1,hj=>by
  by_cases e:k=j+1
  .rw[<-e];exact h
  show(Cs o W S N j).bind _=none
  rw[EM h (j:=j) (by omega)];rfl
theorem ym {S:List (List Int)}{N:Nat}{i:Int}{z:List Int×List Int}(h0:0<=i)(h:Cs o W S N i.toNat=some z):Cs o W S N (i+1).toNat=O0 o W S z i.toNat:=by
 rw[show(i+1).toNat=i.toNat+1 by omega]
 show(Cs o W S N i.toNat).bind _=_
 rw[h];rfl
theorem qz {S:List (List Int)}{N:Nat}{i:Int}{z:List Int×List Int}(h0:0<=i)(hi:i<(S.length:Int))(h:Cs o W S N i.toNat=some z)(hb:O0 o W S z i.toNat=none):Cs o W S N S.length=none:=
 EM (k:=(i+1).toNat) (by rw[ym h0 h,hb]) (by omega)
theorem EN {S:List (List Int)}{i:Int}{z:List Int×List Int}(h0:0<=i)(h:((S.getD i.toNat []).length:Int)<2\/(0<i/\(S.getD i.toNat []).getD 0 0<=(S.getD (i-1).toNat []).getD 0 0)):O0 o W S z i.toNat=none:=by
 refine if_pos (h.imp (fun q=>by omega) fun q=>?_)
 rw[show i.toNat-1=(i-1).toNat by omega]
 exact⟨by omega,q.2⟩
theorem uy {S:List (List Int)}{i:Int}{z:List Int×List Int}(h0:0<=i)(h:¬(((S.getD i.toNat []).length:Int)<2)/\(¬(0<i)\/¬((S.getD i.toNat []).getD 0 0<=(S.getD (i-1).toNat []).getD 0 0))):O0 o W S z i.toNat=(mX W (S.getD i.toNat []) z.2 (S.getD i.toNat []).length).bind fun m=>(yT o (S.getD i.toNat []) z.1 ((S.getD i.toNat []).length-1)).bind fun g=>some (g,m):=by
 refine if_neg ?_
 rintro(q|⟨q1,q2⟩)
 .exact h.1 (by omega)
 rw[show i.toNat-1=(i-1).toNat by omega] at q2
 exact h.2.elim (fun z=>z (by omega)) fun z=>z q2
theorem IN {S:List (List Int)}{N:Nat}:∀ {i:Nat} {z:List Int×List Int},Cs o W S N i=some z->∀j,j<i->2<=(S.getD j []).length
 |0,z,_,j,hj=>by omega
 |i+1,z,h,j,hj=>by
  have h:(Cs o W S N i).bind (fun s=>O0 o W S s i)=some z:=h
  cases hq:Cs o W S N i with
  |none=>rw[hq] at h;cases h
  |some y=>
   by_cases e:j=i
   .subst e
    rw[hq] at h
    have h:O0 o W S y j=some z:=h
    unfold O0 at h
    split at h
    .cases h
    rename_i q
    exact Nat.le_of_not_lt fun z=>q (.inl z)
   exact IN hq j (by omega)
theorem SN {i:Int}(hi:0<=i)(hl:i<(g.length:Int))(h:¬g.getD i.toNat 0=g.getD 0 0):7=O1 g:=(if_neg fun q=>h (q _ (af (by omega)))).symm
theorem SO {i:Int}(hl:(g.length:Int)<=i)(h:∀j:Nat,(j:Int)<i->g.getD j 0=g.getD 0 0):0=O1 g:=(if_pos fun x hx=>by obtain⟨j,hj,e⟩:=aB (z:=(0:Int)).1 hx;rw[<-e];exact h j (by omega)).symm
end
end Go.Proofs.YtnfdimfepbbbpaaGreat
namespace Go.Proofs.YtnfdimfepbbbpaaGreat
open Go.RowKit
end Go.Proofs.YtnfdimfepbbbpaaGreat
namespace Go.Proofs
open Go.Shelf
def Tryz.zn:Go.Shelf.Ren:=⟨fun|15=>85|n=>n,fun|22=>25|3=>3|4=>4|n=>n,fun|n=>n⟩
theorem Tryz.uz:Go.Proofs.Lays2.n15 Tryz.prog Tryz.zn:={
 mixed:=by kernel_rfl
 f15:=Tryz.func85.trans (congrArg some (by kernel_rfl))
 t3:=Tryz.underlying3
 a3:=Tryz.isAgg3
 z3:=Tryz.sizeOf3
 v3:=Tryz.zeroValue3
 t4:=Tryz.underlying4
 a4:=Tryz.isAgg4
 z4:=Tryz.sizeOf4
 v4:=Tryz.zeroValue4
 t22:=Tryz.underlying25
 a22:=Tryz.isAgg25
 z22:=Tryz.sizeOf25
 v22:=Tryz.zeroValue25
 i3:=by kernel_rfl}
open Go.RowKit Go.Lib in
theorem Tryz.slices_Clone_int (b off n c:Nat)(zs:List Int)(w:World)(hz:n<=zs.length)(abc:n*8<=140737488355328)(hc:∀j,j<zs.length->w.cell? ⟨b,off+j,none⟩=some (.int .i64 (zs.getD j 0))):
 Calls Tryz.prog 85 #[.slice (some ⟨b,off,none⟩) n c] w fun e w'=> ∃v',e= .returned v'/\w'.ownsRow w.heap.size 3 1 v' n ((zs.take n).map (Value.int .i64))/\v'≠.slice none 0 0/\Below w.heap.size w w':=Any.slices_Clone_int Tryz.uz b off n c zs w hz abc hc
open Go.RowKit Go.Lib in
theorem Tryz.slices_Clone_int_nil (n c:Nat)(w:World):
 Calls Tryz.prog 85 #[.slice none n c] w fun e w'=>e= .returned (.slice none 0 0)/\w'=w:=Any.slices_Clone_int_nil Tryz.uz n c w
open Go.RowKit Go.Lib in
theorem Tryz.slices_Clone_int_zero (a:Addr)(c:Nat)(w:World):
 Calls Tryz.prog 85 #[.slice (some a) 0 c] w fun e w'=> ∃v',e= .returned v'/\w'.ownsRow w.heap.size 3 1 v' 0 []/\v'≠.slice none 0 0/\Below w.heap.size w w':=Any.slices_Clone_int_zero Tryz.uz a c w
def Tryz.AY:Go.Shelf.Ren:=⟨fun|6=>71|15=>112|14=>111|28=>135|29=>136|20=>127|21=>128|22=>129|23=>130|24=>131|25=>132|26=>133|27=>134|46=>140|47=>141|48=>142|49=>143|50=>144|57=>147|n=>n,fun|22=>28|24=>25|25=>108|3=>3|39=>112|0=>0|53=>159|55=>161|4=>4|46=>153|45=>152|50=>37|5=>5|9=>9|66=>166|70=>170|76=>172|77=>173|n=>n,fun|n=>n⟩
theorem Tryz.DR:Go.Proofs.SlLaysF.n6 Tryz.prog Tryz.AY:={
 mixed:=by kernel_rfl
 f6:=⟨Tryz.f71.name,by decide,Tryz.func71.trans (congrArg some (by kernel_rfl))⟩
 f14:=⟨Tryz.f111.name,by decide,Tryz.func111.trans (congrArg some (by kernel_rfl))⟩
 f15:=Tryz.func112.trans (congrArg some (by kernel_rfl))
 f20:=⟨Tryz.f127.name,by decide,Tryz.func127.trans (congrArg some (by kernel_rfl))⟩
 f21:=⟨Tryz.f128.name,by decide,Tryz.func128.trans (congrArg some (by kernel_rfl))⟩
 f22:=⟨Tryz.f129.name,by decide,Tryz.func129.trans (congrArg some (by kernel_rfl))⟩
 f23:=⟨Tryz.f130.name,by decide,Tryz.func130.trans (congrArg some (by kernel_rfl))⟩
 f24:=⟨Tryz.f131.name,by decide,Tryz.func131.trans (congrArg some (by kernel_rfl))⟩
 f25:=⟨Tryz.f132.name,by decide,Tryz.func132.trans (congrArg some (by kernel_rfl))⟩
 f26:=⟨Tryz.f133.name,by decide,Tryz.func133.trans (congrArg some (by kernel_rfl))⟩
 f27:=⟨Tryz.f134.name,by decide,Tryz.func134.trans (congrArg some (by kernel_rfl))⟩
 f28:=Tryz.func135.trans (congrArg some (by kernel_rfl))
 f29:=Tryz.func136.trans (congrArg some (by kernel_rfl))
 f46:=⟨Tryz.f140.name,by decide,Tryz.func140.trans (congrArg some (by kernel_rfl))⟩
 f47:=Tryz.func141.trans (congrArg some (by kernel_rfl))
 f48:=Tryz.func142.trans (congrArg some (by kernel_rfl))
 f49:=⟨Tryz.f143.name,by decide,Tryz.func143.trans (congrArg some (by kernel_rfl))⟩
 f50:=⟨Tryz.f144.name,by decide,Tryz.func144.trans (congrArg some (by kernel_rfl))⟩
 f57:=⟨Tryz.f147.name,by decide,Tryz.func147.trans (congrArg some (by kernel_rfl))⟩
 t0:=Tryz.underlying0
 a0:=Tryz.isAgg0
 z0:=Tryz.sizeOf0
 v0:=Tryz.zeroValue0
 t3:=Tryz.underlying3
 a3:=Tryz.isAgg3
 z3:=Tryz.sizeOf3
 v3:=Tryz.zeroValue3
 t4:=Tryz.underlying4
 a4:=Tryz.isAgg4
 z4:=Tryz.sizeOf4
 v4:=Tryz.zeroValue4
 t5:=Tryz.underlying5
 a5:=Tryz.isAgg5
 z5:=Tryz.sizeOf5
 v5:=Tryz.zeroValue5
 t9:=Tryz.underlying9
 a9:=Tryz.isAgg9
 z9:=Tryz.sizeOf9
 v9:=Tryz.zeroValue9
 t22:=Tryz.underlying28
 a22:=Tryz.isAgg28
 z22:=Tryz.sizeOf28
 v22:=Tryz.zeroValue28
 a24:=Tryz.isAgg25
 z24:=Tryz.sizeOf25
 t25:=Tryz.underlying108
 a25:=Tryz.isAgg108
 z25:=Tryz.sizeOf108
 v25:=Tryz.zeroValue108
 t39:=Tryz.underlying112
 a39:=Tryz.isAgg112
 z39:=Tryz.sizeOf112
 v39:=Tryz.zeroValue112
 t45:=Tryz.underlying152
 a45:=Tryz.isAgg152
 z45:=Tryz.sizeOf152
 v45:=Tryz.zeroValue152
 t46:=Tryz.underlying153
 a46:=Tryz.isAgg153
 z46:=Tryz.sizeOf153
 v46:=Tryz.zeroValue153
 t50:=Tryz.underlying37
 a50:=Tryz.isAgg37
 z50:=Tryz.sizeOf37
 v50:=Tryz.zeroValue37
 t53:=Tryz.underlying159
 a53:=Tryz.isAgg159
 z53:=Tryz.sizeOf159
 v53:=Tryz.zeroValue159
 t55:=Tryz.underlying161
 a55:=Tryz.isAgg161
 z55:=Tryz.sizeOf161
 v55:=Tryz.zeroValue161
 t66:=Tryz.underlying166
 a66:=Tryz.isAgg166
 z66:=Tryz.sizeOf166
 v66:=Tryz.zeroValue166
 t70:=Tryz.underlying170
 a70:=Tryz.isAgg170
 z70:=Tryz.sizeOf170
 v70:=Tryz.zeroValue170
 t76:=Tryz.underlying172
 a76:=Tryz.isAgg172
 z76:=Tryz.sizeOf172
 v76:=Tryz.zeroValue172
 t77:=Tryz.underlying173
 a77:=Tryz.isAgg173
 z77:=Tryz.sizeOf173
 v77:=Tryz.zeroValue173}
def Tryz.O3:Go.Shelf.Ren:=⟨fun|5=>73|7=>113|n=>n,fun|22=>3|3=>3|4=>4|n=>n,fun|n=>n⟩
theorem Tryz.abd:Go.Proofs.SlLaysC2.n5 Tryz.prog Tryz.O3:={
 mixed:=by kernel_rfl
 f5:=⟨Tryz.f73.name,by decide,Tryz.func73.trans (congrArg some (by kernel_rfl))⟩
 f7:=⟨Tryz.f113.name,by decide,Tryz.func113.trans (congrArg some (by kernel_rfl))⟩
 t3:=Tryz.underlying3
 a3:=Tryz.isAgg3
 z3:=Tryz.sizeOf3
 v3:=Tryz.zeroValue3
 t4:=Tryz.underlying4
 a4:=Tryz.isAgg4
 z4:=Tryz.sizeOf4
 v4:=Tryz.zeroValue4
 t22:=Tryz.underlying3
 a22:=Tryz.isAgg3
 z22:=Tryz.sizeOf3
 v22:=Tryz.zeroValue3}
open Go.RowKit Go.Lib in
theorem Tryz.AZ (p:Option Addr)(cap:Nat)(fv:Value)(w:World):
 Calls Tryz.prog 71 #[.slice p 0 cap,fv] w fun e w'=>e= .returned (.tuple #[])/\w'=w:=AnyF.slices_SortFunc_none (P:=Tryz.prog) (ρ:=Tryz.AY) {Tryz.DR with} p cap fv w
end Go.Proofs
namespace Go.Proofs.YtnfdimfepbbbpaaGreat
open Go.RowKit Go.Sort Go.Lib Go.Proofs.YtnfdimfepbbbpaaGreat.Deep
theorem O4 {S:aL}{w:World}(l:List Int):cC S w (l.map (Value.int .i64)) l:=by
 refine⟨by show _=l.length*1;simp,fun i hi=>?_⟩
 show((l.map (Value.int .i64)).drop (i*1)).take 1=[.int .i64 l[i]]
 rw[Nat.mul_one,List.drop_eq_getElem_cons (by simpa using hi),List.take_succ_cons,List.take_zero]
 simp
theorem KU {o:Orig}{w:World}{S:aL}{rs:List nr}(H:Fr o w S rs){v:Value}{l:List Int}(hv:Rd (· <w.heap.size) w v l)(hl:l.length<=1000000000):
  Calls Tryz.prog 85 #[v] w fun e w'=> ∃u,e= .returned u/\Fr o w' S (.row 3 u l::rs)/\Below w.heap.size w w':=by
 obtain⟨p,c,rfl,h1,h2,h3⟩:=cn hv
 have ZV:∀(u:Value) (w':World) (xs:List Value),w'.ownsRow w.heap.size 3 1 u l.length xs->xs=l.map (Value.int .i64)->Below w.heap.size w w'->Fr o w' S (.row 3 u l::rs):=by
  intro u w' xs k9 QV hb
  refine(H.on hb).put _ ⟨xs,⟨k9.1,?_⟩,by rw[QV];exact O4 l⟩ fun b ng=>?_
  .rcases k9.2 with h|⟨g,cap,cur,e1,e2,rest⟩
   .exact .inl h
   exact .inr ⟨g,cap,cur,e1,Nat.zero_le _,rest⟩
  rcases k9.2 with⟨h,_⟩|⟨g,cap,cur,e1,e2,e3,_⟩
  .rw[h] at ng;cases ng
  rw[e1] at ng
  have e9:g=b:=Option.some.inj ng
  have iH:g<w'.heap.size:=(Array.getElem?_eq_some_iff.1 e3).1
  rw[<-e9]
  exact⟨Nat.le_trans H.below.size e2,iH,fun hs=>by have:=H.ig g hs;omega,fun r hr e=>by have:=(H.own r hr g e).2.1;omega⟩
 cases p with
 |none=>
  have:l=[]:=by
   rcases h3 with h|⟨g,off,cur,t,fz,h,_⟩
   .exact h
   cases h
  subst this
  refine(Tryz.slices_Clone_int_nil 0 c w).mono fun e w' ⟨he,hw⟩=>⟨_,he,?_,?_⟩
  .subst hw;exact H.newRow 3
  subst hw;exact Below.refl _ _
 |some a=>
  by_cases hz:l=[]
  .subst hz
   refine(Tryz.slices_Clone_int_zero a c w).mono fun e w' ⟨u,he,k9,_,hb⟩=>⟨u,he,ZV u w' [] k9 rfl hb,hb⟩
  rcases h3 with h|⟨g,off,cur,t,fz,h,hg,hw,hc⟩
  .exact absurd h hz
  cases h
  refine(Tryz.slices_Clone_int g off l.length c l w (Nat.le_refl _) (by omega) fun j hj=>?_).mono fun e w' ⟨u,he,k9,_,hb⟩=>⟨u,he,ZV u w' _ k9 (by rw[List.take_length]) hb,hb⟩
  obtain⟨cs,hr,hq⟩:=hc j hj
  have hr:cs=[.int .i64 l[j]]:=hr
  have:=hq 0 (show 0<1 by decide)
  rw[hr] at this
  rw[cell_of_row w g _ cur t fz hw]
  have e:off+j*Data.size Int+0=off+j:=by show off+j*1+0=_;omega
  rw[e] at this
  rw[this]
  simp[List.getD_eq_getElem?_getD,List.getElem?_eq_getElem hj]
theorem SP:aS Tryz.prog 85 [(false,.list .int)] [.list .int] (fun x=>(show List Int from x.1).length<=1000000) (fun x=>(show List Int from x.1,())):=by
 intro o vs x hx hd
 match vs,hx with
 |[v],hx=>
  refine(KU (Fr.start o) (v:=v) (l:=show List Int from x.1) hx.1 (Nat.le_trans hd (by decide))).mono fun e w' ⟨u,he,H,hb⟩=>⟨u,he,?_,hb⟩
  exact H.aaC 0 rfl
def IP:cE Tryz.prog:=plain SP
end Go.Proofs.YtnfdimfepbbbpaaGreat
namespace Go.Proofs.YtnfdimfepbbbpaaGreat
open Go.RowKit Go.Sort Go.Lib Go.Shelf Go.Proofs.YtnfdimfepbbbpaaGreat.Deep
section
variable {α:Type}[Inhabited α]{enc:α->Value}{w:World}{g off n:Nat}{cur:Array Value}{e:TypeId}{os:Array Obj}{d:Array α}
theorem Wp (hb:w.heap[g]?=some (.cells cur e (0,0)))(ht:(cur.toList.drop off).take d.size=d.toList.map enc):Holds enc w g off d:=by
 intro j hj
 refine⟨?_,by simp[World.frozen?,hb]⟩
 have h1:((cur.toList.drop off).take d.size)[j]?=(d.toList.map enc)[j]?:=by rw[ht]
 rw[List.getElem?_take_of_lt hj,List.getElem?_drop] at h1
 simp only[World.cell?,hb]
 simp only[Option.isSome_none,Bool.false_eq_true,if_false]
 rw[<-Array.getElem?_toList,h1]
 simp[hj]
theorem ZW {fr:Nat×Nat}(hb:w.heap[g]?=some (.cells cur e fr)):(sortWorld enc w g off n d os).heap[g]?=some (.cells (putCells enc off d cur) e fr):=by
 have hg:g<w.heap.size:=(Array.getElem?_eq_some_iff.1 hb).1
 unfold sortWorld
 rw[heap_grow_old _ _ (by simpa using hg)]
 simp[putRow,mapBlock,Sort.ahead,Array.getElem?_modify,hb,onCells]
theorem GO {k:Nat}(hk:k<w.heap.size)(dL:k≠g):(sortWorld enc w g off n d os).heap[k]?=w.heap[k]?:=by
 unfold sortWorld
 rw[heap_grow_old _ _ (by simpa using hk)]
 have:g≠k:=fun e=>dL e.symm
 simp[putRow,mapBlock,Sort.ahead,Array.getElem?_modify,this]
theorem abe:jH w (sortWorld enc w g off n d os) (fun b=>some g=some b):=
 ⟨rfl,rfl,rfl,by unfold sortWorld;simp,fun k hk hn=>GO hk fun q=>hn (by rw[q])⟩
theorem ZX (h:off+d.size<=cur.size):((putCells enc off d cur).toList.drop off).take d.size=d.toList.map enc:=by
 apply List.ext_getElem?
 intro j
 by_cases hj:j<d.size
 .rw[List.getElem?_take_of_lt hj,List.getElem?_drop,Array.getElem?_toList]
  simp[putCells,hj,show off+j<cur.size by omega]
 rw[List.getElem?_take_eq_none (by omega),List.getElem?_eq_none (by simp;omega)]
end
def kP (l:List (List Int)):List (List Int):=l.mergeSort fun a b=>decide (a.getD 0 0<=b.getD 0 0)
def lJ (l:List (List Int)):Prop:=(∀x∈l,x≠[])/\(l.map fun x=>x.getD 0 0).Nodup
def Ly (l:List (List Int))(i:Nat):Int:=(l.getD i []).getD 0 0
def KV (l:List (List Int))(i j:Fin l.length):Int:=Lib.compareInt (Ly l i.1) (Ly l j.1)
theorem ZY (l:List (List Int))(i j:Fin l.length):ltOf (KV l) i j=decide (Ly l i.1<Ly l j.1):=by
 unfold ltOf KV Lib.compareInt
 by_cases h1:Ly l i.1<Ly l j.1
 .simp[h1]
 by_cases h2:Ly l j.1<Ly l i.1
 .simp[h1,h2]
 simp[h1,h2]
theorem abf (l:List (List Int)):SWO (ltOf (KV l)) where
 irrefl x:=by rw[ZY];simp
 trans x y z h1 h2:=by rw[ZY] at*;simp at*;omega
 ntrans x y z h1 h2:=by rw[ZY] at*;simp at*;omega
theorem qA (l:List (List Int))(i:Fin l.length):Ly l i.1=(l[i.1]).getD 0 0:=by
 unfold Ly
 rw[List.getD_eq_getElem?_getD (l:=l),List.getElem?_eq_getElem i.2];rfl
theorem abg {l:List (List Int)}(h:lJ l)(i j:Fin l.length)(h1:ltOf (KV l) i j=false)(h2:ltOf (KV l) j i=false):i=j:=by
 rw[ZY] at h1 h2
 simp at h1 h2
 have e:Ly l i.1=Ly l j.1:=by omega
 rw[qA,qA] at e
 have hn:=h.2
 have:=(List.getElem_inj (h₀:=by rw[List.length_map];exact i.2) (h₁:=by rw[List.length_map];exact j.2) hn).1 (by rw[List.getElem_map,List.getElem_map];exact e)
 exact Fin.ext this
theorem SQ (l:List (List Int)):((List.finRange l.length).mergeSort fun x y=>!(ltOf (KV l)) y x).map (fun i=>l[i.1])=kP l:=by
 unfold kP
 rw[List.map_mergeSort (s:=fun a b=>decide (a.getD 0 0<=b.getD 0 0))]
 .congr 1
  apply List.ext_getElem (by simp)
  intro k h1 h2
  simp
 intro a _ b _
 rw[ZY,qA,qA]
 generalize (l[b.1]).getD 0 0=x
 generalize (l[a.1]).getD 0 0=y
 by_cases h:x<y
 .rw[decide_eq_true h,decide_eq_false (by omega)];rfl
 rw[decide_eq_false h,decide_eq_true (by omega)];rfl
theorem O5 (g1 o1 n1 c1 g2 o2 n2 c2:Nat)(x y:Int)(W:World)(h1:0<n1)(h2:0<n2)(k1:W.cell? ⟨g1,o1,none⟩=some (.int .i64 x))(k2:W.cell? ⟨g2,o2,none⟩=some (.int .i64 y)):
  Calls Tryz.prog 139 #[.slice (some ⟨g1,o1,none⟩) n1 c1,.slice (some ⟨g2,o2,none⟩) n2 c2] W fun e w'=>e= .returned (.int .i64 (Lib.compareInt x y))/\∃q,w'=W.drewN q:=by
 have O6:=fun W=>AnyG.cmp_Compare_int Tryz.abd x y W
 change ∀W,Calls Tryz.prog 73 _ _ _ at O6
 generalize Lib.compareInt x y=r at O6 ⊢
 go_enter Tryz.func139,Tryz.ntmps139
 go_wp2
 go_region_with (go_at_call 73;refine(O6 _).mono ?_;rintro e w' ⟨rfl,rfl⟩)
 all_goals (go_wp2;go_ret;exact⟨rfl,1,rfl⟩)
theorem UN {S:aL}{w:World}{v:Value}{a:List Int}(h:ic S w v a)(hn:a≠[]):∃g o n c,v= .slice (some ⟨g,o,none⟩) n c/\0<n/\S g/\w.cell? ⟨g,o,none⟩=some (.int .i64 (a.getD 0 0)):=by
 obtain⟨p,c,rfl,h1,h2,h3⟩:=h
 rcases h3 with h3|⟨g,off,cur,t,fz,rfl,hg,hw,hc⟩
 .exact absurd h3 hn
 have hl:0<a.length:=List.length_pos_iff.2 hn
 obtain⟨cs,hr,hj⟩:=hc 0 hl
 have hr:cs=[.int .i64 a[0]]:=hr
 refine⟨g,off,a.length,c,rfl,hl,hg,?_⟩
 have:=hj 0 (show 0<1 by decide)
 rw[hr] at this
 simp only[World.cell?,hw,Option.isSome_none,Bool.false_eq_true,if_false]
 have e:off+0*Data.size Int+0=off:=by omega
 rw[e] at this
 rw[this,List.getD_eq_getElem?_getD,List.getElem?_eq_getElem hl];rfl
theorem KW {w w':World}{g o:Nat}(h:w'.heap[g]?=w.heap[g]?):w'.cell? ⟨g,o,none⟩=w.cell? ⟨g,o,none⟩:=by
 simp only[World.cell?,h]
theorem IQ {A:bF}{z:R2}{j:Nat}(hj:j≠0):bq A (aT (fun _=>none) [(0,some z)]) j=none:=by
 have h:aT (fun _=>none) [(0,some z)] j=none:=by
  unfold aT
  exact dR (Ne.symm hj)
 unfold bq
 rw[h];rfl
abbrev wq:ur:=⟨[.row 25 (.list .int)],[.own 0,.nh 139 []],[.row 25 (.list .int)],[],1⟩
theorem Wq:gQ Tryz.prog 71 wq (fun x=>lJ (show List (List Int) from x.1.1)/\(show List (List Int) from x.1.1).length<=1000000) (fun x=>((kP (show List (List Int) from x.1.1),()),())):=by
 intro o A x H _ hd
 obtain⟨⟨l,_⟩,_⟩:=x
 change List (List Int) at l
 change lJ l/\l.length<=1000000 at hd
 obtain⟨hd,hl9⟩:=hd
 have h0:bq A (aT (fun _=>none) (gO 0 wq.sh (l,()))) 0=some (@ob (El (.list .int)) _ 25 (A.v 0) l):=rfl
 have abh:∀j,j≠0->bq A (aT (fun _=>none) (gO 0 wq.sh (l,()))) j=none:=fun j hj=>IQ (z:=.row 25 (.list .int) l) hj
 have iJ:=fun b hb=>H.own 0 _ b h0 hb
 obtain⟨xs,hh',JK⟩:=H.ok 0 _ h0
 have hh:ga o.w 25 1 (A.v 0) (List.length (α:=List Int) l) xs:=hh'
 have hR:cC (α:=List Int) o.S o.w xs l:=JK
 show Calls _ _ #[A.v 0,.func (.func 139) #[] #[]] o.w _
 have sJ:∀w',jH o.w w' (fun b=>(A.v 0).ownBlock=some b)->di (α:=List Int) o.S w' 25 (A.v 0) (kP l)->KO o A wq ((kP l,()),()) (.returned (.tuple #[])) w':=fun w' hg eE=>by
  have H2:=H.mut 0 h0 hg
  have H3:=H2.put 0 (@ob (El (.list .int)) _ 25 (A.v 0) (kP l)) eE fun b hb=>⟨(iJ b hb).1,Nat.lt_of_lt_of_le (iJ b hb).2.1 hg.size,(iJ b hb).2.2,fun i ri hi hf=>by
   have h5:=((if_neg hi).symm.trans hf).symm.trans (abh i hi)
   cases h5⟩
  refine⟨_,rfl,A,o.S,fun _ _=>⟨rfl,rfl,rfl,rfl⟩,H3.sub fun j r hj=>?_,rfl⟩
  by_cases q:j=0
  .subst q;exact hj
  exact absurd (hj.symm.trans (IQ (z:=.row 25 (.list .int) (kP l)) q)) (by simp)
 have Rq:l=[]->di (α:=List Int) o.S o.w 25 (A.v 0) (kP l):=fun e=>by
  have e2:kP l=l:=by rw[e];simp[kP]
  rw[e2];exact⟨xs,hh',JK⟩
 rcases hh.2 with⟨hv,hn⟩|⟨g,dd,cap,cur,hv,hg,JB,qF,cH,jO⟩
 .have e:l=[]:=List.eq_nil_of_length_eq_zero hn
  have hs:Calls Tryz.prog 71 #[A.v 0,.func (.func 139) #[] #[]] o.w (fun e w'=>e= .returned (.tuple #[])/\w'=o.w):=by rw[hv];exact Tryz.AZ none 0 _ o.w
  exact hs.mono fun e' w' ⟨he,hw⟩=>by rw[he,hw];exact sJ _ (jH.refl _ _) (Rq e)
 by_cases hz:l.length=0
 .have e:l=[]:=List.eq_nil_of_length_eq_zero hz
  have hs:Calls Tryz.prog 71 #[A.v 0,.func (.func 139) #[] #[]] o.w (fun e w'=>e= .returned (.tuple #[])/\w'=o.w):=by rw[hv,hz];exact Tryz.AZ _ cap _ o.w
  exact hs.mono fun e' w' ⟨he,hw⟩=>by rw[he,hw];exact sJ _ (jH.refl _ _) (Rq e)
 have Rc:xs.length=l.length:=by have:=hh.1;rw[Nat.mul_one] at this;exact this
 haveI:Inhabited (Fin l.length):=⟨⟨0,Nat.pos_of_ne_zero hz⟩⟩
 have QW:∀i:Fin l.length,ic (α:=Int) o.S o.w (xs[i.1]'(by rw[Rc];exact i.2)) l[i.1]:=fun i=>by
  have h:=hR.2 i.1 i.2
  rw[show Data.size (List Int)=1 from rfl,Nat.mul_one,List.drop_eq_getElem_cons (by rw[Rc];exact i.2),List.take_succ_cons,List.take_zero] at h
  obtain⟨v,hv,hs⟩:=h
  rw[(List.cons.inj hv).1];exact hs
 generalize ZZ:(fun i:Fin l.length=>(xs[i.1]'(by rw[Rc];exact i.2):Value))=enc
 have SR:∀i:Fin l.length,ic (α:=Int) o.S o.w (enc i) l[i.1]:=fun i=>by rw[<-ZZ];exact QW i
 have QV:(List.finRange l.length).map enc=xs:=by
  rw[<-ZZ]
  apply List.ext_getElem (by simp[Rc])
  intro k h1 h2
  simp
 have oG:(List.finRange l.length).toArray.size=l.length:=by rw[List.size_toArray,List.length_finRange]
 have hgs:g<o.w.heap.size:=(Array.getElem?_eq_some_iff.1 hg).1
 have hSg:∀k,o.S k->k≠g:=fun k hk e=>(iJ g (by show(A.v 0).ownBlock=some g;rw[hv];rfl)).2.2 (e▸hk)
 have hH:Holds enc o.w g (dd*1) (List.finRange l.length).toArray:=Wp hg (by rw[oG,QV,<-jO,Nat.mul_one l.length])
 have abi:CmpLays1 Tryz.prog 139 #[] enc (KV l) g (dd*1) (List.finRange l.length).toArray.size o.w:=fun m os dk hs x y=>by
  obtain⟨g1,o1,n1,c1,e1,p1,s1,k1⟩:=UN (SR x) (hd.1 _ (List.getElem_mem x.2))
  obtain⟨g2,o2,n2,c2,e2,p2,s2,k2⟩:=UN (SR y) (hd.1 _ (List.getElem_mem y.2))
  have hk:∀k off,o.S k->(sortWorld enc o.w g (dd*1) m dk os).cell? ⟨k,off,none⟩=o.w.cell? ⟨k,off,none⟩:=fun k off hk=>KW (GO (H.ig k hk) (hSg k hk))
  show Calls _ _ #[enc x,enc y] _ _
  rw[e1,e2]
  refine(O5 g1 o1 n1 c1 g2 o2 n2 c2 _ _ _ p1 p2 ((hk _ _ s1).trans k1) ((hk _ _ s2).trans k2)).mono fun e w' ⟨he,q,hq⟩=>⟨?_,q,#[],by rw[hq,grow_empty]⟩
  unfold KV
  rw[he,qA,qA]
 have hS:=Any.slices_SortFunc_total Tryz.DR enc (fun i=>by obtain⟨p,c,e,_⟩:=SR i;rw[e];rfl) (KV l) (abf l) 139 #[] g (dd*1) cap (List.finRange l.length).toArray o.w
  (enters_of Tryz.func139 (by kernel_rfl) rfl) abi hH hgs (by rw[oG];omega) (abg hd)
 change Calls _ 71 _ _ _ at hS
 rw[oG] at hS
 rw[hv]
 refine hS.mono fun e w' ⟨he,n,os,hw⟩=>?_
 have Kf:(((List.finRange l.length).mergeSort fun x y=>!(ltOf (KV l)) y x)).length=l.length:=by rw[List.length_mergeSort];simp
 have hsr:(((List.finRange l.length).mergeSort fun x y=>!(ltOf (KV l)) y x)).map (fun i=>l[i.1])=kP l:=SQ l
 obtain⟨so,hso⟩:∃so,so=(List.finRange l.length).mergeSort fun x y=>!(ltOf (KV l)) y x:=⟨_,rfl⟩
 change w'=sortWorld enc o.w g (dd*1) n ((List.finRange l.length).mergeSort fun x y=>!(ltOf (KV l)) y x).toArray os at hw
 rw[<-hso] at Kf hsr hw
 have IS:(kP l).length=l.length:=by rw[<-hsr,List.length_map,Kf]
 rw[he]
 refine sJ w' ?_ ⟨so.map enc,⟨?_,.inr ⟨g,dd,cap,putCells enc (dd*1) so.toArray cur,?_,?_,?_,qF,?_,?_⟩⟩,?_,?_⟩
 .rw[hw,hv];exact abe
 .rw[List.length_map,Kf,IS];exact(Nat.mul_one _).symm
 .rw[hv,IS];rfl
 .rw[hw];exact ZW hg
 .rw[IS];exact JB
 .unfold putCells;rw[Array.size_mapIdx];exact cH
 .have:=ZX (enc:=enc) (off:=dd*1) (d:=so.toArray) (cur:=cur) (by rw[List.size_toArray,Kf];omega)
  rw[List.size_toArray,Kf] at this
  rw[IS]
  show((putCells enc (dd*1) so.toArray cur).toList.drop (dd*1)).take (l.length*1)=_
  rw[Nat.mul_one l.length,this]
 .rw[List.length_map,Kf,IS];exact(Nat.mul_one _).symm
 intro i hi
 have Lt:i<so.length:=by rw[Kf,<-IS];exact hi
 have hk:cN o.S o.w w':=fun k hk=>by rw[hw];exact GO (H.ig k hk) (hSg k hk)
 show Data.rd o.S w' (((so.map enc).drop (i*1)).take 1) (kP l)[i]
 rw[Nat.mul_one,List.drop_eq_getElem_cons (by rw[List.length_map];exact Lt),List.take_succ_cons,List.take_zero,List.getElem_map]
 have e1:(kP l)[i]=l[(so[i]).1]:=by
  have:=List.getElem_of_eq hsr.symm hi
  rw[this,List.getElem_map]
 rw[e1]
 exact Data.keep hk ⟨_,rfl,SR _⟩
def Wr:cE Tryz.prog:=uv Wq
end Go.Proofs.YtnfdimfepbbbpaaGreat
namespace Go.Proofs.YtnfdimfepbbbpaaGreat
open Go.RowKit
open Go.Proofs.YtnfdimfepbbbpaaGreat.Deep
theorem EO {r:Option nQ}{ds:List Int}{out:List (Int×List Int)}:∀ {k:Nat},k<=ds.length->∃sub:List Int,sub.Sublist (ds.take k)/\(dJ r ds out k).2.map (·.1)=out.map (·.1)++sub
 |0,_=>⟨[],List.nil_sublist _,(List.append_nil _).symm⟩
 |k+1,h=>by
  obtain⟨sub,h1,h2⟩:=EO (r:=r) (ds:=ds) (out:=out) (k:=k) (by omega)
  have ht:ds.take (k+1)=ds.take k++[ds.getD k 0]:=b6 (by omega) 0
  show ∃sub:List Int,_/\(jb r (dJ r ds out k) (ds.getD k 0)).2.map (·.1)=_
  unfold jb
  split
  .refine⟨sub++[ds.getD k 0],by rw[ht];exact h1.append (List.Sublist.refl _),?_⟩
   rw[List.map_append,h2,List.append_assoc];rfl
  exact⟨sub,by rw[ht];exact h1.trans (List.sublist_append_left _ _),h2⟩
theorem IT {V:List Int}{T:List (List Int)}(hV:V.Nodup):∀ {k:Nat},k<=V.length->((tK V T k).map (·.1)).Nodup/\∀x∈(tK V T k).map (·.1),∃j,j<k/\x= -1-V.getD (V.length-1-j) 0
 |0,_=>⟨List.nodup_nil,fun x hx=>by cases hx⟩
 |k+1,h=>by
  obtain⟨h1,h2⟩:=IT (T:=T) hV (k:=k) (by omega)
  unfold tK
  split
  .rw[List.map_append]
   refine⟨List.nodup_append.2 ⟨h1,by simp,fun a ha b hb=>?_⟩,fun x hx=>?_⟩
   .obtain⟨j,hj,e⟩:=h2 a ha
    rw[List.map_cons,List.map_nil,List.mem_singleton] at hb
    intro q
    rw[e,hb] at q
    have:=eV (z:=0) hV (show V.length-1-j<V.length by omega) (show V.length-1-k<V.length by omega) (by omega)
    omega
   rcases List.mem_append.1 hx with q|q
   .obtain⟨j,hj,e⟩:=h2 x q;exact⟨j,by omega,e⟩
   rw[List.map_cons,List.map_nil,List.mem_singleton] at q;exact⟨k,Nat.lt_succ_self _,q⟩
  exact⟨h1,fun x hx=>let⟨j,hj,e⟩:=h2 x hx;⟨j,by omega,e⟩⟩
theorem yo {n:Int}{E:List (Int×Int)}{V L:List Int}{T:List (List Int)}(h:(aa n E V L T).2=0):((aa n E V L T).1.map (·.1)).Nodup:=by
 have hw:=h
 rw[dm] at h
 obtain⟨hp,hT,hr⟩:=fN h
 obtain⟨jZ,hV,hL,_⟩:=aD hp
 have hVn:=qg (aG.1 hV).1
 have UD:=qg (aG.1 hL).1
 rw[mJ h]
 obtain⟨sub,h1,h2⟩:=EO (r:=(bT n E V L T).1) (ds:=dA L L.length) (out:=tK V T V.length) (Nat.le_refl _)
 show(((dJ _ _ _ _).2).map (·.1)).Nodup
 rw[h2]
 obtain⟨l1,l2⟩:=IT (T:=T) hVn (Nat.le_refl V.length)
 refine List.nodup_append.2 ⟨l1,?_,fun a ha b hb q=>?_⟩
 .rw[List.take_length] at h1
  exact(qm UD (Nat.le_refl _)).sublist h1
 obtain⟨j,hj,e⟩:=l2 a ha
 have LZ:=(cO b).1 (List.mem_of_mem_take (h1.subset hb))
 have v0:=(aG.1 hV).2 _ (af (l:=V) (i:=V.length-1-j) (d:=0) (by omega))
 have b0:=(aG.1 hL).2 _ LZ
 omega
def e6 (R:List (List Int)):Nat->List (Int×Int)
 |0=>[]
 |k+1=>qJ (e6 R k) (R.getD k []) (k:Int) (R.getD k []).length
theorem A4 {R:List (List Int)}{i:Int}(h:0<=i):e6 R (i+1).toNat=qJ (e6 R i.toNat) (R.getD i.toNat []) i (R.getD i.toNat []).length:=by
 rw[show(i+1).toNat=i.toNat+1 by omega]
 show qJ _ _ ((i.toNat:Nat):Int) _=_
 rw[Int.toNat_of_nonneg h]
theorem yp {R:List (List Int)}{N:Nat}(hR:∀k,(R.getD k []).length<=N):∀k,(e6 R k).length<=k*N
 |0=>by simp[e6]
 |k+1=>by
  have h:=yp hR k
  have h1:=jo (m:=e6 R k) (vs:=R.getD k []) (c:=(k:Int)) (R.getD k []).length
  have h2:=hR k
  show(qJ _ _ _ _).length<=_
  rw[Nat.succ_mul];omega
theorem qC {R:List (List Int)}:∀ {k:Nat},k<=R.length->∀x,(ah (e6 R k) x).isSome=true↔∃j,j<k/\x∈R.getD j []
 |0,_,x=>⟨fun h=>(by cases h),fun⟨j,h,_⟩=>(by omega)⟩
 |k+1,h,x=>by
  show(ah (qJ _ _ _ _) x).isSome=true↔_
  rw[kL (Nat.le_refl _),List.take_length]
  by_cases q:x∈R.getD k []
  .rw[if_pos q];exact⟨fun _=>⟨k,Nat.lt_succ_self _,q⟩,fun _=>rfl⟩
  rw[if_neg q,qC (k:=k) (by omega)]
  exact⟨fun⟨j,h1,h2⟩=>⟨j,by omega,h2⟩,fun⟨j,h1,h2⟩=>⟨j,by
   rcases Nat.lt_succ_iff_lt_or_eq.1 h1 with z|z
   .exact z
   subst z;exact absurd h2 q,h2⟩⟩
def Cu (m:List (Int×Int))(W:List (Int×List Int)):Nat->List (List Int)
 |0=>[]
 |k+1=>if(ah m (W.getD k (0,[])).1).isSome=true then Cu m W k else Cu m W k++[[(W.getD k (0,[])).1]]
def Cv (W:List (Int×List Int))(S:List (List Int)):List (List Int):=S++Cu (e6 S S.length) W W.length
def cA (n:Int)(E:List (Int×Int))(V L:List Int)(T S:List (List Int)):List (List Int):=if bA n E V L T S≠0 then[] else kP (Cv (aa n E V L T).1 S)
theorem wu {m:List (Int×Int)}{W:List (Int×List Int)}:∀k,(Cu m W k).length<=k
 |0=>Nat.le_refl _
 |k+1=>by
  have:=wu (m:=m) (W:=W) k
  unfold Cu
  split
  .omega
  rw[List.length_append];simp;omega
theorem SS {m:List (Int×Int)}{W:List (Int×List Int)}{i:Int}(h0:0<=i)(h:(ah m (W.getD i.toNat (0,[])).1).isSome=true):Cu m W (i+1).toNat=Cu m W i.toNat:=by
 rw[show(i+1).toNat=i.toNat+1 by omega];exact if_pos h
theorem Ws {m:List (Int×Int)}{W:List (Int×List Int)}{i:Int}(h0:0<=i)(h:(ah m (W.getD i.toNat (0,[])).1).isSome=false):Cu m W (i+1).toNat=Cu m W i.toNat++[[(W.getD i.toNat (0,[])).1]]:=by
 rw[show(i+1).toNat=i.toNat+1 by omega];exact if_neg (by rw[h];decide)
theorem pL {m:List (Int×Int)}{W:List (Int×List Int)}:∀ {k:Nat},k<=W.length->∃sub:List Int,sub.Sublist ((W.take k).map (·.1))/\Cu m W k=sub.map (fun x=>[x])/\∀x∈sub,(ah m x).isSome=false
 |0,_=>⟨[],List.nil_sublist _,rfl,fun x hx=>by cases hx⟩
 |k+1,h=>by
  obtain⟨sub,h1,h2,h3⟩:=pL (m:=m) (W:=W) (k:=k) (by omega)
  have ht:W.take (k+1)=W.take k++[W.getD k (0,[])]:=b6 (by omega) _
  unfold Cu
  split
  .exact⟨sub,by rw[ht,List.map_append];exact h1.trans (List.sublist_append_left _ _),h2,h3⟩
  rename_i q
  refine⟨sub++[(W.getD k (0,[])).1],by rw[ht,List.map_append];exact h1.append (List.Sublist.refl _),by rw[h2,List.map_append];rfl,fun x hx=>?_⟩
  rcases List.mem_append.1 hx with z|z
  .exact h3 x z
  rw[List.mem_singleton.1 z];simpa using q
theorem yq {ow:List (Int×Int)}{S:List (List Int)}{N:Nat}:∀ {i:Nat} {z:S4×List (Int×Int)},iU ow S N i=some z->∀j,0<j->j<i->(S.getD (j-1) []).getD 0 0<(S.getD j []).getD 0 0
 |0,z,_,j,_,hj=>by omega
 |i+1,z,h,j,h0,hj=>by
  have h:(iU ow S N i).bind (fun s=>lW ow S s i)=some z:=h
  cases hq:iU ow S N i with
  |none=>rw[hq] at h;cases h
  |some y=>
   by_cases e:j=i
   .subst e
    rw[hq] at h
    have h:lW ow S y j=some z:=h
    unfold lW at h
    split at h
    .cases h
    rename_i q
    exact Int.lt_of_not_ge fun z=>q (.inr ⟨h0,z⟩)
   exact yq hq j h0 (by omega)
theorem IU {f:Nat->Int}{N:Nat}(h:∀j,0<j->j<N->f (j-1)<f j):∀ {i j:Nat},i<j->j<N->f i<f j
 |i,0,hi,_=>by omega
 |i,j+1,hi,hj=>by
  have h1:=h (j+1) (by omega) hj
  rw[Nat.add_sub_cancel] at h1
  rcases Nat.lt_succ_iff_lt_or_eq.1 hi with z|z
  .exact Int.lt_trans (IU h z (by omega)) h1
  subst z;exact h1
theorem bH {n:Int}{E:List (Int×Int)}{V L:List Int}{T S:List (List Int)}(h:bA n E V L T S=0):fW n E V L T=0/\∃s,iU (bL E (az n E V L) (aa n E V L T).1 (aa n E V L T).1.length) S (az n E V L).length S.length=some s/\s.1.2.2.2<=1:=by
 by_cases hf:fW n E V L T=0
 .refine⟨hf,?_⟩
  cases hq:iU (bL E (az n E V L) (aa n E V L T).1 (aa n E V L T).1.length) S (az n E V L).length S.length with
  |none=>rw[gE hf hq] at h;cases h
  |some s=>
   refine⟨s,rfl,?_⟩
   rw[nZ hf hq] at h
   split at h
   .cases h
   omega
 rw[kO hf] at h;exact absurd h hf
theorem A5 {n:Int}{E:List (Int×Int)}{V L:List Int}{T S:List (List Int)}(h:bA n E V L T S=0):lJ (Cv (aa n E V L T).1 S):=by
 obtain⟨hf,s,hs,_⟩:=bH h
 have hw:=bf hf
 have hk:=yo hw
 have h2:=mT hs
 have hr:=yq hs
 obtain⟨sub,b1,b2,b3⟩:=pL (m:=e6 S S.length) (W:=(aa n E V L T).1) (Nat.le_refl _)
 have hlen:∀x∈S,x≠[]:=fun x hx e=>by
  obtain⟨j,hj,e2⟩:=aB (z:=([]:List Int)).1 hx
  have:=h2 j hj
  rw[e2,e] at this
  exact absurd this (by decide)
 unfold Cv
 rw[b2]
 refine⟨fun x hx=>?_,?_⟩
 .rcases List.mem_append.1 hx with q|q
  .exact hlen x q
  obtain⟨y,_,rfl⟩:=List.mem_map.1 q;simp
 rw[List.map_append]
 refine List.nodup_append.2 ⟨?_,?_,fun a ha b hb q=>?_⟩
 .rw[List.nodup_iff_pairwise_ne,List.pairwise_iff_getElem]
  intro i j hi hj Db
  rw[List.length_map] at hi hj
  rw[List.getElem_map,List.getElem_map]
  have:=IU (f:=fun j=>(S.getD j []).getD 0 0) (N:=S.length) hr Db hj
  change (S.getD i []).getD 0 0<(S.getD j []).getD 0 0 at this
  rw[List.getD_eq_getElem?_getD (l:=S),List.getElem?_eq_getElem hi,List.getD_eq_getElem?_getD (l:=S),List.getElem?_eq_getElem hj] at this
  exact Int.ne_of_lt this
 .rw[List.map_map]
  have e:(fun x:List Int=>x.getD 0 0)∘(fun x:Int=>[x])=id:=rfl
  rw[e,List.map_id]
  rw[List.take_length] at b1
  exact hk.sublist b1
 obtain⟨x,hx,rfl⟩:=List.mem_map.1 ha
 obtain⟨y,hy,rfl⟩:=List.mem_map.1 hb
 obtain⟨z,hz,rfl⟩:=List.mem_map.1 hy
 have hn:=b3 z hz
 have q:x.getD 0 0=z:=q
 obtain⟨j,hj,e2⟩:=aB (z:=([]:List Int)).1 hx
 have gp:z∈x:=by
  rw[<-q]
  exact af (by have:=hlen x hx;exact List.length_pos_iff.2 this)
 have:=(qC (Nat.le_refl S.length) z).2 ⟨j,hj,by rw[e2];exact gp⟩
 rw[hn] at this;cases this
theorem O7 {n:Int}{E:List (Int×Int)}{V L:List Int}{T S:List (List Int)}(h:bA n E V L T S≠0):cA n E V L T S=[]:=if_pos h
theorem qD {n:Int}{E:List (Int×Int)}{V L:List Int}{T S:List (List Int)}(h:bA n E V L T S=0):cA n E V L T S=kP (Cv (aa n E V L T).1 S):=if_neg (by rw[h];exact fun q=>q rfl)
end Go.Proofs.YtnfdimfepbbbpaaGreat
namespace Go.Proofs.YtnfdimfepbbbpaaGreat
open Go.RowKit
open Go.Proofs.YtnfdimfepbbbpaaGreat.Deep
theorem EP {r:Option nQ}{L:List Int}:∀ {k:Nat} {m:List (Int×Int)} {x:Int} {acc:List Int},(∀y,(ah m y).isSome=true->aU L y)->aU L x->(∀y∈acc,aU L y)->
  (∀y∈(iR r k m x acc).2,aU L y)/\(∀y,(ah (iR r k m x acc).1 y).isSome=true->aU L y)/\(iR r k m x acc).2.length<=acc.length+k/\(iR r k m x acc).1.length<=m.length
 |0,m,x,acc,hm,hx,ha=>⟨ha,hm,Nat.le_refl _,Nat.le_refl _⟩
 |k+1,m,x,acc,hm,hx,ha=>by
  have RX:∀y∈acc++[x],aU L y:=fun y hy=>(List.mem_append.1 hy).elim (ha y) fun q=>by rw[List.mem_singleton.1 q];exact hx
  have hd:=LW (k:=.int) m x
  have hl:(acc++[x]).length=acc.length+1:=by simp
  unfold iR
  split
  .rename_i q
   obtain⟨h1,h2,h3,h4⟩:=EP (r:=r) (k:=k) (vW hm x) (vW hm x _ q) RX
   exact⟨h1,h2,by omega,Nat.le_trans h4 hd⟩
  exact⟨RX,vW hm x,by show(acc++[x]).length<=_;omega,hd⟩
theorem A6 {r:Option nQ}{L ds:List Int}{out:List (Int×List Int)}(oG:∀d∈ds,aU L d)(ho:∀w∈out,(∀d∈w.2,aU L d)/\w.2.length<=ds.length):∀ {k:Nat},k<=ds.length->
  (∀y,(ah (dJ r ds out k).1 y).isSome=true->aU L y)/\(dJ r ds out k).1.length<=ds.length/\∀w∈(dJ r ds out k).2,(∀d∈w.2,aU L d)/\w.2.length<=ds.length
 |0,_=>⟨fun y hy=>oG y (by have:=(vV (Nat.le_refl _) y).1 hy;rwa[List.take_length] at this),B8 ds _,ho⟩
 |k+1,h=>by
  obtain⟨h1,h2,h3⟩:=A6 (r:=r) oG ho (k:=k) (by omega)
  show(∀y,(ah (jb r (dJ r ds out k) (ds.getD k 0)).1 y).isSome=true->_)/\_
  show _/\(jb r (dJ r ds out k) (ds.getD k 0)).1.length<=_/\∀w∈(jb r (dJ r ds out k) (ds.getD k 0)).2,_
  unfold jb
  split
  .obtain⟨o1,o2,o3,o4⟩:=EP (r:=r) (k:=(dJ r ds out k).1.length) (acc:=[]) h1 (oG _ (af (l:=ds) (i:=k) (d:=0) (by omega))) (fun y hy=>by cases hy)
   refine⟨o2,by show(iR _ _ _ _ _).1.length<=_;omega,fun w hw=>?_⟩
   rcases List.mem_append.1 hw with q|q
   .exact h3 w q
   rw[List.mem_singleton.1 q]
   refine⟨o1,?_⟩
   have o3:(iR r (dJ r ds out k).1.length (dJ r ds out k).1 (ds.getD k 0) []).2.length<=0+(dJ r ds out k).1.length:=o3
   show(iR _ _ _ _ _).2.length<=_
   omega
  exact⟨h1,h2,h3⟩
theorem iF {n:Int}{E:List (Int×Int)}{V L:List Int}{T:List (List Int)}(h:(aa n E V L T).2=0):∀w∈(aa n E V L T).1,(∀d∈w.2,aU L d)/\w.2.length<=2*L.length:=by
 rw[dm] at h
 rw[mJ h]
 have:=(A6 (r:=(bT n E V L T).1) (ds:=dA L L.length) (out:=tK V T V.length) (fun d hd=>(cO d).1 hd) (fun w hw=>by
  have e:=List.eq_nil_of_length_eq_zero (qn (Nat.le_refl _) w hw).1
  rw[e];exact⟨fun d hd=>(by cases hd),Nat.zero_le _⟩) (Nat.le_refl _)).2.2
 intro w hw
 have h2:=this w hw
 refine⟨h2.1,?_⟩
 have h3:=h2.2
 rwa[jX] at h3
theorem Cw {l:List (List Int)}{x:List Int}:x∈kP l↔x∈l:=(List.mergeSort_perm l _).mem_iff
theorem SU (l:List (List Int)):(kP l).length=l.length:=List.length_mergeSort _
theorem O8 {W:List (Int×List Int)}{S:List (List Int)}{x:List Int}(h:x∈Cv W S):x∈S\/∃w∈W,x=[w.1]:=by
 rcases List.mem_append.1 h with q|q
 .exact .inl q
 obtain⟨sub,b1,b2,_⟩:=pL (m:=e6 S S.length) (W:=W) (Nat.le_refl _)
 rw[b2] at q
 obtain⟨y,hy,rfl⟩:=List.mem_map.1 q
 have:=b1.subset hy
 rw[List.take_length] at this
 obtain⟨w,hw,rfl⟩:=List.mem_map.1 this
 exact .inr ⟨w,hw,rfl⟩
theorem IV {n:Int}{E:List (Int×Int)}{V L:List Int}{T S:List (List Int)}(h:bA n E V L T S=0){x:List Int}(hx:x∈cA n E V L T S):x∈S\/∃w∈(aa n E V L T).1,x=[w.1]:=by
 rw[qD h] at hx
 exact O8 (Cw.1 hx)
theorem IW {n:Int}{E:List (Int×Int)}{V L:List Int}{T S:List (List Int)}(h:bA n E V L T S=0):(cA n E V L T S).length<=S.length+(aa n E V L T).1.length:=by
 rw[qD h,SU]
 unfold Cv
 rw[List.length_append]
 have:=wu (m:=e6 S S.length) (W:=(aa n E V L T).1) (aa n E V L T).1.length
 omega
def KX (num m:List (Int×Int))(w:Int×List Int):List (Int×Int):=
 if w.2.length=0 then cB (qJ m w.2 ((ah num w.1).getD 0) w.2.length) w.1 ((ah num w.1).getD 0) else qJ m w.2 ((ah num w.1).getD 0) w.2.length
def Cx (num:List (Int×Int))(W:List (Int×List Int)):Nat->List (Int×Int)
 |0=>[]
 |k+1=>KX num (Cx num W k) (W.getD k (0,[]))
def aQ (n:Int)(E:List (Int×Int))(V L:List Int)(T S:List (List Int)):List (Int×Int):=
 if bA n E V L T S=0 then Cx (e6 (cA n E V L T S) (cA n E V L T S).length) (aa n E V L T).1 (aa n E V L T).1.length else[]
theorem ER {num:List (Int×Int)}{W:List (Int×List Int)}{i:Int}(h:0<=i):Cx num W (i+1).toNat=KX num (Cx num W i.toNat) (W.getD i.toNat (0,[])):=by
 rw[show(i+1).toNat=i.toNat+1 by omega];rfl
theorem Cy {num:List (Int×Int)}{W:List (Int×List Int)}{N:Nat}(hN:∀k,(W.getD k (0,[])).2.length<=N):∀k,(Cx num W k).length<=k*(N+1)
 |0=>by simp[Cx]
 |k+1=>by
  have h:=Cy (num:=num) hN k
  have h2:=hN k
  have h1:=jo (m:=Cx num W k) (vs:=(W.getD k (0,[])).2) (c:=(ah num (W.getD k (0,[])).1).getD 0) (W.getD k (0,[])).2.length
  show(KX _ _ _).length<=_
  rw[Nat.succ_mul]
  unfold KX
  split
  .have:=dh (qJ (Cx num W k) (W.getD k (0,[])).2 ((ah num (W.getD k (0,[])).1).getD 0) (W.getD k (0,[])).2.length) (W.getD k (0,[])).1 ((ah num (W.getD k (0,[])).1).getD 0)
   omega
  omega
theorem tw {n:Int}{E:List (Int×Int)}{V L:List Int}{T S:List (List Int)}(h:bA n E V L T S=0):aQ n E V L T S=Cx (e6 (cA n E V L T S) (cA n E V L T S).length) (aa n E V L T).1 (aa n E V L T).1.length:=if_pos h
theorem uA {n:Int}{E:List (Int×Int)}{V L:List Int}{T S:List (List Int)}(h:¬bA n E V L T S=0):aQ n E V L T S=[]:=if_neg h
theorem Z0 {num m:List (Int×Int)}{w:Int×List Int}(h:w.2.length=0):KX num m w=cB (qJ m w.2 ((ah num w.1).getD 0) w.2.length) w.1 ((ah num w.1).getD 0):=if_pos h
theorem Z1 {num m:List (Int×Int)}{w:Int×List Int}(h:¬w.2.length=0):KX num m w=qJ m w.2 ((ah num w.1).getD 0) w.2.length:=if_neg h
theorem SV {α:Type}{R:List (List α)}{N:Nat}(h:∀l∈R,l.length<=N)(k:Nat):(R.getD k []).length<=N:=by
 rw[List.getD_eq_getElem?_getD]
 cases hq:R[k]? with
 |none=>exact Nat.zero_le _
 |some z=>exact h _ (List.mem_of_getElem? hq)
theorem pM {W:List (Int×List Int)}{N:Nat}(h:∀w∈W,w.2.length<=N)(k:Nat):(W.getD k (0,[])).2.length<=N:=by
 rw[List.getD_eq_getElem?_getD]
 cases hq:W[k]? with
 |none=>exact Nat.zero_le _
 |some z=>exact h _ (List.mem_of_getElem? hq)
end Go.Proofs.YtnfdimfepbbbpaaGreat
