/-
  Texts joined by program: VG, VH, VI, VIA, VI1, VI2, VJ1, VJ, VJ2, VJ3, VJ4.
-/
import Derived.Test.YtnfdimfepbbbpaaGreatJAuditAgrees1
import Derived.Deep.AppendSrc
import Derived.Laws.MakeOwn
import Derived.Laws.Slices
set_option linter.unusedSimpArgs false
set_option linter.unusedVariables false
set_option maxRecDepth 100000
set_option maxHeartbeats 8000000
namespace Go.Proofs.YtnfdimfepbbbpaaGreat
open Go.RowKit
def kH:R2->Bool
 | .ar _ _=>true
 | .wG _ _ _=>true
 | .ext (.par _ _)=>true
 | .ext (.zN _ _)=>true
 |_=>false
theorem gJ {o:bC}{A:bF}{j:Nat}:∀ {x:R2},kH x=false->tj o A j x
 | .ar _ _,h=>by cases h
 | .wG _ _ _,h=>by cases h
 | .ext (.par _ _),h=>by cases h
 | .ext (.zN _ _),h=>by cases h
 | .ro _ _,_=>trivial
 | .row _ _ _,_=>trivial
 | .box _ _,_=>trivial
 | .mL _ _ _,_=>trivial
 | .map _ _ _,_=>trivial
 | .iter _ _ _ _ _ _,_=>trivial
 | .ext (.nest _ _ _ _ _ _),_=>trivial
 | .ext (.ff _ _ _ _ _ _),_=>trivial
 | .ext (.vC _ _),_=>trivial
 | .ext (.DR _ _),_=>trivial
 | .ext (.DS _ _ _ _ _),_=>trivial
 | .ext (.DT _),_=>trivial
 | .ext (.vw _ _ _ _ _),_=>trivial
 | .ext (.fwd _),_=>trivial
def jg (r:Nat->Option R2)(j:Nat)(x:Option R2):Nat->Option R2:=fun k=>match Nat.beq j k with
 |true=>x
 |false=>r k
def aQ (r:Nat->Option R2):List (Nat×Option R2)->Nat->Option R2
 |[]=>r
 |p::l=>jg (aQ r l) p.1 p.2
def l9 (s:Nat->Option E2)(d:Nat)(x:Option E2):Nat->Option E2:=fun k=>match Nat.beq d k with
 |true=>x
 |false=>s k
theorem b6 {a b:Nat}(h:Nat.beq a b=true):a=b:=Nat.eq_of_beq_eq_true h
theorem MJ {a b:Nat}(h:Nat.beq a b=false):a≠b:=Nat.ne_of_beq_eq_false h
theorem cB (r:Nat->Option R2)(j:Nat)(x:Option R2):jg r j x j=x:=by unfold jg;rw[Nat.beq_refl]
theorem cS {r:Nat->Option R2}{j k:Nat}{x:Option R2}(h:j≠k):jg r j x k=r k:=by
 unfold jg;split
 .rename_i e;exact(h (b6 e)).elim
 rfl
theorem e8 (s:Nat->Option E2)(j:Nat)(x:Option E2):l9 s j x j=x:=by unfold l9;rw[Nat.beq_refl]
theorem mC {s:Nat->Option E2}{j k:Nat}{x:Option E2}(h:j≠k):l9 s j x k=s k:=by
 unfold l9;split
 .rename_i e;exact(h (b6 e)).elim
 rfl
theorem DZ (A:bF)(r:Nat->Option R2)(j:Nat)(x:Option R2):bw A (jg r j x)=eX (bw A r) j (x.map (R2.den A j)):=by
 funext k
 unfold bw eX
 by_cases e:k=j
 .subst e;rw[cB,if_pos rfl]
 rw[cS (fun q=>e q.symm),if_neg e]
section
variable {P:Program}{o:bC}{n:Nat}{A A':bF}{S:aL}{F G:Nat->Prop}{s:Nat->Option E2}{r:Nat->Option R2}{a:Act}{w w':World}{C:List (Nat×Bool)}{b:Nat}
theorem Gn (hA:cR F A A')(hr:∀j x,r j=some x->F j/\x.all F):bw A r=bw A' r:=by
 funext j
 unfold bw
 cases h:r j with
 |none=>rfl
 |some x=>simp only[Option.map_some];rw[R2.congr hA (hr j x h).1 (hr j x h).2]
theorem cv.agree (H:cv o n A S F s r a w)(hA:cR F A A')(hG:∀j,F j->G j):cv o n A' S G s r a w where
 size:=H.size
 fh:=H.fh
 env t e he:=⟨fun hc=>by rw[show(⟨t,e.ch,e.sy.den A'⟩:LH).val=e.sy.den A from(Sy.congr hA (H.l8 t e he hc).1).symm];exact(H.env t e he).1 hc,(H.env t e he).2⟩
 l8 t e he hc:=⟨Sy.mono hG (H.l8 t e he hc).1,Sy.dH hA (H.l8 t e he hc).1 (H.l8 t e he hc).2⟩
 dB j x hj:=⟨hG j (H.dB j x hj).1,R2.mono hG (H.dB j x hj).2.1,R2.dH hA (H.dB j x hj).2.1 (H.dB j x hj).2.2⟩
 bB:=by rw[<-Gn hA fun j x hj=>⟨(H.dB j x hj).1,(H.dB j x hj).2.1⟩];exact H.bB
 args j x hj:=(H.args j x hj).congr hA (H.dB j x hj).1
 s8:=⟨fun j h=>hG j (H.s8.1 j h),H.s8.2.trans (hA.mono H.s8.1)⟩
theorem cv.mV (H:cv o n A S F s r a w)(j:Nat)(x:Option R2)(hj:∀y,x=some y->F j/\y.all F/\y.b7 A)(hx:∀y,x=some y->tj o A j y){S':aL}(hf:gp o w' S' (eX (bw A r) j (x.map (R2.den A j)))):cv o n A S' F s (jg r j x) a w' where
 size:=H.size
 fh:=H.fh
 env:=H.env
 l8:=H.l8
 dB k y hk:=by
  by_cases e:j=k
  .subst e;rw[cB] at hk;exact hj y hk
  rw[cS e] at hk;exact H.dB k y hk
 bB:=by rw[DZ];exact hf
 args k y hk:=by
  by_cases e:j=k
  .subst e;rw[cB] at hk;exact hx _ hk
  rw[cS e] at hk;exact H.args k y hk
 s8:=H.s8
theorem cv.ro (H:cv o n A S F s r a w){re:List (Nat×Option R2)}(hA:cR F A A')(Kn:jS o S w A' b re):cv o n A' S (FU F re) s (aQ r re) a w:=by
 have H1:cv o n A' S (FU F re) s r a w:=H.agree hA fun j h=>.inl h
 have key:∀(l:List (Nat×Option R2)) (b:Nat),jS o S w A' b l->(∀p∈l,p∈re)->cv o n A' S (FU F re) s (aQ r l) a w:=by
  intro l
  induction l with
  |nil=>intro b _ _;exact H1
  |cons p l ih=>
   intro b hr hs
   obtain⟨h1,⟨x,hx,gF⟩,h3⟩:=hr
   have H2:=ih _ h3 fun q hq=>hs q (List.mem_cons_of_mem _ hq)
   show cv o n A' S (FU F re) s (jg (aQ r l) p.1 p.2) a w
   refine H2.mV p.1 p.2 (fun y hy=>⟨.inr ⟨p.2,hs p (by simp)⟩,?_⟩) (fun y hy=>?_) ?_
   .rw[hx] at hy;cases hy
    cases x<;>first|exact⟨tv,tv⟩|exact gF.elim|skip
    rename_i z
    cases z<;>first|exact⟨tv,tv⟩|exact gF.elim
   .rw[hx] at hy;cases hy
    cases x<;>first|exact gF|exact gF.elim|trivial|skip
    rename_i z
    cases z<;>first|exact gF|exact gF.elim|trivial
   rw[hx]
   cases x with
   |ro t l=>exact H2.bB.Mr p.1 gF
   |ar t l=>exact H2.bB.xP p.1 (r:=kS) tv fun _ q=>q
   |mL k t l=>exact H2.bB.Mr p.1 gF
   |wG k t l=>exact H2.bB.xP p.1 (r:=kS) tv fun _ q=>q
   |row _ _ _=>exact gF.elim
   |box _ _=>exact gF.elim
   |map _ _ _=>exact gF.elim
   |iter _ _ _ _ _ _=>exact gF.elim
   |ext z=>
    cases z with
    |vC t x=>exact H2.bB.Mr p.1 gF
    |par t x=>exact H2.bB.xP p.1 (r:=kS) tv fun _ q=>q
    |DR t x=>exact H2.bB.xP p.1 (r:=Ua (A'.b p.1) x) gF fun _ q=>q
    |zN t x=>exact H2.bB.xP p.1 (r:=kS) tv fun _ q=>q
    |nest _ _ _ _ _ _=>exact gF.elim
    |ff _ _ _ _ _ _=>exact gF.elim
    |DS _ _ _ _ _=>exact gF.elim
    |DT _=>exact gF.elim
    |vw _ _ _ _ _=>exact gF.elim
    |fwd _=>exact gF.elim
 exact key re b Kn fun _ h=>h
theorem cv.put (H:cv o n A S F s r a w){d:Nat}{y:Sy}{u:Value}(hd:d<n)(kz:∀t e,s t=some e->∀l∈e.ch,l.1≠d)(Vo:∀l∈C,l.1≠d)(hy:jy a C->y.all F/\y.b7 A)(hu:(jy a C->u=y.den A)/\(¬jy a C->u=undef)):cv o n A S F (l9 s d (some ⟨C,y⟩)) r (a.put (some d) u) w where
 size:=by simp[Act.put,H.size]
 fh:=H.fh
 env t e he:=by
  by_cases q:d=t
  .subst q
   rw[e8] at he
   cases he
   have hs:(a.put (some d) u).tmps[d]?=some u:=by
    simp only[Act.put,Array.getElem?_setIfInBounds,if_true]
    rw[if_pos (by rw[H.size];exact hd)]
   have hC:C.all (fun l=>l.1 !=d)=true:=List.all_eq_true.2 fun l hl=>by simpa using Vo l hl
   refine⟨fun hc=>?_,fun hc=>?_⟩
   .show(a.put (some d) u).tmps[d]?=some (y.den A)
    rw[hs,hu.1 ((mY hC).1 hc)]
   show(a.put (some d) u).tmps[d]?=some undef
   rw[hs,hu.2 (fun k=>hc ((mY hC).2 k))]
  rw[mC q] at he
  refine J6 ?_ (H.env t e he)
  rw[Bool.and_eq_true,List.all_eq_true]
  exact⟨by simpa using fun k=>q k.symm,fun l hl=>by simpa using kz t e he l hl⟩
 l8 t e he hc:=by
  by_cases q:d=t
  .subst q;rw[e8] at he;cases he
   exact hy ((mY (List.all_eq_true.2 fun l hl=>by simpa using Vo l hl)).1 hc)
  rw[mC q] at he
  exact H.l8 t e he ((mY (List.all_eq_true.2 fun l hl=>by simpa using kz t e he l hl)).1 hc)
 dB:=H.dB
 bB:=H.bB
 args:=H.args
 s8:=H.s8
theorem gp.freeze {f:Nat->Option Rs}(h:gp o w S f)(j:Nat){x y:Rs}(hj:f j=some x)(hn:∀b,¬y.has b)(fq:y.ok (fun k=>S k\/x.has k) w):∃S',(∀k,S k->S' k)/\gp o w S' (eX f j (some y)):=by
 refine⟨fun k=>S k\/x.has k,fun k=>.inl,h.swap (N:=fun i=>i=j) (K:=fun i=>i=j) (jZ.refl _ _) (fun _=>.inl) (fun k hk=>?_) (fun i ri hi hr=>?_) (fun i ri hi hr=>?_) (fun i ri b hi hr hb=>?_) (fun i k ri rk b hi hk hr _ hb _=>by rw[hi,hk])⟩
 .rcases hk with hk|hk
  .exact .inl hk
  refine .inr ⟨.inl ⟨j,x,rfl,hj,hk⟩,(h.own j x k hj hk).2.1,fun i ri hi hr hb=>?_⟩
  subst hi
  unfold eX at hr;rw[if_pos rfl] at hr;cases hr;exact hn k hb
 .unfold eX at hr;rw[if_neg hi] at hr;exact⟨hi,hr⟩
 .subst hi;unfold eX at hr;rw[if_pos rfl] at hr;cases hr;exact fq
 subst hi;unfold eX at hr;rw[if_pos rfl] at hr;cases hr;exact(hn b hb).elim
theorem AH {T:aL}:∀ {cs:List l6} {vs:List Value},vs.length=cs.length->(∀(d:Nat) x v,cs[d]?=some x->vs[d]?=some v->kR T w v x)->bV T w vs cs
 |[],[],_,_=>trivial
 |[],_::_,h,_=>by cases h
 |_::_,[],h,_=>by cases h
 |c::cs,v::vs,h,k=>⟨k 0 c v rfl rfl,AH (by simpa using h) fun d x u h1 h2=>k (d+1) x u (by simpa using h1) (by simpa using h2)⟩
theorem rR.cel {ie:TypeId}{v:Value}{c:l6}(h:rR S w ie v c):kR (fun k=>S k\/v.ownBlock=some k) w v c:=by
 cases c with
 |l t l=>exact dg.rd h
 |_=>exact h.1.up fun _=>.inl
theorem iO.rd {v:Value}{f:Lit->Value}{e:TypeId}{t:Ty}{ie:TypeId}{l:List (El t)}(h:iO S w v f none e t ie l):Rd (fun k=>S k\/(Gg v f none e t ie l).has k) w v l:=by
 obtain⟨xs,h1,_,h2⟩:=h.row
 refine dg.rd (S:=fun k=>S k\/(Gg v f none e t ie l).has k) (e:=e) ⟨xs,by rw[<-b5];exact h1,by rw[h1.1,b5],fun i hi=>?_⟩|>.up fun k hk=>?_
 .have hlen:((xs.drop (i*Data.size (El t))).take (Data.size (El t))).length=(bl t l[i]).length:=by
   have:=Nat.mul_le_mul_right (aF t) (show i+1<=l.length from hi)
   rw[Nat.succ_mul,<-h1.1] at this
   rw[dw,List.length_take,List.length_drop,<-b5];omega
  refine wE t (AH hlen fun d x u hx hu=>?_)
  have hd:d<aF t:=by have:=(List.getElem?_eq_some_iff.1 hx).1;rwa[dw] at this
  rw[<-b5,List.getElem?_take,if_pos hd,List.getElem?_drop] at hu
  have Iq:(gA t l)[i*aF t+d]?=some x:=by
   rw[tq hi hd,List.getD_eq_getElem?_getD,List.getElem?_eq_getElem hi];exact hx
  obtain⟨k1,k2⟩:=h2 _ x Iq (by simp)
  rw[hu] at k1
  cases k1
  refine k2.cel.up fun k hk=>?_
  rcases hk with hk|hk
  .exact .inl hk
  refine .inr (.inr ⟨_,?_,by simp,hk⟩)
  have:=(List.getElem?_eq_some_iff.1 Iq).1
  rwa[dV] at this
 rcases hk with hk|hk
 .exact hk
 exact .inr (.inl hk)
theorem su.at {k:Kc}{α:Type}[Data α]{b:Nat}{f:Lit->Value}{ie:TypeId}{m:bh k (List α)}(h:su S w b f none ie m):mz (fun c=>S c\/(Mo (some b) f none ie m).has c) w b m:=by
 obtain⟨zs,h1,h2,h3⟩:=h.map
 refine⟨zs,h1,h2,fun z hz=>?_⟩
 obtain⟨k1,k2⟩:=h3 z hz (by simp)
 refine k2.rd.up fun c hc=>?_
 rcases hc with hc|hc
 .exact .inl hc
 exact .inr (.inr ⟨z.1,by simp,by rw[<-k1];exact hc⟩)
def rW:R2->Option R2
 | .row _ t l=>some (.ro t l)
 | .map k t m=>some (.mL k t m)
 | .ext (.nest _ none _ t _ l)=>some (.ro t l)
 | .ext (.ff _ k none t _ m)=>some (.mL k (.list t) m)
 | .ext (.vw _ lo _ t l)=>some (.ro t (l.drop lo))
 |_=>none
def numOf:Sc->Option Nat
 | .own j=>some j
 | .mp j=>some j
 | .pd j=>some j
 | .ptr j _=>some j
 |_=>none
theorem MK {x z:R2}(h:rW x=some z):kH x=false:=by
 cases x<;>first|rfl|(cases h;done)|skip
 rename_i y
 cases y<;>first|rfl|(cases h;done)
theorem Ch {x z:R2}(h:rW x=some z):(∃t l,z= .ro t l)\/∃k t m,z= .mL k t m:=by
 cases x with
 |row e t l=>cases h;exact .inl ⟨_,_,rfl⟩
 |map k t m=>cases h;exact .inr ⟨_,_,_,rfl⟩
 |ext y=>
  cases y with
  |nest q hh e t ie l=>
   cases hh with
   |none=>cases h;exact .inl ⟨_,_,rfl⟩
   |some _=>cases h
  |ff q k hh t ie m=>
   cases hh with
   |none=>cases h;exact .inr ⟨_,_,_,rfl⟩
   |some _=>cases h
  |vw _ _ _ _ _=>cases h;exact .inl ⟨_,_,rfl⟩
  |_=>cases h
 |_=>cases h
theorem Gp {x z:R2}{A:bF}{S:aL}{w:World}{j:Nat}(h:rW x=some z)(hx:(x.den A j).ok S w):(∀b,¬(z.den A j).has b)/\(z.den A j).ok (fun k=>S k\/(x.den A j).has k) w:=by
 cases x with
 |row e t l=>cases h;exact⟨fun b q=>(by cases q),dg.rd hx⟩
 |map k t m=>
  cases h
  obtain⟨b,hb,hm⟩:=hx
  exact⟨fun b q=>(by cases q),Cb ⟨some b,by rw[<-hb],.inr hb,hm.up fun _=>.inl⟩⟩
 |ext y=>
  cases y with
  |nest q hh e t ie l=>
   cases hh with
   |none=>cases h;exact⟨fun b q=>(by cases q),iO.rd hx⟩
   |some _=>cases h
  |ff q k hh t ie m=>
   cases hh with
   |none=>
    cases h
    obtain⟨b,hb,hm⟩:=hx
    refine⟨fun b q=>(by cases q),Cb ⟨some b,by rw[<-hb],.inr (.inl hb),?_⟩⟩
    have:=hm.at
    rw[<-hb] at this
    exact this
   |some _=>cases h
  |vw q lo e t l=>cases h;exact⟨fun b q=>(by cases q),(th hx.1 hx.2).1⟩
  |_=>cases h
 |_=>cases h
def ML:List Sc->(List (Nat×Option R2)->Tr Out)->Tr Out
 |[],k=>k []
 |c::l,k=>match numOf c with
  |some j=>.res j fun x=>match rW x with
   |some z=>ML l fun re=>k ((j,some z)::re)
   |none=>match kH x with
    |true=>.fail
    |false=>ML l k
  |none=>ML l k
def Xx (r:Nat->Option R2)(re:List (Nat×Option R2)):Prop:=∀p∈re,∃y z,r p.1=some y/\rW y=some z/\p.2=some z
def Yq (r:Nat->Option R2)(re:List (Nat×Option R2))(l:List Sc):Prop:=∀c∈l,∀j,numOf c=some j->∀y,r j=some y->kH y=false/\∀z,rW y=some z->(j,some z)∈re
theorem mD:∀(l:List Sc) (k:List (Nat×Option R2)->Tr Out) {out:Out},(ML l k).run s r=some out->∃re,Xx r re/\Yq r re l/\(k re).run s r=some out
 |[],k,out,h=>⟨[],fun _ q=>(by cases q),fun _ q=>(by cases q),h⟩
 |c::l,k,out,h=>by
  simp only[ML] at h
  split at h
  .rename_i j hc
   simp only[Tr.run] at h
   split at h
   .rename_i x hx
    split at h
    .rename_i z hz
     obtain⟨re,h1,h3,h2⟩:=mD l _ h
     refine⟨_,fun p hp=>?_,fun c' uC i hi y hy=>?_,h2⟩
     .rcases List.mem_cons.1 hp with rfl|hp
      .exact⟨x,z,hx,hz,rfl⟩
      exact h1 p hp
     rcases List.mem_cons.1 uC with rfl|uC
     .rw[hc] at hi;cases hi
      rw[hx] at hy;cases hy
      refine⟨MK hz,fun z' pE=>?_⟩
      rw[hz] at pE;cases pE;exact List.mem_cons_self
     exact⟨(h3 c' uC i hi y hy).1,fun z' pE=>List.mem_cons_of_mem _ ((h3 c' uC i hi y hy).2 z' pE)⟩
    rename_i hz
    split at h
    .cases h
    rename_i ha
    obtain⟨re,h1,h3,h2⟩:=mD l _ h
    refine⟨re,h1,fun c' uC i hi y hy=>?_,h2⟩
    rcases List.mem_cons.1 uC with rfl|uC
    .rw[hc] at hi;cases hi
     rw[hx] at hy;cases hy
     exact⟨ha,fun z' pE=>by rw[hz] at pE;cases pE⟩
    exact h3 c' uC i hi y hy
   cases h
  rename_i hc
  obtain⟨re,h1,h3,h2⟩:=mD l _ h
  refine⟨re,h1,fun c' uC i hi y hy=>?_,h2⟩
  rcases List.mem_cons.1 uC with rfl|uC
  .rw[hc] at hi;cases hi
  exact h3 c' uC i hi y hy
theorem MM:∀ {re:List (Nat×Option R2)},Xx r re->∀ {j:Nat} {y:R2},r j=some y->aQ r re j=some y\/∃z,rW y=some z/\aQ r re j=some z
 |[],_,j,y,h=>.inl h
 |p::re,hf,j,y,h=>by
  by_cases e:p.1=j
  .have e2:aQ r (p::re) j=p.2:=by rw[<-e];exact cB _ _ _
   obtain⟨y',z,h1,h2,h3⟩:=hf p (by simp)
   rw[e,h] at h1;cases h1
   exact .inr ⟨z,h2,by rw[e2,h3]⟩
  have e2:aQ r (p::re) j=aQ r re j:=cS e
  rw[e2];exact MM (fun q hq=>hf q (List.mem_cons_of_mem _ hq)) h
theorem Rk {re:List (Nat×Option R2)}(h:Xx r re){j:Nat}{z:R2}(hm:(j,some z)∈re):aQ r re j=some z:=by
 induction re with
 |nil=>cases hm
 |cons p re ih=>
  by_cases q:p.1=j
  .have e:aQ r (p::re) j=p.2:=by rw[<-q];exact cB _ _ _
   rw[e]
   obtain⟨y1,z1,h1,h2,h3⟩:=h p (by simp)
   obtain⟨y2,z2,h4,h5,h6⟩:=h _ hm
   have h4:r j=some y2:=h4
   rw[q,h4] at h1
   cases h1
   rw[h2] at h5;cases h5
   cases h6
   exact h3
  have e:aQ r (p::re) j=aQ r re j:=cS q
  rw[e]
  refine ih (fun z hz=>h z (List.mem_cons_of_mem _ hz)) ?_
  rcases List.mem_cons.1 hm with k|k
  .rw[<-k] at q;exact(q rfl).elim
  exact k
theorem cv.freeze (H:cv o n A S F s r a w):∀ {re:List (Nat×Option R2)},Xx r re->∃S',(∀k,S k->S' k)/\cv o n A S' F s (aQ r re) a w
 |[],_=>⟨S,fun _ h=>h,H⟩
 |p::re,h=>by
  obtain⟨S1,h1,H1⟩:=cv.freeze H (re:=re) fun q hq=>h q (List.mem_cons_of_mem _ hq)
  obtain⟨y,z,hr,hz,hp⟩:=h p (by simp)
  have fin:∀x,aQ r re p.1=some x->(∃S',(∀k,S1 k->S' k)/\gp o w S' (eX (bw A (aQ r re)) p.1 (some (z.den A p.1))))->∃S',(∀k,S k->S' k)/\cv o n A S' F s (aQ r (p::re)) a w:=fun x hx ⟨S2,k2,hf⟩=>by
   refine⟨S2,fun k q=>k2 k (h1 k q),H1.mV p.1 p.2 (fun y hy=>?_) (fun y hy=>?_) (by rw[hp];exact hf)⟩
   .rw[hp] at hy;cases hy
    rcases Ch hz with⟨_,_,rfl⟩|⟨_,_,_,rfl⟩<;>exact⟨(H1.dB p.1 x hx).1,tv,tv⟩
   rw[hp] at hy;cases hy
   rcases Ch hz with⟨_,_,rfl⟩|⟨_,_,_,rfl⟩<;>trivial
  rcases MM (fun q hq=>h q (List.mem_cons_of_mem _ hq)) hr with hx|⟨z',pE,hx⟩
  .have hm:bw A (aQ r re) p.1=some (y.den A p.1):=by simp[bw,hx]
   obtain⟨k1,k2⟩:=Gp hz (H1.bB.ok p.1 _ hm)
   exact fin _ hx (H1.bB.freeze p.1 hm k1 k2)
  rw[hz] at pE;cases pE
  have hm:bw A (aQ r re) p.1=some (z.den A p.1):=by simp[bw,hx]
  refine fin _ hx ⟨S1,fun _ q=>q,H1.bB.xP p.1 (H1.bB.ok p.1 _ hm) fun b q=>?_⟩
  rcases Ch hz with⟨_,_,rfl⟩|⟨_,_,_,rfl⟩<;>cases q
end
section
variable {P:Program}{o:bC}{n:Nat}{A A':bF}{S T:aL}{F G:Nat->Prop}{s:Nat->Option E2}{r:Nat->Option R2}{a:Act}{w w':World}{C:List (Nat×Bool)}{b:Nat}
structure Ci (T:aL)(w:World)(A:bF)(j:Nat)(x:R2):Prop where
 l:∀t l,Ud x=some ⟨t,l⟩->Rd T w (A.v j) (l:List (El t))
 m:∀k t m,Gi x=some ⟨k,t,m⟩->Rd T w (.map (A.m j)) (m:bh k (El t))
 p:∀t y,DW x=some ⟨t,y⟩->Rd T w (.pointer (A.p j)) (y:l5 (El t))
 s:∀t y,Mv x=some ⟨t,y⟩->gG T w (A.b j) (y:El t)
def Reads (T:aL)(w:World)(A:bF)(r:Nat->Option R2):Prop:=∀j x,r j=some x->Ci T w A j x
def kT (T:aL)(w:World)(A:bF)(r:Nat->Option R2)(cs:List Sc):Prop:=∀c∈cs,∀j,numOf c=some j->∀x,r j=some x->Ci T w A j x
theorem kU {α:Type 1}:∀(t:Ty) (l:List Sc) (k:El t->List Sc->Tr α) {out:α},kT T w A r l->(Gj t l k).run s r=some out->∃(x:El t) (u rest:List Sc),l=u++rest/\Data.rd T w (u.map (Sc.den A)) x/\(k x rest).run s r=some out
 | .int,l,k,out,hR,h=>by
  have h:(Vj l k).run s r=some out:=h
  unfold Vj at h
  split at h
  .exact⟨_,[_],_,rfl,rfl,h⟩
  cases h
 | .bool,l,k,out,hR,h=>by
  have h:(My l k).run s r=some out:=h
  unfold My at h
  split at h
  .exact⟨_,[_],_,rfl,rfl,h⟩
  cases h
 | .str,l,k,out,hR,h=>by
  have h:(Vk l k).run s r=some out:=h
  unfold Vk at h
  split at h
  .exact⟨_,[_],_,rfl,rfl,h⟩
  cases h
 | .list t,l,k,out,hR,h=>by
  have h:(Mz t l k).run s r=some out:=h
  unfold Mz at h
  split at h
  .obtain⟨x,hx,h⟩:=aY h
   split at h
   .rename_i t' y hy
    split at h
    .rename_i z hz
     obtain⟨e,rfl⟩:=eE hz
     cases e
     exact⟨y,[_],_,rfl,⟨_,rfl,cq ((hR _ List.mem_cons_self _ rfl x hx).l t y hy)⟩,h⟩
    cases h
   cases h
  .exact⟨[],[_],_,rfl,⟨_,rfl,cq F9⟩,h⟩
  cases h
 | .map q t,l,k,out,hR,h=>by
  have h:(Vl q t l k).run s r=some out:=h
  unfold Vl at h
  split at h
  .obtain⟨x,hx,h⟩:=aY h
   split at h
   .rename_i k' t' y hy
    split at h
    .rename_i z hz
     obtain⟨e,rfl⟩:=eE hz
     cases e
     exact⟨y,[_],_,rfl,⟨_,rfl,sq ((hR _ List.mem_cons_self _ rfl x hx).m q t y hy)⟩,h⟩
    cases h
   cases h
  .exact⟨([]:List (bL q×El t)),[_],_,rfl,⟨_,rfl,none,rfl,rfl⟩,h⟩
  cases h
 | .ptr t,l,k,out,hR,h=>by
  have h:(Vm t l k).run s r=some out:=h
  unfold Vm at h
  split at h
  .obtain⟨x,hx,h⟩:=aY h
   split at h
   .rename_i t' y hy
    split at h
    .rename_i z hz
     obtain⟨e,rfl⟩:=eE hz
     cases e
     exact⟨y,[_],_,rfl,⟨_,rfl,od ((hR _ List.mem_cons_self _ rfl x hx).p t y hy)⟩,h⟩
    cases h
   cases h
  .split at h
   .obtain⟨x,hx,h⟩:=aY h
    split at h
    .rename_i t' y hy
     split at h
     .rename_i z hz
      obtain⟨e,rfl⟩:=eE hz
      cases e
      obtain⟨cur,t0,fz,cs,p1,p2,p3,p4⟩:=(hR _ List.mem_cons_self _ rfl x hx).s t y hy
      exact⟨(some y:Option (El t)),[_],_,rfl,⟨_,rfl,_,cur,t0,fz,cs,rfl,p1,p2,p3,p4⟩,h⟩
     cases h
    cases h
   cases h
  .exact⟨(none:Option (El t)),[_],_,rfl,⟨_,rfl,rfl⟩,h⟩
  cases h
 | .pair p q,l,k,out,hR,h=>by
  simp only[Gj] at h
  obtain⟨x,u,rest,rfl,h1,h⟩:=kU p l _ hR h
  obtain⟨y,u2,Yr,rfl,h2,h⟩:=kU q _ _ (fun c hc=>hR c (List.mem_append_right _ hc)) h
  exact⟨(x,y),u++u2,Yr,by rw[List.append_assoc],⟨_,_,by rw[List.map_append],h1,h2⟩,h⟩
def aH:Sy->List Sc
 | .one c=>[c]
 | .agg cs=>cs
 | .mU _=>[]
theorem iP {α:Type 1}{t:Ty}{y:Sy}{k:El t->Tr α}{out:α}(hR:kT T w A r (aH y))(h:(jC t y k).run s r=some out):∃x:El t,Rd T w (y.den A) x/\(k x).run s r=some out:=by
 unfold jC at h
 split at h
 .rename_i c hp
  obtain⟨x,u,rest,hu,h1,h⟩:=kU t _ _ hR h
  split at h
  .rw[List.append_nil] at hu
   subst hu
   refine⟨x,⟨_,h1,?_⟩,h⟩
   rw[xM,hp];rfl
  cases h
 .rename_i cs hp
  obtain⟨x,u,rest,hu,h1,h⟩:=kU t _ _ hR h
  split at h
  .rw[List.append_nil] at hu
   subst hu
   refine⟨x,⟨_,h1,?_⟩,h⟩
   rw[xM,hp];rfl
  cases h
 cases h
theorem gG.keep {α:Type}[Data α]{T:aL}{w w':World}{b:Nat}{y:α}(h:gG T w b y)(hk:cK T w w'):gG T w' b y:=let⟨cur,t,fz,cs,h1,h2,h3,h4⟩:=h;⟨cur,t,fz,cs,h1,(hk b h1).trans h2,Data.keep hk h3,h4⟩
theorem gG.up {α:Type}[Data α]{T T':aL}{w:World}{b:Nat}{y:α}(h:gG T w b y)(hs:∀k,T k->T' k):gG T' w b y:=let⟨cur,t,fz,cs,h1,h2,h3,h4⟩:=h;⟨cur,t,fz,cs,hs b h1,h2,Data.up hs h3,h4⟩
theorem pW (H:cv o n A S F s r a w){j:Nat}{x:R2}(hj:r j=some x)(ha:kH x=false):Ci (fun k=>S k\/(x.den A j).has k) w A j x:=by
 have fq:(x.den A j).ok S w:=H.bB.ok j _ (show bw A r j=some _ by simp[bw,hj])
 cases x with
 |ro t' l'=>exact⟨(fun t l q=>by cases q;exact Rd.up (fun _=>.inl) fq),(fun _ _ _ q=>by cases q),(fun _ _ q=>by cases q),(fun _ _ q=>by cases q)⟩
 |ar _ _=>cases ha
 |row e t' l'=>exact⟨(fun t l q=>by cases q;exact dg.rd fq),(fun _ _ _ q=>by cases q),(fun _ _ q=>by cases q),(fun _ _ q=>by cases q)⟩
 |box _ _=>exact⟨(fun _ _ q=>by cases q),(fun _ _ _ q=>by cases q),(fun _ _ q=>by cases q),(fun _ _ q=>by cases q)⟩
 |mL k' t' l'=>exact⟨(fun _ _ q=>by cases q),(fun k t m q=>by cases q;exact Rd.up (fun _=>.inl) fq),(fun _ _ q=>by cases q),(fun _ _ q=>by cases q)⟩
 |wG _ _ _=>cases ha
 |map k' t' l'=>
  refine⟨(fun _ _ q=>by cases q),(fun k t m q=>?_),(fun _ _ q=>by cases q),(fun _ _ q=>by cases q)⟩
  cases q
  exact(Gp (x:=.map k' t' l') rfl fq).2
 |iter _ _ _ _ _ _=>exact⟨(fun _ _ q=>by cases q),(fun _ _ _ q=>by cases q),(fun _ _ q=>by cases q),(fun _ _ q=>by cases q)⟩
 |ext y=>
  cases y with
  |nest q hh e t' ie l'=>
   cases hh with
   |none=>exact⟨(fun t l q=>by cases q;exact iO.rd fq),(fun _ _ _ q=>by cases q),(fun _ _ q=>by cases q),(fun _ _ q=>by cases q)⟩
   |some _=>exact⟨(fun _ _ q=>by cases q),(fun _ _ _ q=>by cases q),(fun _ _ q=>by cases q),(fun _ _ q=>by cases q)⟩
  |ff q k' hh t' ie m'=>
   cases hh with
   |none=>
    refine⟨(fun _ _ q=>by cases q),(fun k t m q=>?_),(fun _ _ q=>by cases q),(fun _ _ q=>by cases q)⟩
    cases q
    exact(Gp (x:=.ext (.ff _ k' none t' ie m')) rfl fq).2
   |some _=>exact⟨(fun _ _ q=>by cases q),(fun _ _ _ q=>by cases q),(fun _ _ q=>by cases q),(fun _ _ q=>by cases q)⟩
  |vC t' x'=>exact⟨(fun _ _ q=>by cases q),(fun _ _ _ q=>by cases q),(fun t y q=>by cases q;exact Rd.up (fun _=>.inl) fq),(fun _ _ q=>by cases q)⟩
  |par _ _=>cases ha
  |DR t' x'=>exact⟨(fun _ _ q=>by cases q),(fun _ _ _ q=>by cases q),(fun _ _ q=>by cases q),(fun t y q=>by cases q;exact gG.up (show gG S w (A.b j) x' from fq) fun k hk=>.inl hk)⟩
  |zN _ _=>cases ha
  |DS _ _ _ _ _=>exact⟨(fun _ _ q=>by cases q),(fun _ _ _ q=>by cases q),(fun _ _ q=>by cases q),(fun _ _ q=>by cases q)⟩
  |DT _=>exact⟨(fun _ _ q=>by cases q),(fun _ _ _ q=>by cases q),(fun _ _ q=>by cases q),(fun _ _ q=>by cases q)⟩
  |vw q lo e t' l'=>
   have fq:dg S w e (A.v q) l'/\mM (A.v j) (A.v q) lo (Data.size (El t')):=fq
   exact⟨(fun t l q=>by cases q;exact(th fq.1 fq.2).1),(fun _ _ _ q=>by cases q),(fun _ _ q=>by cases q),(fun _ _ q=>by cases q)⟩
  |fwd _=>exact⟨(fun _ _ q=>by cases q),(fun _ _ _ q=>by cases q),(fun _ _ q=>by cases q),(fun _ _ q=>by cases q)⟩
theorem Ci.up {T T':aL}{j:Nat}{x:R2}(h:Ci T w A j x)(hs:∀k,T k->T' k):Ci T' w A j x:=⟨fun t l q=>(h.l t l q).up hs,fun k t m q=>(h.m k t m q).up hs,fun t y q=>(h.p t y q).up hs,fun t y q=>(h.s t y q).up hs⟩
theorem Rm (H:cv o n A S F s r a w){j:Nat}{x:R2}(hj:r j=some x)(ha:kH x=true):Ci o.old w A j x:=by
 have hk:=H.args j x hj
 cases x with
 |ar t' l'=>exact⟨(fun t l q=>by cases q;exact Rd.keep H.bB.old hk),(fun _ _ _ q=>by cases q),(fun _ _ q=>by cases q),(fun _ _ q=>by cases q)⟩
 |wG k' t' l'=>exact⟨(fun _ _ q=>by cases q),(fun k t m q=>by cases q;exact Rd.keep H.bB.old hk),(fun _ _ q=>by cases q),(fun _ _ q=>by cases q)⟩
 |ext y=>
  cases y with
  |par t' x'=>exact⟨(fun _ _ q=>by cases q),(fun _ _ _ q=>by cases q),(fun t y q=>by cases q;exact Rd.keep H.bB.old hk),(fun _ _ q=>by cases q)⟩
  |zN t' x'=>exact⟨(fun _ _ q=>by cases q),(fun _ _ _ q=>by cases q),(fun _ _ q=>by cases q),(fun t y q=>by cases q;exact gG.keep hk H.bB.old)⟩
  |_=>cases ha
 |_=>cases ha
theorem AI (H:cv o n A S F s r a w):Reads (· <w.heap.size) w A r:=fun j x hj=>by
 cases ha:kH x with
 |false=>exact(pW H hj ha).up fun k hk=>hk.elim (H.bB.iI k) fun q=>(H.bB.own j _ k (show bw A r j=some _ by simp[bw,hj]) q).2.1
 |true=>exact(Rm H hj ha).up fun k hk=>Nat.lt_of_lt_of_le hk.1 H.bB.pT.size
theorem MN (H:cv o n A S F s r a w){j:Nat}{z:R2}(hj:r j=some z)(hz:∃y,rW y=some z):Ci S w A j z:=by
 obtain⟨y,hy⟩:=hz
 rcases Ch hy with⟨t,l,rfl⟩|⟨k,t,m,rfl⟩
 .exact(pW H hj rfl).up fun k hk=>hk.elim id fun q=>by cases q
 exact(pW H hj rfl).up fun k hk=>hk.elim id fun q=>by cases q
theorem pX (H:cv o n A S F s r a w){cs:List Sc}(hc:∀c∈cs,∀j,numOf c=some j->∀y,r j=some y->kH y=false):kT (Cd o w) w A r cs:=fun c rQ j hcj x hj=>by
 refine(pW H hj (hc c rQ j hcj x hj)).up fun k hk=>?_
 rcases hk with hk|hk
 .rcases H.bB.src k hk with h3|h3
  .exact .inl h3
  exact .inr ⟨h3,H.bB.iI k hk⟩
 obtain⟨h1,h2,_⟩:=H.bB.own j _ k (show bw A r j=some _ by simp[bw,hj]) hk
 exact .inr ⟨h1,h2⟩
end
def iX:List Ty->Type
 |[]=>Unit
 |t::ts=>El t×iX ts
def jE:List (Bool×Ty)->Type
 |[]=>Unit
 |p::ts=>El p.2×jE ts
def vG (S T:aL)(w:World):(c9:List (Bool×Ty))->List Value->jE c9->Prop
 |[],[],_=>True
 |(k,t)::c9,v::vs,x=>(match k with
  |true=>Rd S w v (x.1:El t)
  |false=>Rd T w v (x.1:El t))/\vG S T w c9 vs x.2
 |_,_,_=>False
def uJ (S:aL)(w:World):(ts:List Ty)->List Value->iX ts->Prop
 |[],[],_=>True
 |t::ts,v::vs,x=>Rd S w v x.1/\uJ S w ts vs x.2
 |_,_,_=>False
def kA (S:aL)(w:World):(ts:List Ty)->Value->iX ts->Prop
 |[t],v,x=>Rd S w v x.1
 |ts,v,x=> ∃vs:List Value,v= .tuple vs.toArray/\uJ S w ts vs x
def bG (P:Program)(f:FuncId)(c9:List (Bool×Ty))(rs:List Ty)(rY:jE c9->Prop)(fn:jE c9->iX rs):Prop:=
 ∀(o:Orig) (vs:List Value) (x:jE c9),vG o.S (· <o.w.heap.size) o.w c9 vs x->rY x->Calls P f vs.toArray o.w (Ie o fun S v w'=>kA S w' rs v (fn x))
def dN:(ts:List Ty)->iX ts->Nat->List (Bool×List Sc)×List (Nat×Option R2)
 |[],_,_=>([],[])
 |t::ts,y,b=>let c:=bA true b (bl t y.1);let r:=dN ts y.2 (b+c.2.length);((cG t,c.1)::r.1,c.2++r.2)
def iA (rs:List Ty)(y:iX rs)(b:Nat):Sy×List (Nat×Option R2):=
 match dN rs y b with
 |([(true,cs)],re)=>(.agg cs,re)
 |([(false,[c])],re)=>(.one c,re)
 |(ps,re)=>(.mU ps,re)
section
variable {P:Program}{o:bC}{n:Nat}{A A':bF}{S T:aL}{F G:Nat->Prop}{s:Nat->Option E2}{r:Nat->Option R2}{a:Act}{w w':World}{C:List (Nat×Bool)}{b:Nat}
theorem fT {k:Bool}:∀(cs:List l6) (b:Nat),∀p∈(bA k b cs).2,b<=p.1/\p.1<b+(bA k b cs).2.length
 |[],_,_,h=>by cases h
 | .i _::r,b,p,h=>fT r b p h
 | .b _::r,b,p,h=>fT r b p h
 | .s _::r,b,p,h=>fT r b p h
 | .l t l::r,b,p,h=>by
  obtain⟨x,h⟩:∃x,p∈(b,x)::(bA k (b+1) r).2:=⟨_,h⟩
  show b<=p.1/\p.1<b+((bA k (b+1) r).2.length+1)
  rcases List.mem_cons.1 h with rfl|h
  .simp
  have:=fT r (b+1) p h;omega
 | .p t l::r,b,p,h=>by
  obtain⟨x,h⟩:∃x,p∈(b,x)::(bA k (b+1) r).2:=⟨_,h⟩
  show b<=p.1/\p.1<b+((bA k (b+1) r).2.length+1)
  rcases List.mem_cons.1 h with rfl|h
  .simp
  have:=fT r (b+1) p h;omega
 | .m q t l::r,b,p,h=>by
  obtain⟨x,h⟩:∃x,p∈(b,x)::(bA k (b+1) r).2:=⟨_,h⟩
  show b<=p.1/\p.1<b+((bA k (b+1) r).2.length+1)
  rcases List.mem_cons.1 h with rfl|h
  .simp
  have:=fT r (b+1) p h;omega
theorem jS.agree (hA:cR F A A'):∀ {re:List (Nat×Option R2)} {b:Nat},(∀p∈re,F p.1)->jS o S w A b re->jS o S w A' b re
 |[],_,_,_=>trivial
 |p::re,b,hk,h=>by
  obtain⟨h1,⟨x,hx,hr⟩,h3⟩:=h
  have e:=hA p.1 (hk p (by simp))
  refine⟨h1,⟨x,hx,?_⟩,jS.agree hA (fun q hq=>hk q (List.mem_cons_of_mem _ hq)) h3⟩
  have hF:=hk p (by simp)
  cases x<;>first|(show Rd _ _ _ _;rw[<-e.1];exact hr)|(show Rd _ _ _ _;rw[<-e.2.2.2];exact hr)|exact hr|skip
  rename_i z
  cases z<;>first|exact hr|(show Rd _ _ _ _;rw[<-hA.p hF];exact hr)|(show gG _ _ _ _;rw[<-e.2.1];exact hr)
theorem jS.append:∀ {re Xy:List (Nat×Option R2)} {b b':Nat},jS o S w A b re->(∀p∈re,p.1<b')->b<=b'->jS o S w A b' Xy->jS o S w A b (re++Xy)
 |[],_,_,_,_,_,hb,k=>k.aaL hb
 |p::re,Xy,b,b',h,hl,hb,k=>⟨h.1,h.2.1,jS.append h.2.2 (fun q hq=>hl q (List.mem_cons_of_mem _ hq)) (by have:=hl p (by simp);omega) k⟩
theorem jT {t:Ty}{v:Value}{x:El t}(h:Rd S w v x):∃vs,bV S w vs (bl t x)/\v=(if cG t then .agg vs.toArray else vs.headD undef):=by
 obtain⟨cs,h1,h2⟩:=h
 exact⟨cs,gZ t h1,by rw[<-xM];exact h2⟩
theorem sw {B:Nat}:∀(ts:List Ty) (y:iX ts) (vs:List Value) (b:Nat) (A:bF) (F:Nat->Prop),uJ S w ts vs y->(∀j,b<=j->j<B->¬F j)->(∀p∈(dN ts y b).2,p.1<B)->
  ∃A',cR F A A'/\(dN ts y b).1.map (fe A')=vs/\jS o S w A' b (dN ts y b).2/\∀p∈(dN ts y b).1,∀c∈p.2,c.all (FU F (dN ts y b).2)/\c.b7 A'
 |[],_,[],b,A,F,_,_,_=>⟨A,cR.refl _ _,rfl,tv,fun _ h=>by cases h⟩
 |[],_,_::_,_,_,_,h,_,_=>h.elim
 |_::_,_,[],_,_,_,h,_,_=>h.elim
 |t::ts,y,v::vs,b,A,F,h,hF,hB=>by
  obtain⟨cs,cE,hv⟩:=jT h.1
  obtain⟨A1,h1,h2,h3,h4⟩:=fH (o:=o) (S:=S) (w:=w) (k:=true) _ cs b A F cE hF fun p hp=>hB p (List.mem_append_left _ hp)
  have o7:=fT (k:=true) (bl t y.1) b
  obtain⟨A2,k1,k2,k3,k4⟩:=sw ts y.2 vs (b+(bA true b (bl t y.1)).2.length) A1 (FU F (bA true b (bl t y.1)).2) h.2 (fun j hj hjB hn=>by
   rcases hn with hn|⟨x,hx⟩
   .exact hF j (by omega) hjB hn
   have:=o7 _ hx
   omega) fun p hp=>hB p (List.mem_append_right _ hp)
  have dL:∀c∈(bA true b (bl t y.1)).1,c.all (FU F (bA true b (bl t y.1)).2):=fun c hc=>(h4 c hc).1
  have Rn:∀j,FU F (bA true b (bl t y.1)).2 j->FU F (dN (t::ts) y b).2 j:=fun j hj=>by
   rcases hj with hj|⟨x,hx⟩
   .exact .inl hj
   exact .inr ⟨x,List.mem_append_left _ hx⟩
  refine⟨A2,h1.trans (k1.mono fun j hj=>.inl hj),?_,?_,fun p hp c hc=>?_⟩
  .show fe A2 (cG t,(bA true b (bl t y.1)).1)::(dN ts y.2 _).1.map (fe A2)=_
   rw[k2]
   congr 1
   unfold fe
   rw[<-jB k1 dL,h2,hv]
  .exact jS.append (jS.agree k1 (fun p hp=>.inr ⟨p.2,hp⟩) h3) (fun p hp=>(o7 p hp).2) (by omega) k3
  have hp:p=(cG t,(bA true b (bl t y.1)).1)\/p∈(dN ts y.2 (b+(bA true b (bl t y.1)).2.length)).1:=List.mem_cons.1 hp
  rcases hp with rfl|hp
  .exact⟨Sc.mono Rn (dL c hc),Sc.dH k1 (dL c hc) (h4 c hc).2⟩
  refine⟨Sc.mono (fun j hj=>?_) (k4 p hp c hc).1,(k4 p hp c hc).2⟩
  rcases hj with hj|⟨x,hx⟩
  .exact Rn j hj
  exact .inr ⟨x,List.mem_append_right _ hx⟩
theorem vH:∀(ts:List Ty) (y:iX ts) (b:Nat),(dN ts y b).1.length=ts.length
 |[],_,_=>rfl
 |t::ts,y,b=>by
  show(dN ts y.2 _).1.length+1=ts.length+1
  rw[vH ts y.2]
theorem D3 (rs:List Ty)(y:iX rs)(b:Nat):(iA rs y b).2=(dN rs y b).2:=by
 unfold iA
 split<;>(rename_i q;rw[q])
theorem MO {B:Nat}{rs:List Ty}{y:iX rs}{v:Value}(h:kA S w rs v y)(hF:∀j,b<=j->j<B->¬F j)(hB:∀p∈(iA rs y b).2,p.1<B):
  ∃A',cR F A A'/\(iA rs y b).1.den A'=v/\jS o S w A' b (iA rs y b).2/\(iA rs y b).1.all (FU F (iA rs y b).2)/\(iA rs y b).1.b7 A':=by
 have many:∀vs:List Value,(∀x,rs≠[x])->v= .tuple vs.toArray->uJ S w rs vs y->∃A',cR F A A'/\(iA rs y b).1.den A'=v/\jS o S w A' b (iA rs y b).2/\(iA rs y b).1.all (FU F (iA rs y b).2)/\(iA rs y b).1.b7 A':=by
  intro vs cO hv hr
  obtain⟨A',h1,h2,h3,h4⟩:=sw rs y vs b A F hr hF (by rw[<-D3];exact hB)
  have hl:∀q,(dN rs y b).1≠[q]:=by
   intro q hq
   have hl:=vH rs y b
   rw[hq] at hl
   match rs,hl,cO with
   |[t],_,cO=>exact cO t rfl
  have e:iA rs y b=(.mU (dN rs y b).1,(dN rs y b).2):=by
   unfold iA
   split
   .rename_i q;exact(hl _ (by rw[q])).elim
   .rename_i q;exact(hl _ (by rw[q])).elim
   rename_i q;rw[q]
  rw[e]
  exact⟨A',h1,by simp only[Sy.den,h2,hv],h3,fun p hp c hc=>(h4 p hp c hc).1,fun p hp c hc=>(h4 p hp c hc).2⟩
 match rs,y,h with
 |[],y,h=>obtain⟨vs,h1,h2⟩:=h;exact many vs (fun _ q=>by cases q) h1 h2
 |t::u::ts,y,h=>obtain⟨vs,h1,h2⟩:=h;exact many vs (fun _ q=>by cases q) h1 h2
 |[t],y,h=>
  have h:Rd S w v y.1:=h
  obtain⟨A',h1,h2,h3,h4⟩:=sw [t] y [v] b A F ⟨h,tv⟩ hF (by rw[<-D3];exact hB)
  obtain⟨cs,cE,hv⟩:=jT h
  have hlen:∀c∈(dN [t] y b).1,c.1=false->∃q,c.2=[q]:=by
   intro c hc vI
   have hc:c=(cG t,(bA true b (bl t y.1)).1):=by simpa[dN] using hc
   subst hc
   have vI:cG t=false:=vI
   cases t<;>first|exact⟨_,rfl⟩|cases vI
  have Ir:(∃cs re,dN [t] y b=([(true,cs)],re))\/∃c re,dN [t] y b=([(false,[c])],re):=by
   cases hp:cG t with
   |true=>exact .inl ⟨_,_,by show([(cG t,_)],_)=_;rw[hp]⟩
   |false=>
    obtain⟨q,hq⟩:=hlen (cG t,(bA true b (bl t y.1)).1) (by simp[dN]) hp
    have hq:(bA true b (bl t y.1)).1=[q]:=hq
    exact .inr ⟨q,_,by show([(cG t,(bA true b (bl t y.1)).1)],_)=_;rw[hp,hq]⟩
  rcases Ir with⟨tc,re,hq⟩|⟨c,re,hq⟩
  .have e:iA [t] y b=(.agg tc,re):=by unfold iA;rw[hq]
   rw[hq] at h2 h3 h4
   rw[e]
   exact⟨A',h1,(List.cons.inj h2).1,h3,fun c hc=>(h4 (true,tc) (List.mem_singleton.2 rfl) c hc).1,fun c hc=>(h4 (true,tc) (List.mem_singleton.2 rfl) c hc).2⟩
  have e:iA [t] y b=(.one c,re):=by unfold iA;rw[hq]
  rw[hq] at h2 h3 h4
  rw[e]
  exact⟨A',h1,(List.cons.inj h2).1,h3,(h4 (false,[c]) (List.mem_singleton.2 rfl) c (List.mem_singleton.2 rfl)).1,(h4 (false,[c]) (List.mem_singleton.2 rfl) c (List.mem_singleton.2 rfl)).2⟩
end
def MP:(c9:List (Bool×Ty))->List Sy->(jE c9->Tr Out)->Tr Out
 |[],[],k=>k ()
 |p::c9,y::ys,k=>jC p.2 y fun x=>MP c9 ys fun xs=>k (x,xs)
 |_,_,_=>.fail
def Cj:List (Bool×Ty)->List Sy->List Sc
 |(true,_)::c9,y::ys=>aH y++Cj c9 ys
 |(false,_)::c9,_::ys=>Cj c9 ys
 |_,_=>[]
def MQ {c9:List (Bool×Ty)}{rs:List Ty}(rY:jE c9->Prop)(fn:jE c9->iX rs)(b:Nat)(cr:List (Nat×Nat))(ys:List Sy):Tr Out:=
 match cr with
 |[]=>ML (Cj c9 ys) fun re=>MP c9 ys fun x=>.ret ⟨[rY x],[],(iA rs (fn x) b).1,(iA rs (fn x) b).2++re⟩
 |_=>.fail
section
variable {P:Program}{o:bC}{n:Nat}
def eY (o:bC)(n:Nat)(F:Nat->Prop)(s:Nat->Option E2)(r:Nat->Option R2)(a:Act)(out:Out)(v:Value)(w':World):Prop:=
 ∃A' S',cv o n A' S' (FU F out.re) s (aQ r out.re) a w'/\v=out.sy.den A'/\out.sy.all (FU F out.re)/\out.sy.b7 A'
end
def x4 (P:Program)(f:FuncId)(tr:Nat->List (Nat×Nat)->List Sy->Tr Out):Prop:=
 ∀(o:bC) (n:Nat) (A:bF) (S:aL) (F:Nat->Prop) (s:Nat->Option E2) (r:Nat->Option R2) (a:Act) (w:World) (b B:Nat) (cr:List (Nat×Nat)) (ys:List Sy) (out:Out),
  cv o n A S F s r a w->(∀j,b<=j->j<B->¬F j)->(∀y∈ys,y.all F/\y.b7 A)->(∀c∈cr,F c.1)->(tr b cr ys).run s r=some out->(∀p∈out.cs,p)->(∀h∈out.hs,∀A w,h.lhs A w=h.rhs A w)->(∀p∈out.re,p.1<B)->
  Calls P f (ys.map (Sy.den A)++cr.map (fun c=>Value.pointer (some ⟨A.b c.1,c.2,none⟩))).toArray w (fun e w'=> ∃v,e= .returned v/\eY o n F s r a out v w')
structure dy (P:Program) where
 f:FuncId
 tr:Nat->List (Nat×Nat)->List Sy->Tr Out
 ok:x4 P f tr
def MR (P:Program)(t:TypeId)(y:Sy)(cs:List Sc):Hid:=
 ⟨fun A w=>(Instr.box t (y.den A)).run P w,fun A w=>.ok (.pointer (some ⟨w.heap.size,0,none⟩)) (w.alloc (.cells (cs.map (Sc.den A)).toArray t))⟩
def D4 (P:Program)(t:TypeId)(cs:List Sc):Hid:=
 ⟨fun _ w=>(Instr.alloc t true (.tuple #[])).run P w,fun A w=>.ok (.pointer (some ⟨w.heap.size,0,none⟩)) (w.alloc (.cells (cs.map (Sc.den A)).toArray t))⟩
def x5 (P:Program)(t len:Nat)(e:TypeId)(ys:List (Nat×Sy))(cs:List Sc):Hid:=
 ⟨fun A w=>(Instr.buildSlice t len (ys.map fun y=>(y.1,y.2.den A)).toArray).run P w,fun A w=>.ok (.slice (some ⟨w.heap.size,0,none⟩) len len) (w.alloc (.cells (cs.map (Sc.den A)).toArray e))⟩
def D5 (P:Program)(t:TypeId)(ys:List (Nat×Sy))(cs:List Sc):Hid:=
 ⟨fun A w=>(Instr.build t (ys.map fun y=>(y.1,y.2.den A)).toArray).run P w,fun A w=>.ok (.agg (cs.map (Sc.den A)).toArray) w⟩
def kV (P:Program):Nat->TypeId->Option Ty
 |0,_=>none
 |k+1,t=>match P.underlying t with
  |some (.int .i64)=>some .int
  |some .bool=>some .bool
  |some .string=>some .str
  |some (.slice e)=>(kV P k e).map .list
  |some (.map q e)=>match P.underlying q with
   |some (.int .i64)=>(kV P k e).map (.map .int)
   |some .string=>(kV P k e).map (.map .str)
   |_=>none
  |some (.struct fs)=>Ug (fs.toList.map fun f=>kV P k f.type)
  |_=>none
where Ug:List (Option Ty)->Option Ty
 |[some t]=>some t
 |some t::r=>(Ug r).map (.pair t)
 |_=>none
def gB (P:Program)(t e:TypeId)(sz:Nat):Bool:=
 match P.underlying t,P.info? e with
 |some (.slice e'),some i=>match i.zero with
  |some z=>Nat.beq e' e && Nat.beq i.size sz && Nat.beq z.cells.size sz && Nat.blt 0 sz && Nat.ble i.bytes 1000
  |none=>false
 |_,_=>false
theorem nh {P:Program}{t e:TypeId}{sz:Nat}(h:gB P t e sz=true):∃bytes,bytes<=1000/\L8 P t e sz bytes:=by
 unfold gB at h
 split at h
 .rename_i e' i hu hi
  split at h
  .rename_i z hz
   simp only[Bool.and_eq_true] at h
   obtain⟨⟨⟨⟨h1,h2⟩,h3⟩,h4⟩,h5⟩:=h
   have h1:=b6 h1;have h2:=b6 h2;have h3:=b6 h3
   subst h1
   exact⟨i.bytes,by simpa using Nat.le_of_ble_eq_true h5,hu,⟨i,z,hi,hz,h2,rfl,h3⟩,by simpa using Nat.blt_eq▸h4⟩
  cases h
 cases h
def wI (t:Ty):List Sy->(List (El t)->Tr Out)->Tr Out
 |[],k=>k []
 |y::ys,k=>jC t y fun x=>wI t ys fun xs=>k (x::xs)
def Gq:Nat->List Nat->Bool
 |_,[]=>true
 |k,i::l=>Nat.beq i k && Gq (k+1) l
def Vp (P:Program)(b t len:Nat)(is:List Nat)(ys:List Sy):Tr Out:=
 match kV P 9 (P.elem t) with
 |some ty=>bg (Gq 0 is && (Nat.beq is.length len && Nat.beq ys.length len && gB P t (P.elem t) (Im ty)) && Nat.ble len 1000)
  (ML (ys.flatMap aH) fun re=>wI ty ys fun l=>.ret ⟨[],[x5 P t len (P.elem t) (is.zip ys) (ys.flatMap aH)],.one (.own b),[(b,some (.row (P.elem t) ty l))]++re⟩)
 |none=>.fail
def Ck (fs:Array Field):List (Nat×Sy)->List Sc->Option (List Sc)
 |[],cs=>some cs
 |(i,y)::l,cs=>match fs[i]? with
  |some fd=>Ck fs l (cs.take fd.offset++aH y++cs.drop (fd.offset+(aH y).length))
  |none=>none
def MT (P:Program)(t:TypeId)(ys:List (Nat×Sy)):Tr Out:=
 match P.info? t,P.underlying t with
 |some i,some (.struct fs)=>match i.zero with
  |some z=>match Ck fs ys (z.cells.toList.map l7) with
   |some cs=>.ret ⟨[],[D5 P t ys cs],.agg cs,[]⟩
   |none=>.fail
  |none=>.fail
 |_,_=>.fail
def AJ:Sc->Bool
 | .v x=>x.oneCell'
 | .hd _ _ _=>false
 |_=>true
def storeT (P:Program)(t:TypeId):Sy->Sy->Tr Out
 | .one (.ptr j off),y=>.res j fun x=>match x with
  | .box bt cs=>bg (Nat.ble (off+(aH y).length) cs.length && Nat.beq (P.cellsOf t) (aH y).length && (P.info? t).isSome && (aH y).all AJ && (match y with| .mU _=>false|_=>true))
   (.ret ⟨[],[],.one (.v undef),[(j,some (.box bt (cs.take off++aH y++cs.drop (off+(aH y).length))))]⟩)
  |_=>.fail
 |_,_=>.fail
def x6 (P:Program)(b:Nat)(t:TypeId):Tr Out:=
 match P.underlying t,kV P 9 t with
 |some (.map kt _),some (.map k ty)=>bg (mB P kt k) (.ret ⟨[],[],.one (.mp b),[(b,some (.map k ty ([]:List (bL k×El ty))))]⟩)
 |_,_=>.fail
def xP (P:Program)(t:TypeId)(p q y:Sy):Tr Out:=
 match P.underlying t,p with
 |some (.map kt et),.one (.mp j)=>.res j fun r=>match r with
  | .map k ty m=>match vE k q with
   |some x=>bg (mB P kt k) (ML (aH y) fun re=>bg (re.all fun p=>!Nat.beq p.1 j) (jC ty y fun v=>.ret ⟨[cA k x,(show List (bL k×El ty) from m).length<=2147483647],[],.one (.v undef),(j,some (.map k ty (gD m x v)))::re⟩))
   |none=>.fail
  |_=>.fail
 |_,_=>.fail
def MU (P:Program)(t Dv:TypeId)(p q:Sy):Tr Out:=
 match P.underlying t,p with
 |some (.map kt et),.one (.mp j)=>.res j fun r=>match r with
  | .map k ty m=>match vE k q with
   |some x=>bg (mB P kt k && Nat.beq kt Dv) (.ret ⟨[cA k x],[],.mU [],[(j,some (.map k ty (lU m x)))]⟩)
   |none=>.fail
  |_=>.fail
 |_,_=>.fail
def MV (P:Program)(t:TypeId)(p:Sy):Tr Out:=
 match P.underlying t,p with
 |some (.map kt et),.one (.mp j)=>.res j fun r=>match DV r with
  |some ⟨k,t',m⟩=>bg (mB P kt k) (one (num ((show List (bL k×El t') from m).length:Int)))
  |none=>.fail
 |_,_=>.fail
def Vq (P:Program)(t:Option TypeId):Bool:=match t.bind P.underlying with
 |some (.map _ _)=>true
 |_=>false
section
variable {P:Program}{o:bC}{n:Nat}{A A':bF}{S S' T:aL}{F G:Nat->Prop}{s:Nat->Option E2}{r:Nat->Option R2}{a:Act}{w w':World}{C:List (Nat×Bool)}{b:Nat}
theorem dz (r:Nat->Option R2):∀x y:List (Nat×Option R2),aQ r (x++y)=aQ (aQ r y) x
 |[],_=>rfl
 |p::x,y=>by show jg (aQ r (x++y)) p.1 p.2=_;rw[dz r x y];rfl
theorem pY {α:Type 1}(H:cv o n A S F s r a w)(hC:jy a C):∀ {l:List Operand} {k:List Sy->Tr α} {out:α},(Ki C l k).run s r=some out->∃ys:List Sy,l.map a.eval=ys.map (Sy.den A)/\(∀y∈ys,y.all F/\y.b7 A)/\(k ys).run s r=some out
 |[],k,out,h=>⟨[],rfl,fun _ q=>(by cases q),h⟩
 |x::l,k,out,h=>by
  obtain⟨y,e1,e2,e3,h⟩:=aP H hC h
  obtain⟨ys,f1,f2,h⟩:=pY H hC h
  refine⟨y::ys,by rw[List.map_cons,List.map_cons,e1,f1],fun z hz=>?_,h⟩
  rcases List.mem_cons.1 hz with rfl|hz
  .exact⟨e2,e3⟩
  exact f2 z hz
theorem ni (H:cv o n A S F s r a w){re:List (Nat×Option R2)}(hz:Xx r re)(hS:∀k,S k->S' k)(H':cv o n A S' F s (aQ r re) a w){l:List Sc}(hl:Yq r re l):kT S' w A r l:=by
 intro c hc j hcj x hx
 obtain⟨ha,hf⟩:=hl c hc j hcj x hx
 cases pE:rW x with
 |some z=>
  have h1:=MN H' (Rk hz (hf z pE)) ⟨x,pE⟩
  cases x with
  |row e t l=>cases pE;exact⟨(fun t l q=>by cases q;exact h1.l _ _ rfl),(fun _ _ _ q=>by cases q),(fun _ _ q=>by cases q),(fun _ _ q=>by cases q)⟩
  |map k t m=>cases pE;exact⟨(fun _ _ q=>by cases q),(fun k t m q=>by cases q;exact h1.m _ _ _ rfl),(fun _ _ q=>by cases q),(fun _ _ q=>by cases q)⟩
  |ext y=>
   cases y with
   |nest q hh e t ie l=>
    cases hh with
    |none=>cases pE;exact⟨(fun t l q=>by cases q;exact h1.l _ _ rfl),(fun _ _ _ q=>by cases q),(fun _ _ q=>by cases q),(fun _ _ q=>by cases q)⟩
    |some _=>cases pE
   |ff q k hh t ie m=>
    cases hh with
    |none=>cases pE;exact⟨(fun _ _ q=>by cases q),(fun k t m q=>by cases q;exact h1.m _ _ _ rfl),(fun _ _ q=>by cases q),(fun _ _ q=>by cases q)⟩
    |some _=>cases pE
   |vw _ _ _ _ _=>cases pE;exact⟨(fun t l q=>by cases q;exact h1.l _ _ rfl),(fun _ _ _ q=>by cases q),(fun _ _ q=>by cases q),(fun _ _ q=>by cases q)⟩
   |_=>cases pE
  |_=>cases pE
 |none=>
  have h1:=pW H hx ha
  have low:(∀k,(x.den A j).has k->S' k)->Ci S' w A j x:=fun q=>h1.up fun k hk=>hk.elim (hS k) (q k)
  cases x with
  |ro t' l'=>exact low fun k q=>by cases q
  |mL k' t' l'=>exact low fun k q=>by cases q
  |box _ _=>exact⟨(fun _ _ q=>by cases q),(fun _ _ _ q=>by cases q),(fun _ _ q=>by cases q),(fun _ _ q=>by cases q)⟩
  |ar _ _=>cases ha
  |wG _ _ _=>cases ha
  |row _ _ _=>cases pE
  |map _ _ _=>cases pE
  |iter _ _ _ _ _ _=>exact⟨(fun _ _ q=>by cases q),(fun _ _ _ q=>by cases q),(fun _ _ q=>by cases q),(fun _ _ q=>by cases q)⟩
  |ext y=>
   cases y with
   |nest q hh e t ie l=>
    cases hh with
    |none=>cases pE
    |some _=>exact⟨(fun _ _ q=>by cases q),(fun _ _ _ q=>by cases q),(fun _ _ q=>by cases q),(fun _ _ q=>by cases q)⟩
   |ff q k hh t ie m=>
    cases hh with
    |none=>cases pE
    |some _=>exact⟨(fun _ _ q=>by cases q),(fun _ _ _ q=>by cases q),(fun _ _ q=>by cases q),(fun _ _ q=>by cases q)⟩
   |vC t x=>exact low fun k q=>by cases q
   |DR t x=>exact low fun k q=>q.elim
   |par _ _=>cases ha
   |zN _ _=>cases ha
   |DS _ _ _ _ _=>exact⟨(fun _ _ q=>by cases q),(fun _ _ _ q=>by cases q),(fun _ _ q=>by cases q),(fun _ _ q=>by cases q)⟩
   |DT _=>exact⟨(fun _ _ q=>by cases q),(fun _ _ _ q=>by cases q),(fun _ _ q=>by cases q),(fun _ _ q=>by cases q)⟩
   |vw _ _ _ _ _=>cases pE
   |fwd _=>exact⟨(fun _ _ q=>by cases q),(fun _ _ _ q=>by cases q),(fun _ _ q=>by cases q),(fun _ _ q=>by cases q)⟩
theorem uK (hr:Reads T w A r):∀ {c9:List (Bool×Ty)} {ys:List Sy} {k:jE c9->Tr Out} {out:Out},kT S' w A r (Cj c9 ys)->(MP c9 ys k).run s r=some out->∃x:jE c9,vG S' T w c9 (ys.map (Sy.den A)) x/\(k x).run s r=some out
 |[],[],k,out,_,h=>⟨(),tv,h⟩
 |[],_::_,_,_,_,h=>by cases h
 |_::_,[],_,_,_,h=>by cases h
 |(true,t)::c9,y::ys,k,out,hk,h=>by
  obtain⟨x,h1,h⟩:=iP (T:=S') (fun c hc=>hk c (List.mem_append_left _ hc)) h
  obtain⟨xs,h2,h⟩:=uK hr (fun c hc=>hk c (List.mem_append_right _ hc)) h
  exact⟨(x,xs),⟨h1,h2⟩,h⟩
 |(false,t)::c9,y::ys,k,out,hk,h=>by
  obtain⟨x,h1,h⟩:=iP (T:=T) (fun c _ j _=>hr j) h
  obtain⟨xs,h2,h⟩:=uK (c9:=c9) (ys:=ys) hr hk h
  exact⟨(x,xs),⟨h1,h2⟩,h⟩
theorem bH {op:Oper}{v:Value}{K:Act->World->Prop}{Q:Exit->Act->World->Prop}(e:(execOp a.eval op).run P w= .ok (.value v) w')(k:K (a.put op.dst v) w'):op.wp P a w K Q:=by
 unfold Oper.wp;rw[e];exact k
theorem cv.new (H:cv o n A S F s r a w)(hF:¬F b){p:Option Addr}{m c:Nat}{x:Obj}{y:R2}(fq:(y.den (A.set b p m c w.heap.size) b).ok S (w.alloc x))(hb:∀k,(y.den (A.set b p m c w.heap.size) b).has k->k=w.heap.size)(dL:y.all (FU F [(b,some y)]))(cO:kH y=false)(hg:y.b7 (A.set b p m c w.heap.size)):
  cv o n (A.set b p m c w.heap.size) S (FU F [(b,some y)]) s (aQ r [(b,some y)]) a (w.alloc x):=by
 have H1:=H.agree (cR.set (A:=A) hF p m c w.heap.size) (G:=FU F [(b,some y)]) fun j h=>.inl h
 refine cv.mV H1 b (some y) (fun z hz=>?_) (fun z e=>by cases e;exact gJ cO) (H1.bB.Ms b x _ fq hb)
 cases hz
 exact⟨.inr ⟨_,List.mem_singleton.2 rfl⟩,dL,hg⟩
theorem Kq {f:FuncId}{c9:List (Bool×Ty)}{rs:List Ty}{rY:jE c9->Prop}{fn:jE c9->iX rs}(ok:bG P f c9 rs rY fn):x4 P f (MQ rY fn):=by
 intro o n A S F s r a w b B cr ys out H hF Uh _ h cE _ hB0
 unfold MQ at h
 cases cr with
 |cons _ _=>cases h
 |nil=>
  obtain⟨re,hz,hl,h⟩:=mD _ _ h
  obtain⟨S',hS,H'⟩:=H.freeze hz
  obtain⟨xs,Re,h⟩:=uK (T:=(· <w.heap.size)) (S':=S') (AI H) (ni H hz hS H' hl) h
  have e:=aW h
  subst e
  have Cl:rY xs:=cE _ (List.mem_singleton.2 rfl)
  have QS:=ok H'.bB.at (ys.map (Sy.den A)) xs Re Cl
  rw[List.map_nil,List.append_nil]
  refine QS.mono fun e w' ⟨v,he,hR,hB⟩=>⟨v,he,?_⟩
  obtain⟨A',k1,k2,k3,k4,k5⟩:=MO (o:=o) (S:=rT H'.bB.at w') (w:=w') (b:=b) (A:=A) (F:=F) hR hF fun p hp=>hB0 p (List.mem_append_left _ hp)
  have H2:cv o n A (rT H'.bB.at w') F s (aQ r re) a w':=⟨H'.size,H'.fh,H'.env,H'.l8,H'.dB,H'.bB.call hB,H'.args,H'.s8⟩
  have H3:=H2.ro k1 k3
  rw[<-dz] at H3
  refine⟨A',_,⟨H3.size,H3.fh,H3.env,fun t e he hc=>⟨Sy.mono ?_ (H3.l8 t e he hc).1,(H3.l8 t e he hc).2⟩,fun j x hj=>⟨?_,R2.mono ?_ (H3.dB j x hj).2.1,(H3.dB j x hj).2.2⟩,H3.bB,H3.args,⟨fun j hj=>(H3.s8.1 j hj).imp id fun⟨z,hz⟩=>⟨z,List.mem_append_left _ hz⟩,H3.s8.2⟩⟩,k2.symm,Sy.mono ?_ k4,k5⟩
  all_goals first
   |(intro j hj;rcases hj with hj|⟨z,hz⟩;exact .inl hj;exact .inr ⟨z,List.mem_append_left _ hz⟩)
   |(rcases(H3.dB j x hj).1 with hj|⟨z,hz⟩;exact .inl hj;exact .inr ⟨z,List.mem_append_left _ hz⟩)
theorem Gs {B:Nat}{T:List (dy P)}(H:cv o n A S F s r a w)(hF:∀j,b<=j->j<B->¬F j){op:Oper}{c:Call}{x:Operand}{f:FuncId}{cr:List (Nat×Nat)}{Vr:dy P}{out:Out}(ho:op.op= .call c)(jq:c.callee= .value x)(hx:a.eval x=(Sc.mA f cr).den A)(hf:Vr.f=f)
  (Au:((P.funcs[f]?).map (fun fn=>((fn.name== "runtime.NumGoroutine")||fn.body.isNone)))=some false) {ys:List Sy} (dD:c.args.toList.map a.eval=ys.map (Sy.den A)) (Uh:∀y∈ys,y.all F/\y.b7 A) (AK:∀c∈cr,F c.1) (h:(Vr.tr b cr ys).run s r=some out) (cE:∀p∈out.cs,p) (mN:∀h∈out.hs,∀A w,h.lhs A w=h.rhs A w) (hB0:∀p∈out.re,p.1<B)
  {K:Act->World->Prop} {Q:Exit->Act->World->Prop} (k:∀v w',eY o n F s r a out v w'->K (a.put op.dst v) w'):op.wp P a w K Q:=by
 have QS:=Vr.ok o n A S F s r a w b B cr ys out H hF Uh AK h cE mN hB0
 obtain⟨fn,hfn,hb⟩:=Option.map_eq_some_iff.1 Au
 simp only[Bool.or_eq_false_iff] at hb
 have T8:fn.name≠ "runtime.NumGoroutine" :=by simpa using hb.1
 have mX:fn.body≠none:=by intro e;rw[e] at hb;cases hb.2
 have hx:a.eval x= .func (.func f) #[] (cr.map fun c=>.pointer (some ⟨A.b c.1,c.2,none⟩)).toArray:=hx
 have Vs:c.args.map a.eval=(ys.map (Sy.den A)).toArray:=by rw[<-dD];apply Array.ext';rw[Array.toList_map]
 have e:(execOp a.eval op).run P w= .ok (.enter f (ys.map (Sy.den A)++cr.map (fun c=>Value.pointer (some ⟨A.b c.1,c.2,none⟩))).toArray) w:=by
  simp[execOp,ho,resolve,jq,Vs,hx,Deferred.ofValue,invoke,callFunc,program,Sem.run,hfn,T8,mX]
 unfold Oper.wp
 rw[e]
 rw[hf] at QS
 refine QS.mono fun e w' ⟨v,he,hR⟩=>?_
 subst he
 exact k v w' hR
end
theorem gd {P:Program}{kt:TypeId}{k:Kc}(h:mB P kt k=true):P.underlying kt=some (iz k):=by
 unfold mB at h
 split at h
 .split at h
  .assumption
  cases h
 split at h
 .assumption
 cases h
theorem nj {A:bF}{k:Kc}{q:Sy}{x:bL k}(h:vE k q=some x):q.den A=fP k x:=by
 unfold vE at h
 split at h
 .cases h;rfl
 .cases h;rfl
 cases h
theorem x7 (v:Value):numOf (l7 v)=none:=by unfold l7;split<;>rfl
theorem x8 {P:Program}{t:TypeId}{z:Sy}(h:xQ P t=some z):∀c∈aH z,numOf c=none:=by
 unfold xQ at h
 split at h
 .rename_i i _
  obtain⟨v,_,rfl⟩:=Option.map_eq_some_iff.1 h
  intro c hc
  unfold zW at hc
  split at hc
  .obtain⟨u,_,rfl⟩:=List.mem_map.1 hc;exact x7 u
  have:=List.mem_singleton.1 hc;subst this;exact x7 _
 cases h
section
variable {P:Program}{o:bC}{n:Nat}{A A':bF}{S S':aL}{F G:Nat->Prop}{s:Nat->Option E2}{r:Nat->Option R2}{a:Act}{w w':World}{C:List (Nat×Bool)}{b:Nat}
theorem Kr {B:Nat}(H:cv o n A S F s r a w)(hF:∀j,b<=j->j<B->¬F j){op:Oper}{t:TypeId}{m x:Operand}{ok:Bool}{p q:Sy}{out:Out}(ho:op.op= .lookup t m x ok)(hm:a.eval m=p.den A)(hx:a.eval x=q.den A)
  (h:(AE P b t ok p q).run s r=some out) (cE:∀p∈out.cs,p) (mN:∀h∈out.hs,∀A w,h.lhs A w=h.rhs A w) (hB:∀p∈out.re,p.1<B)
  {K:Act->World->Prop} {Q:Exit->Act->World->Prop} (k:∀v w',eY o n F s r a out v w'->K (a.put op.dst v) w'):op.wp P a w K Q:=by
 unfold AE at h
 split at h
 .rename_i kt et hu
  split at h
  .rename_i j
   obtain⟨R,hR,h⟩:=aY h
   split at h
   .rename_i qf kc tn ie mm
    split at h
    .rename_i kx MW
     obtain⟨hk,h⟩:=ax h
     have hk:=gd hk
     have hq:q.den A=fP kc kx:=nj MW
     have hm:a.eval m= .map (A.m j):=hm
     obtain⟨Cg,MF,_⟩:=H.dB j _ hR
     have MF:F qf:=MF
     obtain⟨dM,hblk,N⟩:∃dM,A.m j=some dM/\su S w dM (A.f qf) none ie mm:=H.bB.ok j _ (show bw A r j=some _ by simp[bw,hR];rfl)
     obtain⟨zs,n1,n2,n3⟩:=N.map
     have e1:aG (zs.map fun q=>(q.1,q.2.1)) kx=(aG zs kx).map (·.1):=e7 (fun y:Value×List (El tn)=>y.1) zs kx
     have e2:aG mm kx=(aG zs kx).map (·.2):=by rw[n2];exact e7 (fun y:Value×List (El tn)=>y.2) zs kx
     have e3:(aG (zs.map fun q=>(q.1,q.2.1)) kx).isSome=(aG mm kx).isSome:=by rw[e1,e2];cases aG zs kx<;>rfl
     have e4:(aG (zs.map fun q=>(q.1,q.2.1)) kx).getD (.slice none 0 0)=A.f qf (cN kc kx):=by
      rw[e1]
      cases hl:aG zs kx with
      |none=>rw[N.Xu kx (by rw[e2,hl];rfl) (by simp)];rfl
      |some y=>exact(n3 _ (jA hl) (by simp)).1
     have main:(jf P et (.one (.v (.slice none 0 0)))).lhs A w=(jf P et (.one (.v (.slice none 0 0)))).rhs A w->cA kc kx->(execOp a.eval op).run P w= .ok (.value (if ok then .tuple #[A.f qf (cN kc kx),.bool (aG mm kx).isSome] else A.f qf (cN kc kx))) w:=by
      intro hz hw
      have hz:(zeroValue et).run P w= .ok (.slice none 0 0) w:=hz
      have bY:(Instr.lookup t (.map (A.m j)) (fP kc kx) ok).run P w= .ok (if ok then .tuple #[A.f qf (cN kc kx),.bool (aG mm kx).isSome] else A.f qf (cN kc kx)) w:=by
       rw[hblk]
       cases ok
       .rw[n1.look hu hk hz hw,e4];rfl
       rw[n1.AE hu hk hz hw,e3,e4];rfl
      simp only[execOp,ho,Sem.run_bind,hm,hx,hq,bY]
      rfl
     cases ok with
     |true=>
      have e:=aW h
      subst e
      refine bH (main (mN _ (List.mem_singleton.2 rfl) A w) (cE _ (List.mem_singleton.2 rfl))) (k _ _ ⟨A,S,H.agree (cR.refl _ _) fun _ q=>.inl q,rfl,fun p hp c hc=>?_,fun p hp c hc=>?_⟩)
      .rcases List.mem_cons.1 hp with rfl|hp
       .have:=List.mem_singleton.1 hc;subst this;exact⟨.inl Cg,.inl MF⟩
       have:=List.mem_singleton.1 hp;subst this
       have:=List.mem_singleton.1 hc;subst this;trivial
      rcases List.mem_cons.1 hp with rfl|hp
      .have:=List.mem_singleton.1 hc;subst this;trivial
      have:=List.mem_singleton.1 hp;subst this
      have:=List.mem_singleton.1 hc;subst this;trivial
     |false=>
      have e:=aW h
      subst e
      exact bH (main (mN _ (List.mem_singleton.2 rfl) A w) (cE _ (List.mem_singleton.2 rfl))) (k _ _ ⟨A,S,H.agree (cR.refl _ _) fun _ q=>.inl q,rfl,⟨.inl Cg,.inl MF⟩,tv⟩)
    cases h
   split at h
   .rename_i kc ty mm zL
    split at h
    .rename_i kx z MW hz
     obtain⟨hk,h⟩:=ax h
     have hk:=gd hk
     have hq:q.den A=fP kc kx:=nj MW
     have hm:a.eval m= .map (A.m j):=hm
     have hzc:=x8 hz
     obtain⟨x0,MX,h⟩:∃x0:El ty,(match gx R with|true=>Rd S w (z.den A) x0|false=>Rd o.old o.w (z.den A) x0)/\_:=by
      cases gx R with
      |true=>exact iP (T:=S) (w:=w) (fun c hc j hj=>by rw[hzc c hc] at hj;cases hj) h
      |false=>exact iP (T:=o.old) (w:=o.w) (fun c hc j hj=>by rw[hzc c hc] at hj;cases hj) h
     have main:(jf P et z).lhs A w=(jf P et z).rhs A w->cA kc kx->∃v,(Instr.lookup t (.map (A.m j)) (fP kc kx) ok).run P w= .ok (if ok then .tuple #[v,.bool (aG mm kx).isSome] else v) w/\
       (match gx R with|true=>Rd S w v ((aG mm kx).getD x0)|false=>Rd o.old o.w v ((aG mm kx).getD x0)):=by
      intro hz hw
      have hz:(zeroValue et).run P w= .ok (z.den A) w:=hz
      rcases DY H hR zL with⟨h1,h2⟩|⟨dM,zs,h1,h2,h3,h4⟩
      .subst h2
       refine⟨z.den A,?_,?_⟩
       .rw[h1,Maps.look_nil ok (oa hk) hu hz (ob hk hw)];rfl
       exact MX
      have e1:aG (zs.map fun q=>(q.1,q.2.1)) kx=(aG zs kx).map (·.1):=e7 (fun y:Value×El ty=>y.1) zs kx
      have e2:aG mm kx=(aG zs kx).map (·.2):=by rw[h3];exact e7 (fun y:Value×El ty=>y.2) zs kx
      have e3:(aG (zs.map fun q=>(q.1,q.2.1)) kx).isSome=(aG mm kx).isSome:=by rw[e1,e2];cases aG zs kx<;>rfl
      refine⟨(aG (zs.map fun q=>(q.1,q.2.1)) kx).getD (z.den A),?_,?_⟩
      .rw[h1]
       cases ok
       .exact h2.look hu hk hz hw
       rw[h2.AE hu hk hz hw,e3];rfl
      rw[e1,e2]
      cases hl:aG zs kx with
      |none=>exact MX
      |some y=>exact h4 _ (jA hl)
     have fin:∀(sy:Sy),(∀v (A':bF),v=(if cG ty then .agg ((bA (gx R) b (bl ty ((aG mm kx).getD x0))).1.map (Sc.den A')).toArray else((bA (gx R) b (bl ty ((aG mm kx).getD x0))).1.map (Sc.den A')).headD undef)->(if ok then Value.tuple #[v,.bool (aG mm kx).isSome] else v)=sy.den A')->
       (∀(G:Nat->Prop) (A':bF),(∀c∈(bA (gx R) b (bl ty ((aG mm kx).getD x0))).1,c.all G/\c.b7 A')->sy.all G/\sy.b7 A')->
       out=⟨[cA kc kx],[jf P et z],sy,(bA (gx R) b (bl ty ((aG mm kx).getD x0))).2⟩->op.wp P a w K Q:=by
      intro sy uE dL e
      subst e
      obtain⟨v,bY,gF⟩:=main (mN _ (List.mem_singleton.2 rfl) A w) (cE _ (List.mem_singleton.2 rfl))
      obtain⟨vs,J5,hv⟩:∃vs,wH o S w (gx R) vs (bl ty ((aG mm kx).getD x0))/\v=(if cG ty then .agg vs.toArray else vs.headD undef):=by
       cases F1:gx R with
       |true=>rw[F1] at gF;exact jT gF
       |false=>rw[F1] at gF;exact jT gF
      obtain⟨A',k1,k2,k3,k4⟩:=fH _ vs b A F J5 hF hB
      have e2:(execOp a.eval op).run P w= .ok (.value (if ok then .tuple #[v,.bool (aG mm kx).isSome] else v)) w:=by
       simp only[execOp,ho,Sem.run_bind,hm,hx,hq,bY]
       rfl
      refine bH e2 (k _ _ ⟨A',S,H.ro k1 k3,uE v A' ?_,(dL _ _ k4).1,(dL _ _ k4).2⟩)
      rw[k2];exact hv
     cases ok with
     |true=>
      have e:=aW h
      refine fin (.mU [(cG ty,(bA (gx R) b (bl ty ((aG mm kx).getD x0))).1),(false,[.b (.raw (aG mm kx).isSome)])]) (fun v A' hv=>?_) (fun G A' hc=>⟨fun p hp c rQ=>?_,fun p hp c rQ=>?_⟩) e
      .show Value.tuple #[v,_]= .tuple #[fe A' (cG ty,_),_]
       rw[hv];rfl
      .rcases List.mem_cons.1 hp with rfl|hp
       .exact(hc c rQ).1
       have:=List.mem_singleton.1 hp;subst this
       have:=List.mem_singleton.1 rQ;subst this;trivial
      rcases List.mem_cons.1 hp with rfl|hp
      .exact(hc c rQ).2
      have:=List.mem_singleton.1 hp;subst this
      have:=List.mem_singleton.1 rQ;subst this;trivial
     |false=>
      dsimp only at h
      split at h
      .rename_i cs hp
       have e:=aW h
       refine fin (.agg (bA (gx R) b (bl ty ((aG mm kx).getD x0))).1) (fun v A' hv=>?_) (fun G A' hc=>⟨fun c rQ=>(hc c rQ).1,fun c rQ=>(hc c rQ).2⟩) e
       show v=_
       rw[hv,if_pos hp];rfl
      .rename_i c hp zZ
       have e:=aW h
       refine fin (.one c) (fun v A' hv=>?_) (fun G A' hc=>hc c (by rw[zZ];exact List.mem_singleton.2 rfl)) e
       show v=_
       rw[hv,if_neg (by rw[hp];decide),zZ];rfl
      cases h
    cases h
   cases h
  cases h
 cases h
theorem Ks (H:cv o n A S F s r a w){op:Oper}{c:Call}{t:TypeId}{x:Operand}{p:Sy}{out:Out}(ho:op.op= .call c)(jq:c.callee= .builtin .len)(dD:c.args.toList=[x])(pQ:c.argTypes.toList=[t])(hx:a.eval x=p.den A)
  (h:(MV P t p).run s r=some out) {K:Act->World->Prop} {Q:Exit->Act->World->Prop} (k:∀v w',eY o n F s r a out v w'->K (a.put op.dst v) w'):op.wp P a w K Q:=by
 have ha:c.args= #[x]:=by apply Array.ext';exact dD
 have hb:c.argTypes= #[t]:=by apply Array.ext';exact pQ
 unfold MV at h
 split at h
 .rename_i kt et j hu
  obtain⟨R,hR,h⟩:=aY h
  split at h
  .rename_i kc ty mm zL
   obtain⟨hk,h⟩:=ax h
   have hk:=gd hk
   have e:=bN h
   subst e
   have hx:a.eval x= .map (A.m j):=hx
   have bY:(Builtin.len_ #[t] op.type #[.map (A.m j)]).run P w= .ok (.int .i64 ((show List (bL kc×El ty) from mm).length:Int)) w:=by
    rcases DY H hR zL with⟨h1,h2⟩|⟨dM,zs,h1,h2,h3,h4⟩
    .subst h2;rw[h1];exact Maps.len_nil hu op.type
    have:=h2.len hu hk op.type
    rw[h1,this,h3]
    simp only[List.length_map]
   have e2:(execOp a.eval op).run P w= .ok (.value (.int .i64 ((show List (bL kc×El ty) from mm).length:Int))) w:=by
    unfold execOp
    simp only[ho,resolve,jq,ha,hb,invoke,builtin,Sem.run_bind,Sem.run_pure,Result.andThen_ok,List.map_toArray,List.map_cons,List.map_nil,hx,bY]
   exact bH e2 (k _ _ ⟨A,S,H.agree (cR.refl _ _) fun _ q=>.inl q,rfl,tv,tv⟩)
  cases h
 cases h
theorem cv.aaO (H:cv o n A S F s r a w)(hF:¬F b){kc:Kc}{ty:Ty}{kt:TypeId}(hk:P.underlying kt=some (iz kc)):
  cv o n (A.aQ b (some w.heap.size)) S (FU F [(b,some (.map kc ty ([]:List (bL kc×El ty))))]) s (aQ r [(b,some (.map kc ty ([]:List (bL kc×El ty))))]) a (w.alloc (.map #[] 0)):=by
 have H1:=H.agree (cR.aQ (A:=A) hF (some w.heap.size)) (G:=FU F [(b,some (.map kc ty ([]:List (bL kc×El ty))))]) fun j h=>.inl h
 refine cv.mV H1 b _ (fun z hz=>?_) (fun z e=>by cases e;trivial) (H1.bB.Ms b _ _ ⟨w.heap.size,by rw[bF.xN],[],de.new w hk,rfl,fun _ q=>by cases q⟩ fun q hq=>?_)
 .cases hz
  exact⟨.inr ⟨_,List.mem_singleton.2 rfl⟩,tv,tv⟩
 have hq:(A.aQ b (some w.heap.size)).m b=some q:=hq
 rw[bF.xN] at hq;cases hq;rfl
theorem Gt {B:Nat}(H:cv o n A S F s r a w)(hF:∀j,b<=j->j<B->¬F j){op:Oper}{t:TypeId}{x:Option Operand}{out:Out}(ho:op.op= .makeMap t x)(hx:∀y,x=some y->∃k m,a.eval y= .int k m)
  (h:(x6 P b t).run s r=some out) (hB:∀p∈out.re,p.1<B) {K:Act->World->Prop} {Q:Exit->Act->World->Prop} (k:∀v w',eY o n F s r a out v w'->K (a.put op.dst v) w'):op.wp P a w K Q:=by
 unfold x6 at h
 split at h
 .rename_i kt et kc ty hu hc
  obtain⟨hk,h⟩:=ax h
  have hk:=gd hk
  have e:=aW h
  subst e
  have e2:(execOp a.eval op).run P w= .ok (.value (.map (some w.heap.size))) (w.alloc (.map #[] 0)):=by
   cases x with
   |none=>
    simp only[execOp,ho,Sem.run_bind,Option.map_none,run_makeMap]
    rfl
   |some y=>
    obtain⟨ik,m,hy⟩:=hx y rfl
    simp[execOp,ho,Sem.run_bind,Option.map_some,hy,Instr.makeMap,run_underlying hu,asInt,asIntOf,newObj,Result.andThen,Sem.run,Sem.run_pure]
  have H2:=H.aaO (hF b (Nat.le_refl _) (hB _ (List.mem_singleton.2 rfl))) (ty:=ty) hk
  refine bH e2 (k _ _ ⟨_,S,H2,?_,.inr ⟨_,List.mem_singleton.2 rfl⟩,tv⟩)
  show _=Value.map ((A.aQ b (some w.heap.size)).m b)
  rw[bF.xN]
 cases h
theorem cv.Ui (H:cv o n A S F s r a w){j:Nat}{kc:Kc}{ty:Ty}{m m':bh kc (El ty)}(hj:r j=some (.map kc ty m)){dM:Nat}(hb:A.m j=some dM)(hG:w.grownBy w' (some dM))(hm:mz S w' dM m'):
  cv o n A S F s (jg r j (some (.map kc ty m'))) a w':=by
 have fE:bw A r j=some (rU (A.m j) m):=by show(r j).map _=_;rw[hj];rfl
 have hg:jZ w w' (rU (A.m j) m).has:=⟨hG.os,hG.tape,hG.output,hG.size,fun k hk hn=>hG.block k hk fun e=>hn (by show A.m j=some k;rw[hb,<-e])⟩
 have hf1:=H.bB.mut j fE hg
 have iY:=H.bB.own j _ dM fE hb
 have Ys:=hf1.put j (rU (A.m j) m') ⟨dM,hb,hm⟩ (fun b' mX=>by
  have mX:A.m j=some b':=mX
  rw[hb] at mX;cases mX
  refine⟨iY.1,Nat.lt_of_lt_of_le iY.2.1 hG.size,iY.2.2,fun i ri hi MY e=>?_⟩
  unfold eX at MY
  rw[if_neg hi] at MY
  exact hi (H.bB.apart i j ri _ dM MY fE e hb))
 have D6:eX (eX (bw A r) j none) j (some (rU (A.m j) m'))=eX (bw A r) j (some (rU (A.m j) m')):=by
  funext i;unfold eX;split<;>rfl
 rw[D6] at Ys
 exact cv.mV H j (some (.map kc ty m')) (fun z pE=>by cases pE;exact⟨(H.dB j _ hj).1,tv,tv⟩) (fun z e=>by cases e;trivial) Ys
theorem Kt (H:cv o n A S F s r a w){op:Oper}{t:TypeId}{m x y:Operand}{p q z:Sy}{out:Out}(ho:op.op= .mapUpdate t m x y\/op.op= .insert t m x y)(jr:True)(hm:a.eval m=p.den A)(hx:a.eval x=q.den A)(hy:a.eval y=z.den A)
  (h:(xP P t p q z).run s r=some out) (cE:∀p∈out.cs,p) {K:Act->World->Prop} {Q:Exit->Act->World->Prop} (k:∀v w',eY o n F s r a out v w'->K (a.put op.dst v) w'):op.wp P a w K Q:=by
 unfold xP at h
 split at h
 .rename_i kt et j hu
  obtain⟨R,hR,h⟩:=aY h
  split at h
  .rename_i kc ty mm
   split at h
   .rename_i kx MW
    obtain⟨hk,h⟩:=ax h
    have hk:=gd hk
    obtain⟨re,hz,hl,h⟩:=mD _ _ h
    obtain⟨S',hS,H'⟩:=H.freeze hz
    obtain⟨zX,h⟩:=ax h
    obtain⟨d,hd,h⟩:=iP (ni H hz hS H' hl) h
    have e:=aW h
    subst e
    have hq:q.den A=fP kc kx:=nj MW
    have hm:a.eval m= .map (A.m j):=hm
    have hw:cA kc kx:=cE _ List.mem_cons_self
    have hlen:(show List (bL kc×El ty) from mm).length<=2147483647:=cE _ (List.mem_cons_of_mem _ List.mem_cons_self)
    have Kg:aQ r re j=some (.map kc ty mm):=by
     have key:∀l:List (Nat×Option R2),(l.all fun p=>!Nat.beq p.1 j)=true->aQ r l j=r j:=by
      intro l
      induction l with
      |nil=>intro _;rfl
      |cons p l ih=>
       intro hl
       rw[List.all_cons,Bool.and_eq_true] at hl
       have cO:p.1≠j:=fun e=>by have:=hl.1;rw[e,Nat.beq_refl] at this;cases this
       show jg (aQ r l) p.1 p.2 j=_
       rw[cS cO];exact ih hl.2
     rw[key re zX];exact hR
    have fE:bw A (aQ r re) j=some (rU (A.m j) mm):=by show(aQ r re j).map _=_;rw[Kg];rfl
    obtain⟨dM,hb,zs,h2,h3,h4⟩:=H'.bB.ok j _ fE
    obtain⟨w',bY,LJ,hG,_⟩:=h2.put hu hk (by rw[List.length_map];rw[h3] at hlen;simpa using hlen) hw (z.den A)
    have x9:(execOp a.eval op).run P w= .ok .skip w':=by
     rcases ho with ho|ho<;>(simp only[execOp,ho,Sem.run_bind,hm,hx,hy,hq,hb,bY];rfl)
    unfold Oper.wp
    rw[x9]
    refine k undef _ ?_
    have rV:cK S' w w':=fun q hq=>hG.block q (H'.bB.iI q hq) fun e=>by cases e;exact(H'.bB.own j _ dM fE hb).2.2 hq
    have H2:=H'.Ui Kg hb hG (m':=gD mm kx d) ⟨gD zs kx (z.den A,d),by rw[jQ (fun y:Value×El ty=>y.1)];exact LJ,by rw[jQ (fun y:Value×El ty=>y.2),h3],fun y hy=>by
     rcases pS.1 hy with rfl|⟨hy,_⟩
     .exact hd.keep rV
     exact(h4 y hy).keep rV⟩
    exact⟨A,S',H2.agree (cR.refl _ _) fun _ q=>.inl q,rfl,tv,tv⟩
   cases h
  cases h
 cases h
theorem Gu (H:cv o n A S F s r a w){op:Oper}{c:Call}{t Dv:TypeId}{x y:Operand}{p q:Sy}{out:Out}(ho:op.op= .call c)(jq:c.callee= .builtin .delete)(dD:c.args.toList=[x,y])(pQ:c.argTypes.toList=[t,Dv])
  (hx:a.eval x=p.den A) (hy:a.eval y=q.den A) (h:(MU P t Dv p q).run s r=some out) (cE:∀p∈out.cs,p) {K:Act->World->Prop} {Q:Exit->Act->World->Prop} (k:∀v w',eY o n F s r a out v w'->K (a.put op.dst v) w'):op.wp P a w K Q:=by
 have ha:c.args= #[x,y]:=by apply Array.ext';exact dD
 have Yt:c.argTypes= #[t,Dv]:=by apply Array.ext';exact pQ
 unfold MU at h
 split at h
 .rename_i kt et j hu
  obtain⟨R,hR,h⟩:=aY h
  split at h
  .rename_i kc ty mm
   split at h
   .rename_i kx MW
    obtain⟨hg,h2⟩:=ax h
    clear h
    rw[Bool.and_eq_true] at hg
    have hk:=gd hg.1
    have hkt:=b6 hg.2
    subst hkt
    have e:=aW h2
    subst e
    have hq:q.den A=fP kc kx:=nj MW
    have hx:a.eval x= .map (A.m j):=hx
    have hw:cA kc kx:=cE _ List.mem_cons_self
    have fE:bw A r j=some (rU (A.m j) mm):=by show(r j).map _=_;rw[hR];rfl
    obtain⟨dM,hb,zs,h6,h3,h4⟩:=H.bB.ok j _ fE
    obtain⟨w',bY,LJ,hG⟩:=h6.drop hu hk hw op.type
    have e2:(execOp a.eval op).run P w= .ok (.value (.tuple #[])) w':=by
     unfold execOp
     simp only[ho,resolve,jq,ha,Yt,invoke,builtin,Sem.run_bind,Sem.run_pure,Result.andThen_ok,List.map_toArray,List.map_cons,List.map_nil,hx,hy,hq,hb,bY]
    have rV:cK S w w':=fun q hq=>hG.block q (H.bB.iI q hq) fun e=>by cases e;exact(H.bB.own j _ dM fE hb).2.2 hq
    have H2:=H.Ui hR hb hG (m':=lU mm kx) ⟨lU zs kx,by rw[xF (fun y:Value×El ty=>y.1)];exact LJ,by rw[xF (fun y:Value×El ty=>y.2),h3],fun y hy=>(h4 y (List.mem_filter.1 hy).1).keep rV⟩
    exact bH e2 (k _ _ ⟨A,S,H2.agree (cR.refl _ _) fun _ q=>.inl q,rfl,(fun _ q=>by cases q),(fun _ q=>by cases q)⟩)
   cases h
  cases h
 cases h
end
section
variable {P:Program}{w w':World}{t tx ty e:TypeId}{size bytes:Nat}{v:Value}{n:Nat}{xs:List Value}
theorem mO {α:Type}(cur us:List α)(a c n:Nat)(h:a+n<=cur.length)(hc:c+us.length<=n):
  ((cur.take (a+c)++us++cur.drop (a+c+us.length)).drop a).take n=((cur.drop a).take n).take c++us++((cur.drop a).take n).drop (c+us.length):=by
 apply List.ext_getElem?
 intro j
 simp only[List.getElem?_take,List.getElem?_drop,List.getElem?_append,List.length_append,List.length_take,List.length_drop]
 repeat' split
 all_goals first|rfl|omega|(congr 1;omega)|(exfalso;omega)|(symm;apply List.getElem?_eq_none;omega)|(apply List.getElem?_eq_none;omega)
theorem Is (E:L8 P t e size bytes)(hd:gw w e size v n xs){x:Value}{m:Nat}{news:List Value}(hs:Src P size tx x m news w)(h63:n+m<=maxLen)(MZ:(n+m)*bytes<=140737488355328):
  ∃v' w',(Builtin.append_ #[t,tx] ty #[v,x]).run P w= .ok v' w'/\gw w' e size v' (n+m) (xs++news)/\w.grownBy w' v.ownBlock/\(∀b,v'.ownBlock=some b->v.ownBlock=some b\/(w.heap.size<=b/\b<w'.heap.size)):=by
 obtain⟨i,z,hi,hz,M0,Ku,Xz⟩:=E.info
 subst M0
 subst Ku
 have hlen:(xs++news).length=(n+m)*i.size:=by rw[List.length_append,hd.1,hs.newsLen,Nat.add_mul]
 have abT:n+m<=9223372036854775807:=by simp only[maxLen] at h63;omega
 have grown:∀(old:Nat),old<n+m->∀row:Option Nat,
   gw (w.drew.alloc (.cells ((xs++news).toArray++Builtin.zeroCells z.cells (grownCap w (n+m) old e-(n+m))) e)) e i.size (.slice (some ⟨w.heap.size,0,none⟩) (n+m) (grownCap w (n+m) old e)) (n+m) (xs++news)/\
   w.grownBy (w.drew.alloc (.cells ((xs++news).toArray++Builtin.zeroCells z.cells (grownCap w (n+m) old e-(n+m))) e)) row:=by
  intro old ho row
  have AL:=grownCap_ge w (n+m) old e
  have rQ:grownCap w (n+m) old e<=maxLen:=grownCap_le_maxLen w (n+m) old e h63
  refine⟨⟨hlen,.inr ⟨w.heap.size,0,_,_,by rw[Nat.zero_mul],heap_alloc_new w.drew _,AL,rQ,?_,?_⟩⟩,⟨rfl,rfl,rfl,by simp,fun k hk _=>heap_alloc_old w.drew _ hk⟩⟩
  .rw[Array.size_append,List.size_toArray,size_zeroCells,Xz,hlen,<-Nat.add_mul]
   exact Nat.mul_le_mul_right _ (by omega)
  rw[Nat.zero_mul,List.drop_zero,Array.toList_append,<-hlen]
  exact List.take_left
 rcases hd.2 with⟨rfl,rfl⟩|⟨g,d,cap,cur,rfl,hg,J4,rQ,cE,kq⟩
 .have hx:xs=[]:=List.eq_nil_of_length_eq_zero (by simpa using hd.1)
  subst hx
  by_cases hm:m=0
  .subst hm
   have hn:news=[]:=List.eq_nil_of_length_eq_zero (by simpa using hs.newsLen)
   subst hn
   refine⟨.slice none 0 0,w,?_,gw.nil w e i.size,⟨rfl,rfl,rfl,Nat.le_refl _,fun _ _ _=>rfl⟩,fun b q=>by cases q⟩
   have hc:=hs.cells
   rcases hs.kind with⟨e',hk⟩|hk<;>simp[Builtin.append_,run_underlying E.under,run_underlying hk,sizeOf,typeInfo,hi,hs.len,hc]
  have hr:=run_append_grow_src (P:=P) w t tx ty e i z E.under hi hz none 0 0 [] (run_firstCells_none w.drew i.size 0 0 0) x m news hs (by omega) (by omega) (growslice_fits (by omega) MZ)
  have XA:=grown 0 (by omega) none
  rw[List.nil_append] at XA ⊢
  exact⟨_,_,hr,XA.1,XA.2,fun b q=>by cases q;exact .inr ⟨Nat.le_refl _,by simp⟩⟩
 by_cases Uj:n+m<=cap
 .have Vt:d*i.size+n*i.size+news.length<=cur.size:=by
   rw[hs.newsLen,Nat.add_assoc,<-Nat.add_mul,<-Nat.add_mul]
   exact Nat.le_trans (Nat.mul_le_mul_right _ (by omega)) cE
  have uB:=run_storeCells_at P g (d*i.size+n*i.size) e news 0 cur w hg (by simpa using Vt) hs.one
  simp only[Nat.add_zero] at uB
  have hr:(Builtin.append_ #[t,tx] ty #[.slice (some ⟨g,d*i.size,none⟩) n cap,x]).run P w= .ok (.slice (some ⟨g,d*i.size,none⟩) (n+m) cap) (w.setRow g (cur.toList.take (d*i.size+n*i.size)++news++cur.toList.drop (d*i.size+n*i.size+news.length)).toArray):=by
   rcases hs.kind with⟨e',hk⟩|hk<;>simp[Builtin.append_,run_underlying E.under,run_underlying hk,sizeOf,typeInfo,hi,hs.len,Uj,hs.cells,Addr.add_lit,uB]
  refine⟨_,_,hr,⟨hlen,.inr ⟨g,d,cap,_,rfl,setRow_heap w g cur _ e _ hg,Uj,rQ,?_,?_⟩⟩,⟨rfl,rfl,rfl,by simp,fun k _ hk=>setRow_other w g k _ (fun e=>hk (by simp[Value.ownBlock,e]))⟩,fun b q=>.inl q⟩
  .simp only[List.size_toArray,List.length_append,List.length_take,List.length_drop,Array.length_toList]
   omega
  have:=mO cur.toList news (d*i.size) (n*i.size) ((n+m)*i.size) (by rw[Array.length_toList,<-Nat.add_mul];exact Nat.le_trans (Nat.mul_le_mul_right _ (by omega)) cE) (by rw[hs.newsLen,<-Nat.add_mul];exact Nat.le_refl _)
  have e1:((cur.toList.drop (d*i.size)).take ((n+m)*i.size)).drop (n*i.size+news.length)=[]:=List.drop_of_length_le (by rw[List.length_take,hs.newsLen,<-Nat.add_mul];exact Nat.min_le_left _ _)
  rw[this,e1,List.append_nil,List.take_take,Nat.min_eq_left (by rw[Nat.add_mul];omega),kq]
 have hold:(Builtin.firstCells i.size n (.slice (some ⟨g,d*i.size,none⟩) n cap)).run P w.drew= .ok xs.toArray w.drew:=by
  refine run_firstCells_some w.drew i.size n ⟨g,d*i.size,none⟩ n cap xs hd.1 fun j u hu=>?_
  have this:w.cell? ⟨g,d*i.size+j,none⟩=some u:=hd.cell hu
  have jx:(⟨g,d*i.size,none⟩:Addr).add j=⟨g,d*i.size+j,none⟩:=Addr.add_lit _ _ _
  rw[jx]
  simpa using this
 have hr:=run_append_grow_src (P:=P) w t tx ty e i z E.under hi hz (some ⟨g,d*i.size,none⟩) n cap xs hold x m news hs (by omega) (by omega) (growslice_fits (by omega) MZ)
 have XA:=grown cap (by omega) (Value.ownBlock (.slice (some ⟨g,d*i.size,none⟩) n cap))
 exact⟨_,_,hr,XA.1,XA.2,fun b q=>by cases q;exact .inr ⟨Nat.le_refl _,by simp⟩⟩
theorem M3 (hd:gw w e size v n xs){c:Nat}{us:List Value}{u:Value}(Yu:u.cells.toList=us)(hc:c+us.length<=n*size)(hp:0<us.length)(dc:(P.info? t).map (·.size)=some us.length)(h1:∀v∈us,v.oneCell'=true):
  ∃w',(Instr.storeAt t (.pointer (some ⟨Ar v,As v+c,none⟩)) u).run P w= .ok () w'/\gw w' e size v n (xs.take c++us++xs.drop (c+us.length))/\w.grownBy w' v.ownBlock/\w'.heap.size=w.heap.size:=by
 rcases hd.2 with⟨_,rfl⟩|⟨g,d,cap,cur,rfl,hg,J4,rQ,cE,kq⟩
 .rw[Nat.zero_mul] at hc;omega
 have Vt:d*size+n*size<=cur.size:=by rw[<-Nat.add_mul];exact Nat.le_trans (Nat.mul_le_mul_right _ (by omega)) cE
 have bY:=oW (P:=P) w t e g (d*size+c) cur.toList us u (by simpa using hg) Yu (by have:cur.toList.length=cur.size:=Array.length_toList;omega) dc h1
 refine⟨_,bY,⟨?_,.inr ⟨g,d,cap,_,rfl,setRow_heap w g cur _ e _ hg,J4,rQ,?_,?_⟩⟩,⟨rfl,rfl,rfl,by simp,fun k _ hk=>setRow_other w g k _ (fun e=>hk (by simp[Value.ownBlock,e]))⟩,by simp⟩
 .rw[List.length_append,List.length_append,List.length_take,List.length_drop,hd.1];omega
 .simp only[List.size_toArray,List.length_append,List.length_take,List.length_drop,Array.length_toList]
  omega
 have:=mO cur.toList us (d*size) c (n*size) (by rw[Array.length_toList];exact Vt) hc
 rw[kq] at this
 exact this
theorem Ro (z:Array Value)(k i j:Nat)(hj:j<z.size)(hi:i<k):(madeCells z (k*z.size))[i*z.size+j]?=z[j]?:=by
 have iL:i*z.size+j<k*z.size:=by
  have:=Nat.mul_le_mul_right z.size (show i+1<=k from hi)
  rw[Nat.succ_mul] at this;omega
 unfold madeCells
 rw[Array.getElem?_map,Array.getElem?_range,if_pos iL]
 simp only[Option.map_some]
 have:(i*z.size+j)%z.size=j:=by
  rw[Nat.add_comm,Nat.add_mul_mod_self_right];exact Nat.mod_eq_of_lt hj
 rw[this,getElem!_pos z j hj,Array.getElem?_eq_getElem hj]
theorem Rp (E:L8 P t e size bytes){kl kc:IntKind}{l c:Int}(h0:0<=l)(XB:l<=c)(hb:bytes<=1000)(hc:c<=2147483647):
  ∃w' z,(P.info? e).bind (·.zero)=some z/\z.cells.size=size/\(Instr.makeSlice t (.int kl l) (.int kc c)).run P w= .ok (.slice (some ⟨w.heap.size,0,none⟩) l.toNat c.toNat) w'/\w'=w.alloc (.cells (madeCells z.cells (c.toNat*size)) e)/\
   gw w' e size (.slice (some ⟨w.heap.size,0,none⟩) l.toNat c.toNat) l.toNat ((madeCells z.cells (c.toNat*size)).toList.take (l.toNat*size)):=by
 obtain⟨i,z,hi,hz,M0,Ku,Xz⟩:=E.info
 subst M0
 subst Ku
 have M4:(i.bytes:Int)*c<=281474976710656:=by
  have h2:(i.bytes:Int)*c<=1000*2147483647:=Int.mul_le_mul (by omega) hc (by omega) (by omega)
  omega
 have hr:=run_make (P:=P) w t e i z E.under hi hz kl kc l c h0 XB M4 (by omega)
 refine⟨_,z,by rw[hi];exact hz,Xz,hr,rfl,⟨?_,.inr ⟨w.heap.size,0,c.toNat,_,by rw[Nat.zero_mul],heap_alloc_new w _,by omega,by simp only[maxLen];omega,?_,by rw[Nat.zero_mul,List.drop_zero]⟩⟩⟩
 .rw[List.length_take,Array.length_toList,size_madeCells]
  exact Nat.min_eq_left (Nat.mul_le_mul_right _ (by omega))
 rw[size_madeCells,Nat.zero_add];exact Nat.le_refl _
theorem M5 {S:aL}{ty:Ty}{x0:El ty}{z:Array Value}{l c:Nat}(XB:l<=c)(hz:Data.rd S w z.toList x0):cw S w ((madeCells z (c*z.size)).toList.take (l*z.size)) (List.replicate l x0):=by
 have dc:Data.size (El ty)=z.size:=by rw[<-Data.len hz,Array.length_toList]
 refine⟨?_,fun i hi=>?_⟩
 .rw[List.length_take,Array.length_toList,size_madeCells,List.length_replicate,dc]
  exact Nat.min_eq_left (Nat.mul_le_mul_right _ XB)
 rw[List.length_replicate] at hi
 have e:(((madeCells z (c*z.size)).toList.take (l*z.size)).drop (i*Data.size (El ty))).take (Data.size (El ty))=z.toList:=by
  apply List.ext_getElem?
  intro j
  rw[dc,List.getElem?_take]
  by_cases hj:j<z.size
  .have iL:i*z.size+j<l*z.size:=by
    have:=Nat.mul_le_mul_right z.size (show i+1<=l from hi)
    rw[Nat.succ_mul] at this;omega
   rw[if_pos hj,List.getElem?_drop,List.getElem?_take,if_pos iL,Array.getElem?_toList,Ro z c i j hj (by omega),Array.getElem?_toList]
  rw[if_neg hj,List.getElem?_eq_none (by rw[Array.length_toList];omega)]
 rw[e,List.getElem_replicate]
 exact hz
theorem Cm {p:Option Addr}{cap:Nat}(hd:gw w e size (.slice p n cap) n xs){lo hi m:Nat}(h1:lo<=hi)(h2:hi<=n)(h3:hi<=m)(h4:m<=cap):
  gw w e size (sliced p lo hi m size) (hi-lo) ((xs.drop (lo*size)).take ((hi-lo)*size))/\∀b,(sliced p lo hi m size).ownBlock=some b->(Value.slice p n cap).ownBlock=some b:=by
 have hlen:((xs.drop (lo*size)).take ((hi-lo)*size)).length=(hi-lo)*size:=by
  rw[List.length_take,List.length_drop,hd.1,<-Nat.sub_mul]
  exact Nat.min_eq_left (Nat.mul_le_mul_right _ (by omega))
 rcases hd.2 with⟨hv,rfl⟩|⟨g,d,abU,cur,hv,hg,J4,rQ,cE,kq⟩
 .cases hv
  have e1:lo=0:=by omega
  have e2:hi=0:=by omega
  have e3:m=0:=by omega
  subst e1;subst e2;subst e3
  exact⟨⟨hlen,.inl ⟨rfl,rfl⟩⟩,fun b q=>by cases q⟩
 cases hv
 by_cases q:m=lo
 .subst q
  have e2:hi=m:=by omega
  subst e2
  refine⟨⟨hlen,.inr ⟨g,d,0,cur,by simp[sliced],hg,by omega,by simp[maxLen],?_,?_⟩⟩,fun b q=>by simpa[sliced,Value.ownBlock] using q⟩
  .exact Nat.le_trans (Nat.mul_le_mul_right _ (by omega)) cE
  simp
 refine⟨⟨hlen,.inr ⟨g,d+lo,m-lo,cur,by simp[sliced,q,Addr.add_lit,Nat.add_mul],hg,by omega,by omega,?_,?_⟩⟩,fun b z=>by simpa[sliced,q,Addr.add_lit,Value.ownBlock] using z⟩
 .exact Nat.le_trans (Nat.mul_le_mul_right _ (by omega)) cE
 rw[<-kq,List.drop_take,List.take_take,List.drop_drop,Nat.add_mul,Nat.min_eq_left ?_]
 rw[<-Nat.sub_mul]
 exact Nat.mul_le_mul_right _ (by omega)
end
def oh:Ty->Bool
 | .int=>true
 | .bool=>true
 | .str=>true
 | .pair a b=>oh a && oh b
 |_=>false
structure HdI where
 t:Ty
 ie:TypeId
 l:List (El t)
 p:List Prop
 z:R2
def Yv (q:Nat):Hx->R2->Option HdI
 | .el i sz off,.ext (.nest q' none e t ie l)=>match Nat.beq q' q && Nat.beq (aF t) sz with
  |true=>match(bl t (l.getD i.toNat (sr t)))[off]? with
   |some (.l t' l')=>some ⟨t',ie,l',[bX i l.length],.ext (.nest q (some (i.toNat*sz+off)) e t ie l)⟩
   |_=>none
  |false=>none
 | .ky .int x,.ext (.ff q' .int none t ie m)=>match Nat.beq q' q with
  |true=>some ⟨t,ie,(aG (show List (bL .int×List (El t)) from m) x).getD [],[],.ext (.ff q .int (some x) t ie m)⟩
  |false=>none
 | .ky .str x,.ext (.ff q' .str none t ie m)=>match Nat.beq q' q with
  |true=>some ⟨t,ie,(aG (show List (bL .str×List (El t)) from m) x).getD [],[],.ext (.ff q .str (some x) t ie m)⟩
  |false=>none
 |_,_=>none
def Kv (ty:Ty)(k:List Prop->List (El ty)->Tr Out):Sy->Tr Out
 | .one (.own q)=>.res q fun y=>match iu y with
  |some ⟨t',m⟩=>match iN (t:=.list t') (s:=.list ty) m with
   |some m'=>bg (gx y||oh ty) (k [] m')
   |none=>.fail
  |none=>.fail
 | .one (.hd p q x)=>.res p fun y=>match Yv q x y with
  |some I=>match iN (t:=.list I.t) (s:=.list ty) I.l with
   |some m'=>bg (oh ty) (k I.p m')
   |none=>.fail
  |none=>.fail
 | .one (.v (.slice none 0 0))=>k [] []
 |_=>.fail
def Iu (k:Ty->Tr Out):Sy->Tr Out
 | .one (.own q)=>.res q fun y=>match iu y with
  |some ⟨t',_⟩=>k t'
  |none=>.fail
 | .one (.hd p q x)=>.res p fun y=>match Yv q x y with
  |some I=>k I.t
  |none=>.fail
 |_=>.fail
def aaP:R2->Bool
 | .ext (.nest _ none _ _ _ _)=>true
 |_=>false
def Gv (P:Program)(b t:Nat)(ty:Ty)(e:TypeId)(l:List (El ty))(ps:List Prop)(old:List (Nat×Option R2))(q:Sy):Tr Out:=
 Kv ty (fun qs m=>bg (gB P t e (Im ty)) (.ret ⟨(l.length+m.length<=2147483647)::(ps++qs),[],.one (.own b),(b,some (.row e ty (l++m)))::old⟩)) q
def Vu (P:Program)(b t:Nat)(p q:Sy):Tr Out:=
 match p with
 | .one (.v (.slice none 0 0))=>match q with
  | .one (.own i)=>.res i fun y=>match y with
   | .ext (.nest _ none e ty ie m)=>bg (gB P t e (Im ty)) (.ret ⟨[m.length<=2147483647],[],.one (.own b),[(b,some (.ext (.nest b none e ty ie m))),(i,none)]⟩)
   |_=>Iu (fun ty=>Gv P b t ty (P.elem t) [] [] [] q) q
  |q=>Iu (fun ty=>Gv P b t ty (P.elem t) [] [] [] q) q
 | .one (.own j)=>.res j fun x=>match x with
  | .row e ty l=>Gv P b t ty e l [] [(j,none)] q
  | .ext (.nest _ none e ty ie l)=>match q with
   | .one (.own i)=>.res i fun y=>match y with
    | .ext (.nest _ none _ AM Gw m)=>match iN (t:=.list AM) (s:=.list ty) m with
     |some m'=>bg (gB P t e (Im ty) && (Nat.beq Gw ie && !Nat.beq j i)) (.ret ⟨[l.length+(show List (El ty) from m').length<=2147483647],[],.one (.own b),[(b,some (.ext (.nest b none e ty ie (l++(show List (El ty) from m'))))),(j,none),(i,none)]⟩)
     |none=>.fail
    |_=>.fail
   |_=>.fail
  |_=>.fail
 | .one (.hd j qf hx)=>.res j fun y=>match Yv qf hx y with
  |some I=>Gv P b t I.t I.ie I.l I.p [(j,some I.z)] q
  |none=>.fail
 |_=>.fail
def Co {t':Ty}(t:Ty)(off:Nat)(v:El t'):Option (El t):=match off with
 |0=>iN (t:=t') (s:=t) v
 |_=>none
def setAt:(t:Ty)->Nat->(t':Ty)->El t'->El t->Option (El t)
 | .pair a b,off,t',v,x=>match Co (.pair a b) off v with
  |some y=>some y
  |none=>match Nat.blt off (aF a) with
   |true=>(setAt a off t' v x.1).map fun y=>(y,x.2)
   |false=>(setAt b (off-aF a) t' v x.2).map fun y=>(x.1,y)
 |t,off,t',v,_=>Co t off v
def Iv (P:Program)(cell:Option l6)(ie:TypeId)(k:(t':Ty)->El t'->List Nat->Tr Out):Sy->Tr Out
 | .one (.own i)=>.res i fun z=>match z with
  | .row Gw ty m=>bg (Nat.beq Gw ie) (k (.list ty) m [i])
  |_=>.fail
 | .one (.v (.slice none 0 0))=>match cell with
  |some (.l ty _)=>k (.list ty) ([]:List (El ty)) []
  |_=>.fail
 | .one (.v (.int .i64 n))=>k .int (show Int from n) []
 | .one (.b e)=>k .bool (show Bool from e.den) []
 | .one (.v (.string s))=>k .str (show ByteArray from s) []
 |_=>.fail
def AN (h:Option Nat)(c:Nat):Prop:=match h with
 |none=>True
 |some c'=>c'=c
def D7 (P:Program)(b:Nat)(t:TypeId)(j:Nat)(i:Int)(sz off:Nat)(y:Sy):Tr Out:=
 .res j fun x=>match x with
 | .row e ty l=>match kV P 9 t with
  |some AM=>bg (Nat.beq (aF ty) sz && (Nat.beq (P.cellsOf t) (aF AM) && ((P.info? t).isSome && (aH y).all AJ)) && Nat.blt 0 (aF AM)) (ML (aH y) fun re=>bg (re.all fun p=>!Nat.beq p.1 j) (jC AM y fun v=>
   match setAt ty off AM v (l.getD i.toNat (sr ty)) with
   |some u=>.ret ⟨[bX i l.length],[],.one (.v undef),(j,some (.row e ty (l.set i.toNat u)))::re⟩
   |none=>.fail))
  |none=>.fail
 | .ext (.nest q h e ty ie l)=>Iv P ((bl ty (l.getD i.toNat (sr ty)))[off]?) ie (fun t' v ks=>match setAt ty off t' v (l.getD i.toNat (sr ty)) with
  |some u=>bg (Nat.beq (aF ty) sz && (Nat.beq (P.cellsOf t) 1 && (Nat.beq (aF t') 1 && ((P.info? t).isSome && ks.all fun k=>!Nat.beq k j))))
   (.ret ⟨[bX i l.length,AN h (i.toNat*sz+off)],[],.one (.v undef),(j,some (.ext (.nest b none e ty ie (l.set i.toNat u))))::(b,none)::ks.map fun k=>(k,none)⟩)
  |none=>.fail) y
 |_=>.fail
def Cq (P:Program)(b:Nat)(t:TypeId)(p y:Sy):Tr Out:=match p with
 | .one (.el j i sz off)=>D7 P b t j i sz off y
 |p=>storeT P t p y
def tA {k:Kc}(h:Option (bL k))(x:bL k):Prop:=match h with
 |none=>True
 |some y=>y=x
def Iw (P:Program)(b:Nat)(t:TypeId)(p q y:Sy):Tr Out:=
 match P.underlying t,p with
 |some (.map kt et),.one (.mp j)=>.res j fun r=>match r with
  | .ext (.ff _ k h ty ie m)=>match vE k q with
   |some x=>bg (mB P kt k) (match y with
    | .one (.own i)=>.res i fun z=>match z with
     | .row Gw AM l=>match iN (t:=.list AM) (s:=.list ty) l with
      |some l'=>bg (Nat.beq Gw ie && !Nat.beq i j) (.ret ⟨[cA k x,tA h x,(show List (bL k×List (El ty)) from m).length<=2147483647],[],.one (.v undef),[(j,some (.ext (.ff b k none ty ie (gD (show List (bL k×List (El ty)) from m) x (show List (El ty) from l'))))),(b,none),(i,none)]⟩)
      |none=>.fail
     |_=>.fail
    | .one (.v (.slice none 0 0))=>.ret ⟨[cA k x,tA h x,(show List (bL k×List (El ty)) from m).length<=2147483647],[],.one (.v undef),[(j,some (.ext (.ff b k none ty ie (gD (show List (bL k×List (El ty)) from m) x [])))),(b,none)]⟩
    |_=>.fail)
   |none=>.fail
  |_=>xP P t p q y
 |_,_=>.fail
def Yw (P:Program):Nat->TypeId->Option TypeId
 |0,_=>none
 |k+1,t=>match P.underlying t with
  |some (.slice e)=>some e
  |some (.struct fs)=>fs.toList.findSome? fun f=>Yw P k f.type
  |_=>none
def qN (P:Program)(md:Bool)(b:Nat)(t:TypeId):Tr Out:=match md with
 |false=>x6 P b t
 |true=>match P.underlying t,kV P 9 t with
  |some (.map kt et),some (.map k (.list ty))=>match P.underlying et with
   |some (.slice ie)=>bg (mB P kt k) (.ret ⟨[],[],.one (.mp b),[(b,some (.ext (.ff b k none ty ie ([]:List (bL k×List (El ty))))))]⟩)
   |_=>.fail
  |_,_=>.fail
def M6:l6->Sc->Bool
 | .l _ _,.v (.slice none 0 0)=>true
 | .i _,.v (.int .i64 _)=>true
 | .b _,.b _=>true
 | .s _,.v (.string _)=>true
 |_,_=>false
def D8 (ie:TypeId):List l6->List Sc->(List Prop->List Nat->Tr Out)->Tr Out
 |[],[],k=>k [] []
 |x::cs,c::l,k=>match c with
  | .own i=>match x with
   | .l t l'=>.res i fun z=>match z with
    | .row Gw ty m=>match iN (t:=.list ty) (s:=.list t) m with
     |some m'=>bg (Nat.beq Gw ie) (D8 ie cs l fun ps ks=>bg (ks.all fun q=>!Nat.beq i q) (k (((show List (El t) from m')=l')::ps) (i::ks)))
     |none=>.fail
    |_=>.fail
   |_=>.fail
  |c=>bg (M6 x c) (D8 ie cs l k)
 |_,_,_=>.fail
def M7 (P:Program)(md:Bool)(b t len:Nat)(is:List Nat)(ys:List Sy):Tr Out:=match md with
 |false=>Vp P b t len is ys
 |true=>match kV P 9 (P.elem t),Yw P 9 (P.elem t) with
  |some ty,some ie=>bg (Gq 0 is && (Nat.beq is.length len && Nat.beq ys.length len && gB P t (P.elem t) (Im ty)) && Nat.ble len 1000)
   (wI ty ys fun l=>D8 ie (gA ty l) (ys.flatMap aH) fun ps ks=>.ret ⟨ps,[x5 P t len (P.elem t) (is.zip ys) (ys.flatMap aH)],.one (.own b),(b,some (.ext (.nest b none (P.elem t) ty ie l)))::ks.map fun k=>(k,none)⟩)
  |_,_=>.fail
def uL:List Sy->Option (List (Nat×Nat))
 |[]=>some []
 | .one (.ptr j off)::l=>(uL l).map ((j,off):: ·)
 |_=>none
def ya {α:Type 1}(C:List (Nat×Bool)):Option Operand->(Option Int->Tr α)->Tr α
 |none,k=>k none
 |some x,k=>gV C x fun s=>match s with
  | .one (.v (.int .i64 n))=>k (some n)
  |_=>.fail
def Kw {α:Type}(l:List α):Option Int->Option Int->List α
 |none,none=>l
 |some lo,none=>l.drop lo.toNat
 |none,some hi=>l.take hi.toNat
 |some lo,some hi=>(l.take hi.toNat).drop lo.toNat
def sA (n:Nat):Option Int->Option Int->Prop
 |none,none=>True
 |some lo,none=>0<=lo/\lo<=(n:Int)
 |none,some hi=>0<=hi/\hi<=(n:Int)
 |some lo,some hi=>0<=lo/\lo<=hi/\hi<=(n:Int)
def yb (P:Program)(b:Nat)(t:TypeId)(lo hi:Option Int):Sy->Tr Out
 | .one (.own j)=>match P.underlying t with
  |some (.slice e)=>.res j fun x=>match x with
   | .row e' ty l=>bg (gB P t e' (aF ty)) (.ret ⟨[sA l.length lo hi],[],.one (.own b),[(b,some (.row e' ty (Kw l lo hi))),(j,none)]⟩)
   | .ro ty l=>bg (gB P t e (aF ty)) (.ret ⟨[sA l.length lo hi],[],.one (.own b),[(b,some (.ro ty (Kw l lo hi)))]⟩)
   | .ar ty l=>bg (gB P t e (aF ty)) (.ret ⟨[sA l.length lo hi],[],.one (.own b),[(b,some (.ar ty (Kw l lo hi)))]⟩)
   |_=>.fail
  |_=>.fail
 | .one (.v (.string s))=>match P.underlying t with
  |some .string=>.ret ⟨[sA s.size lo hi],[],.one (.v (.string (s.extract (lo.getD 0).toNat (hi.getD s.size).toNat))),[]⟩
  |_=>.fail
 | .one (.v (.slice none 0 0))=>match P.underlying t with
  |some (.slice e)=>bg (P.info? e).isSome (.ret ⟨[sA 0 lo hi],[],.one (.v (.slice none 0 0)),[]⟩)
  |_=>.fail
 |_=>.fail
def Vv (P:Program)(b:Nat)(t:TypeId)(p q:Sy):Tr Out:=match P.underlying t,p with
 |some (.map kt et),.one (.mp j)=>.res j fun R=>match R with
  | .map k .int m=>match vE k q with
   |some kx=>bg (mB P kt k) (.ret ⟨[cA k kx,(show List (bL k×Int) from m).length<=2147483647],[jf P et (.one (.v (.int .i64 0)))],.mU [(false,[.v (.int .i64 ((aG (show List (bL k×Int) from m) kx).getD 0))]),(false,[.hd j b (.ky k kx)])],[(j,some (.ext (.DS b k .int (gD (show List (bL k×Int) from m) kx ((aG (show List (bL k×Int) from m) kx).getD 0)) kx))),(b,none)]⟩)
   |none=>.fail
  |_=>.fail
 |_,_=>.fail
def Gx (P:Program)(t:TypeId)(p s v:Sy):Tr Out:=match P.underlying t,p,s,v with
 |some (.map kt et),.one (.mp j),.one (.hd _ q (.ky k kx)),.one (.v (.int .i64 n))=>.res j fun R=>match R with
  | .ext (.DS q' k' .int m QT)=>bg (mB P kt k' && Nat.beq q q') (.ret ⟨[cN k kx=cN k' QT,cA k' QT,(show List (bL k'×Int) from m).length<=2147483647],[],.one (.v undef),[(j,some (.map k' .int (gD (show List (bL k'×Int) from m) QT (show Int from n))))]⟩)
  |_=>.fail
 |_,_,_,_=>.fail
def M8 (P:Program)(b:Nat)(t:TypeId)(lo:Int):Sy->Tr Out
 | .one (.own j)=>match P.underlying t with
  |some (.slice _)=>.res j fun x=>match x with
   | .row e' ty l=>bg (gB P t e' (aF ty)) (.ret ⟨[0<=lo/\lo<=(l.length:Int)],[],.one (.own b),[(b,some (.ext (.vw j lo.toNat e' ty l))),(j,some (.ext (.fwd b)))]⟩)
   |_=>.fail
  |_=>.fail
 |_=>.fail
def Cr (P:Program)(b:Nat)(t:TypeId)(h m:Int):Sy->Tr Out
 | .one (.own j)=>match P.underlying t with
  |some (.slice e)=>.res j fun x=>match x with
   | .row e' ty l=>bg (gB P t e' (aF ty)) (.ret ⟨[0<=h/\h<=m/\m<=(l.length:Int)],[],.one (.own b),[(b,some (.row e' ty (l.take h.toNat))),(j,none)]⟩)
   | .ro ty l=>bg (gB P t e (aF ty)) (.ret ⟨[0<=h/\h<=m/\m<=(l.length:Int)],[],.one (.own b),[(b,some (.ro ty (l.take h.toNat)))]⟩)
   | .ar ty l=>bg (gB P t e (aF ty)) (.ret ⟨[0<=h/\h<=m/\m<=(l.length:Int)],[],.one (.own b),[(b,some (.ar ty (l.take h.toNat)))]⟩)
   | .ext (.fwd b')=>.res b' fun y=>match y with
    | .ext (.vw q _ e' ty l)=>bg (Nat.beq q j && gB P t e' (aF ty)) (.ret ⟨[0<=h/\h<=m/\m<=(l.length:Int)],[],.one (.own b),[(b,some (.row e' ty (l.take h.toNat))),(b',none),(j,none)]⟩)
    |_=>.fail
   |_=>.fail
  |_=>.fail
 |_=>.fail
def sB (P:Program)(b:Nat)(t:TypeId):Sy->Sy->Tr Out
 | .one (.v (.int .i64 l)),.one (.v (.int .i64 c))=>match kV P 9 (P.elem t),xQ P (P.elem t) with
  |some ty,some z=>bg (gB P t (P.elem t) (Im ty)) (jC ty z fun x0=>.ret ⟨[0<=l/\l<=c/\c<=2147483647],[],.one (.own b),[(b,some (.row (P.elem t) ty (List.replicate l.toNat x0)))]⟩)
  |_,_=>.fail
 |_,_=>.fail
def Gy (P:Program)(b:Nat)(t:TypeId):Sy->Tr Out
 | .one (.mp j)=>match P.underlying t with
  |some (.map kt et)=>ML [.mp j] fun re=>.res j fun x=>match Gi x with
   |some ⟨k,ty,m⟩=>bg (mB P kt k && gx x && (re.all fun p=>Nat.beq p.1 j)) (.ret ⟨[],[],.one (.ptr b 0),(b,some (.iter k ty m (fun x=>(aG (show List (bL k×El ty) from m) x).isSome) (show List (bL k×El ty) from m).length none))::re⟩)
   |none=>.fail
  |_=>.fail
 | .one (.v (.map none))=>match P.underlying t,kV P 9 t with
  |some (.map kt et),some (.map k ty)=>.ret ⟨[],[],.one (.ptr b 0),[(b,some (.iter k ty ([]:List (bL k×El ty)) (fun _=>false) 0 none))]⟩
  |_,_=>.fail
 |_=>.fail
def vJ:(k:Kc)->bL k->Sc
 | .int,x=>.v (.int .i64 (show Int from x))
 | .str,x=>.v (.string (show ByteArray from x))
def Gz (b:Nat):Sy->Tr Out
 | .one (.ptr j 0)=>.res j fun x=>match x with
  | .iter k ty _ _ _ (some e)=>.ret ⟨[],[],.mU [(false,[vJ k e.1]),(cG ty,(bA true b (bl ty e.2)).1)],(bA true b (bl ty e.2)).2⟩
  |_=>.fail
 |_=>.fail
def Uk:Sy->Sy->Tr Out
 | .one (.v (.int .i64 a)),.one (.v (.int .i64 b))=>o6 (0<b/\bR .i64 a) (.v (.int .i64 (a.tdiv b)))
 |_,_=>.fail
def XC (P:Program)(T:List (dy P))(C:List (Nat×Bool))(md:Bool)(b:Nat):Op->Tr Out
 | .box t x=>gV C x fun y=>.ret ⟨[],[MR P t y (aH y)],.one (.ptr b 0),[(b,some (.box t (aH y)))]⟩
 | .alloc t=>match P.info? t with
  |some i=>match i.zero with
   |some z=>.ret ⟨[],[D4 P t (z.cells.toList.map l7)],.one (.ptr b 0),[(b,some (.box t (z.cells.toList.map l7)))]⟩
   |none=>.fail
  |none=>.fail
 | .buildSlice t len parts=>Ki C (parts.toList.map (·.2)) fun ys=>M7 P md b t len (parts.toList.map (·.1)) ys
 | .store t x y=>gV C x fun p=>gV C y fun q=>Cq P b t p q
 | .build t parts=>Ki C (parts.toList.map (·.2)) fun ys=>MT P t ((parts.toList.map (·.1)).zip ys)
 | .call c=>match c.callee with
  | .value x=>gV C x fun p=>match p with
   | .one (.mA f cr)=>match T.find? (fun c=>Nat.beq c.f f) with
    |some Vr=>bg (((P.funcs[f]?).map (fun fn=>((fn.name== "runtime.NumGoroutine")||fn.body.isNone)))==some false) (Ki C c.args.toList fun ys=>Vr.tr b cr ys)
    |none=>.fail
   |_=>.fail
  | .builtin .append=>match c.args.toList,c.argTypes.toList with
   |[x,y],[t,t']=>bg (Nat.beq t t') (gV C x fun p=>gV C y fun q=>Vu P b t p q)
   |_,_=>.fail
  | .builtin .len=>match c.args.toList,c.argTypes.toList,Vq P c.argTypes[0]? with
   |[x],[t],true=>gV C x fun p=>MV P t p
   |_,_,_=>jD P C b (.call c)
  | .builtin .delete=>match c.args.toList,c.argTypes.toList with
   |[x,y],[t,kt]=>gV C x fun p=>gV C y fun q=>MU P t kt p q
   |_,_=>.fail
  |_=>jD P C b (.call c)
 | .makeMap t none=>qN P md b t
 | .makeMap t (some x)=>gV C x fun p=>match p with
  | .one (.v (.int _ _))=>qN P md b t
  |_=>.fail
 | .mapEntry t m x=>gV C m fun p=>gV C x fun q=>Vv P b t p q
 | .entryStore t m x y=>gV C m fun p=>gV C x fun q=>gV C y fun z=>Gx P t p q z
 | .mapUpdate t m x y=>gV C m fun p=>gV C x fun q=>gV C y fun z=>Iw P b t p q z
 | .insert t m x y=>gV C m fun p=>gV C x fun q=>gV C y fun z=>Iw P b t p q z
 | .lookup t m x ok=>gV C m fun p=>gV C x fun q=>AE P b t ok p q
 | .makeFunc f first cr=>match f,first.toList with
  | .func f,[]=>Ki C cr.toList fun ys=>match uL ys with
   |some cs=>one (.mA f cs)
   |none=>.fail
  |_,_=>.fail
 | .slice t x (some lo) none none=>match md with
  |true=>gV C x fun p=>gV C lo fun q=>match q with
   | .one (.v (.int .i64 i))=>M8 P b t i p
   |_=>.fail
  |false=>gV C x fun p=>ya C (some lo) fun i=>ya C none fun k=>yb P b t i k p
 | .slice t x lo hi none=>gV C x fun p=>ya C lo fun i=>ya C hi fun k=>yb P b t i k p
 | .slice t x none (some hi) (some mx)=>gV C x fun p=>gV C hi fun q=>match q with
  | .one (.v (.int .i64 h))=>gV C mx fun q'=>match q' with
   | .one (.v (.int .i64 m))=>Cr P b t h m p
   |_=>.fail
  |_=>.fail
 | .makeSlice t l c=>gV C l fun p=>gV C c fun q=>sB P b t p q
 | .range t x=>gV C x fun p=>Gy P b t p
 | .entry x=>gV C x fun p=>Gz b p
 | .binOp op t x y t'=>match md,op with
  |true,.quo=>gV C x fun p=>gV C y fun q=>Uk p q
  |_,_=>jD P C b (.binOp op t x y t')
 |op=>jD P C b op
section
variable {P:Program}{o:bC}{n:Nat}{A A':bF}{S S' T:aL}{F G:Nat->Prop}{s:Nat->Option E2}{r:Nat->Option R2}{a:Act}{w w':World}{C:List (Nat×Bool)}{b:Nat}
theorem Cs {re:List (Nat×Option R2)}{j:Nat}(h:∃x,(j,x)∈re)(r1 r2:Nat->Option R2):aQ r1 re j=aQ r2 re j:=by
 induction re with
 |nil=>obtain⟨x,hx⟩:=h;cases hx
 |cons p re ih=>
  show jg (aQ r1 re) p.1 p.2 j=jg (aQ r2 re) p.1 p.2 j
  by_cases q:p.1=j
  .subst q;rw[cB,cB]
  rw[cS q,cS q]
  refine ih ?_
  obtain⟨x,hx⟩:=h
  rcases List.mem_cons.1 hx with e|e
  .rw[<-e] at q;exact(q rfl).elim
  exact⟨x,e⟩
theorem iB {re:List (Nat×Option R2)}{j:Nat}(h:¬ ∃x,(j,x)∈re)(r1:Nat->Option R2):aQ r1 re j=r1 j:=by
 induction re with
 |nil=>rfl
 |cons p re ih=>
  show jg (aQ r1 re) p.1 p.2 j=_
  rw[cS fun q=>h ⟨p.2,by rw[<-q];exact List.mem_cons_self⟩]
  exact ih fun⟨x,hx⟩=>h ⟨x,List.mem_cons_of_mem _ hx⟩
theorem kW {re:List (Nat×Option R2)}{j:Nat}{z:R2}(h:∃x,(j,x)∈re)(hz:aQ r re j=some z):(j,some z)∈re:=by
 induction re with
 |nil=>obtain⟨x,hx⟩:=h;cases hx
 |cons p re ih=>
  have hz:jg (aQ r re) p.1 p.2 j=some z:=hz
  by_cases q:p.1=j
  .subst q;rw[cB] at hz;rw[<-hz];exact List.mem_cons_self
  rw[cS q] at hz
  refine List.mem_cons_of_mem _ (ih ?_ hz)
  obtain⟨x,hx⟩:=h
  rcases List.mem_cons.1 hx with e|e
  .rw[<-e] at q;exact(q rfl).elim
  exact⟨x,e⟩
def gK (A:bF)(r:Nat->Option R2)(K:Nat->Prop)(c:Nat):Prop:=∃j x,K j/\r j=some x/\(x.den A j).has c
theorem jZ.mono {w w':World}{H H':Nat->Prop}(h:jZ w w' H)(k:∀c,H c->H' c):jZ w w' H':=⟨h.os,h.tape,h.output,h.size,fun c hc hn=>h.block c hc fun q=>hn (k c q)⟩
theorem cv.kX (H:cv o n A S F s r a w){K:Nat->Prop}{c:Nat}(h:gK A r K c):o.new c/\c<w.heap.size/\¬S c:=by
 obtain⟨j,x,_,h2,h3⟩:=h
 exact H.bB.own j _ c (show bw A r j=some _ by simp[bw,h2]) h3
theorem cv.swap (H:cv o n A S F s r a w)(hA:cR F A A'){re:List (Nat×Option R2)}(K:Nat->Prop)(hK:∀j,K j->∃x,(j,x)∈re)
  (hc:jZ w w' (gK A r K)) (hS:∀k,S k->S' k)
  (Xv:∀k,S' k->S k\/((gK A r K k\/w.heap.size<=k)/\k<w'.heap.size/\∀j z,(j,some z)∈re->¬(z.den A' j).has k))
  (hz:∀j z,(j,some z)∈re->z.all (FU F re)/\z.b7 A'/\kH z=false/\(z.den A' j).ok S' w'/\∀c,(z.den A' j).has c->(gK A r K c\/w.heap.size<=c)/\c<w'.heap.size)
  (ha:∀i j zi zj c,(i,some zi)∈re->(j,some zj)∈re->(zi.den A' i).has c->(zj.den A' j).has c->i=j):
  cv o n A' S' (FU F re) s (aQ r re) a w':=by
 have H1:=H.agree hA (G:=FU F re) fun j h=>.inl h
 have Rj:∀j x,r j=some x->x.den A j=x.den A' j:=fun j x hx=>R2.congr hA (H.dB j x hx).1 (H.dB j x hx).2.1
 have hH:∀c,gK A r K c↔∃j rr,K j/\bw A' r j=some rr/\rr.has c:=fun c=>by
  constructor
  .rintro⟨j,x,h1,h2,h3⟩
   exact⟨j,_,h1,by simp[bw,h2];rfl,by rw[<-Rj j x h2];exact h3⟩
  rintro⟨j,rr,h1,h2,h3⟩
  obtain⟨x,hx,rfl⟩:=Option.map_eq_some_iff.1 h2
  exact⟨j,x,h1,hx,by rw[Rj j x hx];exact h3⟩
 refine⟨H1.size,H1.fh,H1.env,H1.l8,fun j x hx=>?_,H1.bB.swap (N:=fun j=> ∃x,(j,x)∈re) (K:=K) (hc.mono fun c q=>(hH c).1 q) hS (fun k hk=>?_) (fun j rr hj hr=>?_) (fun j rr hj hr=>?_) (fun j rr c hj hr Ct=>?_) (fun i j ri rj c hi hj ei ej q1 q2=>?_),fun j x hx=>?_,H1.s8⟩
 .by_cases q:∃x,(j,x)∈re
  .have h2:=hz j x (kW q hx)
   obtain⟨y,hy⟩:=q
   exact⟨.inr ⟨y,hy⟩,h2.1,h2.2.1⟩
  rw[iB q] at hx;exact H1.dB j x hx
 .rcases Xv k hk with q|⟨q1,q2,q3⟩
  .exact .inl q
  refine .inr ⟨q1.imp (hH k).1 id,q2,fun j rr hj hr=>?_⟩
  obtain⟨x,hx,rfl⟩:=Option.map_eq_some_iff.1 hr
  exact q3 j x (kW hj hx)
 .refine⟨fun q=>hj (hK j q),?_⟩
  have hr:(aQ r re j).map (R2.den A' j)=some rr:=hr
  rw[iB hj] at hr;exact hr
 .obtain⟨x,hx,rfl⟩:=Option.map_eq_some_iff.1 hr
  exact(hz j x (kW hj hx)).2.2.2.1
 .obtain⟨x,hx,rfl⟩:=Option.map_eq_some_iff.1 hr
  obtain⟨q1,q2⟩:=(hz j x (kW hj hx)).2.2.2.2 c Ct
  exact⟨q1.imp (hH c).1 id,q2⟩
 .obtain⟨x,hx,rfl⟩:=Option.map_eq_some_iff.1 ei
  obtain⟨y,hy,rfl⟩:=Option.map_eq_some_iff.1 ej
  exact ha i j x y c (kW hi hx) (kW hj hy) q1 q2
 by_cases q:∃x,(j,x)∈re
 .exact gJ (hz j x (kW q hx)).2.2.1
 rw[iB q] at hx;exact H1.args j x hx
theorem Cu:∀ {t:Ty} {cs:List Value} {x:El t},oh t=true->Data.rd T w cs x->Data.rd S w' cs x
 | .int,_,_,_,h=>h
 | .bool,_,_,_,h=>h
 | .str,_,_,_,h=>h
 | .pair p q,cs,x,hf,h=>by
  have hf:(oh p && oh q)=true:=hf
  rw[Bool.and_eq_true] at hf
  obtain⟨c1,c2,rfl,h1,h2⟩:=h
  exact⟨c1,c2,rfl,Cu hf.1 h1,Cu hf.2 h2⟩
 | .list _,_,_,hf,_=>by cases hf
 | .map _ _,_,_,hf,_=>by cases hf
 | .ptr _,_,_,hf,_=>by cases hf
theorem M9 {t:Ty}{xs:List Value}{l:List (El t)}(hf:oh t=true)(h:cw T w xs l):cw S w' xs l:=⟨h.1,fun i hi=>Cu hf (h.2 i hi)⟩
theorem AO {α:Type}[Data α]{tx e':TypeId}(hk:P.underlying tx=some (.slice e')){v:Value}{l:List α}(h:iH T w v l):∃news,Src P (Data.size α) tx v l.length news w/\cw T w news l:=by
 obtain⟨p,c,rfl,h1,h2,h3⟩:=h
 rcases h3 with rfl|⟨g,off,cur,t,fz,rfl,hg,hw,hc⟩
 .refine⟨[],?_,cw.nil _ _⟩
  cases p with
  |none=>exact Src.ofNil w hk c
  |some a=>exact Src.ofSlice w hk a 0 c [] (by simp) (fun j u q=>by cases q) fun u q=>by cases q
 have hlen:0<l.length*Data.size α->off+l.length*Data.size α<=cur.size:=fun hp=>by
  have hl:0<l.length:=Nat.pos_of_ne_zero fun q=>by rw[q,Nat.zero_mul] at hp;omega
  have hs:0<Data.size α:=Nat.pos_of_ne_zero fun q=>by rw[q,Nat.mul_zero] at hp;omega
  obtain⟨cs,k1,k2⟩:=hc (l.length-1) (by omega)
  have:=k2 (Data.size α-1) (by omega)
  rw[List.getElem?_eq_getElem (by rw[Data.len k1];omega)] at this
  have:=(Array.getElem?_eq_some_iff.1 this).1
  have e:l.length*Data.size α=(l.length-1)*Data.size α+Data.size α:=by rw[<-Nat.succ_mul];congr 1;omega
  omega
 have hR:cw T w ((cur.toList.drop off).take (l.length*Data.size α)) l:=by
  refine⟨?_,fun i hi=>?_⟩
  .have Du:cur.toList.length=cur.size:=Array.length_toList
   rw[List.length_take,List.length_drop,Du]
   by_cases q:0<l.length*Data.size α
   .have:=hlen q;omega
   omega
  obtain⟨cs,k1,k2⟩:=hc i hi
  have e:((((cur.toList.drop off).take (l.length*Data.size α)).drop (i*Data.size α)).take (Data.size α))=cs:=by
   apply List.ext_getElem?
   intro j
   rw[List.getElem?_take]
   split
   .rename_i hj
    have:=Nat.mul_le_mul_right (Data.size α) (show i+1<=l.length from hi)
    rw[Nat.succ_mul] at this
    rw[List.getElem?_drop,List.getElem?_take,if_pos (by omega),List.getElem?_drop,Array.getElem?_toList,<-k2 j hj,Nat.add_assoc]
   rename_i hj
   rw[List.getElem?_eq_none (by rw[Data.len k1];omega)]
  rw[e];exact k1
 refine⟨_,Src.ofSlice w hk ⟨g,off,none⟩ l.length c _ hR.1 (fun j u hu=>?_) hR.one,hR⟩
 rw[Addr.add_lit,cell_of_row w g _ cur t fz hw]
 rw[List.getElem?_take] at hu
 split at hu
 .rw[List.getElem?_drop,Array.getElem?_toList] at hu;exact hu
 cases hu
theorem Cv {tx e' e:TypeId}(hk:P.underlying tx=some (.slice e')){size:Nat}{v:Value}{m:Nat}{xs:List Value}(hd:gw w e size v m xs)(h1:∀u∈xs,u.oneCell'=true):Src P size tx v m xs w:=by
 rcases hd.2 with⟨rfl,rfl⟩|⟨g,d,cap,cur,rfl,hg,J4,rQ,cE,kq⟩
 .have:xs=[]:=List.eq_nil_of_length_eq_zero (by simpa using hd.1)
  subst this
  exact Src.ofNil w hk 0
 refine Src.ofSlice w hk _ _ _ _ hd.1 (fun j u hu=>?_) h1
 rw[Addr.add_lit]
 exact hd.cell hu
theorem Na (H:cv o n A S F s r a w){tx e':TypeId}(hk:P.underlying tx=some (.slice e')){j:Nat}{y:R2}(hj:r j=some y){t:Ty}{m:List (El t)}(hy:iu y=some ⟨t,m⟩)(hf:gx y=true\/oh t=true):
  ∃news,Src P (Data.size (El t)) tx (A.v j) m.length news w/\cw S w news m:=by
 have fq:(y.den A j).ok S w:=H.bB.ok j _ (show bw A r j=some _ by simp[bw,hj])
 cases y with
 |ro t' l'=>cases hy;exact AO hk (cq fq)
 |ar t' l'=>
  cases hy
  obtain⟨news,h1,h2⟩:=AO hk (cq (qL H hj rfl))
  rcases hf with hf|hf
  .cases hf
  exact⟨news,h1,M9 hf h2⟩
 |row e t' l'=>
  cases hy
  obtain⟨xs,h1,h2⟩:=fq
  exact⟨xs,Cv hk h1 h2.one,h2⟩
 |ext z=>
  cases z with
  |vw q lo e t' l'=>
   cases hy
   obtain⟨⟨xs,hd,mc⟩,pp,n,c,hv,h1,h2,hu⟩:dg S w e (A.v q) l'/\mM (A.v j) (A.v q) lo (Data.size (El t)):=fq
   rw[hv] at hd
   obtain⟨p',c',e',_⟩:=hd.slice
   cases e'
   obtain⟨d1,d2⟩:=Cm hd h1 (Nat.le_refl _) h2 (Nat.le_refl _)
   have hr:=wF mc h1 (Nat.le_refl _)
   have e9:(l'.drop lo).take (l'.length-lo)=l'.drop lo:=List.take_of_length_le (by rw[List.length_drop];exact Nat.le_refl _)
   rw[e9] at hr
   rw[<-hu] at d1
   exact⟨_,Cv hk (by rw[List.length_drop];exact d1) hr.one,hr⟩
  |_=>cases hy
 |_=>cases hy
theorem Ul (H:cv o n A S F s r a w){j q:Nat}{y:R2}{x:Hx}{I:HdI}(hj:r j=some y)(h:Yv q x y=some I)(hp:∀p∈I.p,p):
  (∃xs,gw w I.ie (Data.size (El I.t)) (A.f q x.lit) I.l.length xs/\cw S w xs I.l)/\(∀c,(A.f q x.lit).ownBlock=some c->(y.den A j).has c)/\
   I.z.all F/\I.z.b7 A/\kH I.z=false/\(I.z.den A j).ok S w/\∀c,(I.z.den A j).has c->(y.den A j).has c/\(A.f q x.lit).ownBlock≠some c:=by
 have fq:(y.den A j).ok S w:=H.bB.ok j _ (show bw A r j=some _ by simp[bw,hj])
 have dL:=(H.dB j y hj).2.1
 have nm:∀ {k:Kc} {t:Ty} {ie:TypeId} {m:bh k (List (El t))} {x:bL k},y= .ext (.ff q k none t ie m)->(∃xs,gw w ie (Data.size (El t)) (A.f q (cN k x)) ((aG (show List (bL k×List (El t)) from m) x).getD []).length xs/\cw S w xs ((aG (show List (bL k×List (El t)) from m) x).getD []))/\(∀c,(A.f q (cN k x)).ownBlock=some c->(y.den A j).has c)/\
   F q/\((R2.ext (.ff q k (some x) t ie m)).den A j).ok S w/\∀c,((R2.ext (.ff q k (some x) t ie m)).den A j).has c->(y.den A j).has c/\(A.f q (cN k x)).ownBlock≠some c:=by
  intro k t ie m x e
  subst e
  obtain⟨dM,hb,N⟩:∃dM,A.m j=some dM/\su S w dM (A.f q) none ie m:=fq
  obtain⟨zs,n1,n2,n3⟩:=N.map
  have e2:aG (show List (bL k×List (El t)) from m) x=(aG zs x).map (·.2):=by rw[n2];exact e7 (fun y:Value×List (El t)=>y.2) zs x
  have hO:dg S w ie (A.f q (cN k x)) ((aG (show List (bL k×List (El t)) from m) x).getD []):=by
   rw[e2]
   cases hl:aG zs x with
   |none=>
    rw[N.Xu x (by rw[e2,hl];rfl) (by simp)]
    exact dg.nil
   |some z=>
    obtain⟨q1,q2⟩:=n3 _ (jA hl) (by simp)
    rw[<-q1];exact q2
  refine⟨hO,fun c hc=>.inr ⟨x,by simp,hc⟩,dL,⟨dM,hb,⟨zs,n1,n2,fun z hz _=>n3 z hz (by simp)⟩,fun z hz _=>N.Xu z hz (by simp),fun u v c _ _=>N.inj u v c (by simp) (by simp),fun u c _=>N.out u c (by simp)⟩,fun c hc=>?_⟩
  rcases hc with hc|⟨u,hu,hc⟩
  .refine⟨.inl hc,fun q=>?_⟩
   have hc:A.m j=some c:=hc
   rw[hb] at hc;cases hc
   exact N.out x _ (by simp) q rfl
  refine⟨.inr ⟨u,by simp,hc⟩,fun q=>hu ?_⟩
  rw[N.inj u x c (by simp) (by simp) hc q]
 unfold Yv at h
 split at h
 .rename_i i sz off q' e t ie l
  split at h
  .rename_i hg
   rw[Bool.and_eq_true] at hg
   have h1:=b6 hg.1;have h2:=b6 hg.2
   subst h1;subst h2
   split at h
   .rename_i t' l' hc
    cases h
    obtain⟨h0,h1⟩:bX i l.length:=hp _ (List.mem_singleton.2 rfl)
    have hN:iO S w (A.v j) (A.f q') none e t ie l:=fq
    have hi:i.toNat<l.length:=by omega
    have jU:off<aF t:=by have:=(List.getElem?_eq_some_iff.1 hc).1;rwa[dw] at this
    have Iq:=tq (t:=t) (l:=l) hi jU
    rw[hc] at Iq
    have iL:i.toNat*aF t+off<l.length*aF t:=by
     have:=(List.getElem?_eq_some_iff.1 Iq).1
     rwa[dV] at this
    obtain⟨xs,k1,k2,k3⟩:=hN.row
    obtain⟨k4,k5⟩:=k3 _ _ Iq (by simp)
    refine⟨k5,fun c Ct=>.inr ⟨_,iL,by simp,Ct⟩,dL,tv,rfl,⟨⟨xs,k1,k2,fun c x hx _=>k3 c x hx (by simp)⟩,fun c d bb h1 h2 _ _=>hN.inj c d bb h1 h2 (by simp) (by simp),fun c bb h1 _=>hN.out c bb h1 (by simp)⟩,fun c Ct=>?_⟩
    rcases Ct with Ct|⟨d,Rb,LG,hd3⟩
    .exact⟨.inl Ct,fun q=>hN.out _ c iL (by simp) q Ct⟩
    refine⟨.inr ⟨d,Rb,by simp,hd3⟩,fun q=>LG ?_⟩
    rw[hN.inj _ d c iL Rb (by simp) (by simp) q hd3]
   cases h
  cases h
 .rename_i x q' t ie m
  split at h
  .rename_i hg
   have h1:=b6 hg
   subst h1
   cases h
   obtain⟨k1,k2,k3,k4,k5⟩:=nm (k:=.int) (x:=x) rfl
   exact⟨k1,k2,k3,tv,rfl,k4,k5⟩
  cases h
 .rename_i x q' t ie m
  split at h
  .rename_i hg
   have h1:=b6 hg
   subst h1
   cases h
   obtain⟨k1,k2,k3,k4,k5⟩:=nm (k:=.str) (x:=x) rfl
   exact⟨k1,k2,k3,tv,rfl,k4,k5⟩
  cases h
 cases h
theorem Nb (H:cv o n A S F s r a w){tx e':TypeId}(hk:P.underlying tx=some (.slice e')){ty:Ty}{k:List Prop->List (El ty)->Tr Out}{q:Sy}{out:Out}(h:(Kv ty k q).run s r=some out):
  ∃qs m,(k qs m).run s r=some out/\((∀p∈qs,p)->∃news,Src P (Data.size (El ty)) tx (q.den A) m.length news w/\cw S w news m):=by
 unfold Kv at h
 split at h
 .obtain⟨y,hy,h⟩:=aY h
  split at h
  .rename_i t' m ha
   split at h
   .rename_i m' hm
    obtain⟨hg,h⟩:=ax h
    obtain⟨e,F3⟩:=eE hm
    cases e
    have F3:m=m':=F3
    subst F3
    rw[Bool.or_eq_true] at hg
    exact⟨[],m,h,fun _=>Na H hk hy ha hg⟩
   cases h
  cases h
 .obtain⟨y,hy,h⟩:=aY h
  split at h
  .rename_i I hI
   split at h
   .rename_i m' hm
    obtain⟨hg,h⟩:=ax h
    obtain⟨t,ie,l,ps,z⟩:=I
    obtain⟨e,F3⟩:=eE hm
    have e:t=ty:=by injection e
    subst e
    have F3:l=m':=F3
    subst F3
    refine⟨ps,l,h,fun hp=>?_⟩
    obtain⟨⟨xs,k1,k2⟩,_⟩:=Ul H hy hI hp
    exact⟨xs,Cv hk k1 k2.one,k2⟩
   cases h
  cases h
 .exact⟨[],[],h,fun _=>⟨[],Src.ofNil w hk 0,cw.nil _ _⟩⟩
 cases h
def D9 (A:bF)(S:aL)(F:Nat->Prop)(w:World)(r:Nat->Option R2)(v:Value):Option (Nat×Option R2)->Prop
 |none=>v.ownBlock=none
 |some (j,y)=> ∃x,r j=some x/\(∀c,v.ownBlock=some c->(x.den A j).has c)/\∀z,y=some z->z.all F/\z.b7 A/\kH z=false/\(z.den A j).ok S w/\∀c,(z.den A j).has c->(x.den A j).has c/\v.ownBlock≠some c
theorem D9.has {v:Value}{old:Option (Nat×Option R2)}(h:D9 A S F w r v old){c:Nat}(hc:v.ownBlock=some c):gK A r (fun i=> ∃y,old=some (i,y)) c:=by
 cases old with
 |none=>have h:v.ownBlock=none:=h;rw[h] at hc;cases hc
 |some p=>obtain⟨x,h1,h2,_⟩:=h;exact⟨p.1,x,⟨p.2,rfl⟩,h1,h2 c hc⟩
theorem cv.AP (H:cv o n A S F s r a w){K:Nat->Prop}(hc:jZ w w' (gK A r K)):cK S w w':=fun k hk=>hc.block k (H.bB.iI k hk) fun q=>(H.kX q).2.2 hk
theorem cv.Ea (H:cv o n A S F s r a w)(hF:¬F b){e:TypeId}{ty:Ty}{m:List (El ty)}{v v':Value}{xs:List Value}{old:Option (Nat×Option R2)}(hold:D9 A S F w r v old)
  (hc:w.grownBy w' v.ownBlock) (hv:gw w' e (Data.size (El ty)) v' m.length xs) (hR:cK S w w'->cw S w' xs m) (hb:∀c,v'.ownBlock=some c->v.ownBlock=some c\/(w.heap.size<=c/\c<w'.heap.size)):
  ∃A',cv o n A' S (FU F ((b,some (.row e ty m))::old.toList)) s (aQ r ((b,some (.row e ty m))::old.toList)) a w'/\v'=A'.v b:=by
 obtain⟨p',c',Kx,_⟩:=hv.slice
 have vz:=cR.set (A:=A) hF p' m.length c' 0
 have kz:jZ w w' (gK A r fun i=> ∃y,old=some (i,y)):=(jZ.of hc).mono fun c q=>hold.has q
 have hS:=H.AP kz
 have pG:∀p,p∈old.toList->old=some p:=fun p hp=>by simpa using hp
 refine⟨A.set b p' m.length c' 0,H.swap vz (fun i=> ∃y,old=some (i,y)) (fun j ⟨y,hy⟩=>⟨y,List.mem_cons_of_mem _ (by rw[hy];simp)⟩) kz (fun _ h=>h) (fun _ h=>.inl h) (fun j z hj=>?_) (fun i j zi zj c hi hj h1 h2=>?_),by rw[bF.ku];exact Kx⟩
 .rcases List.mem_cons.1 hj with hj|hj
  .cases hj
   refine⟨tv,tv,rfl,?_,fun c Ct=>?_⟩
   .show dg S w' e (bF.v _ b) m
    rw[bF.ku,<-Kx];exact⟨xs,hv,hR hS⟩
   have Ct:(bF.v _ b).ownBlock=some c:=Ct
   rw[bF.ku,<-Kx] at Ct
   rcases hb c Ct with q|q
   .exact⟨.inl (hold.has q),Nat.lt_of_lt_of_le (H.kX (hold.has q)).2.1 hc.size⟩
   exact⟨.inr q.1,q.2⟩
  have ho:=pG _ hj
  subst ho
  obtain⟨x,h1,h2,h3⟩:=hold
  obtain⟨k1,k2,k3,k4,k5⟩:=h3 z rfl
  have Cg:=(H.dB j x h1).1
  have hd:z.den A j=z.den (A.set b p' m.length c' 0) j:=R2.congr vz Cg k1
  rw[<-hd]
  refine⟨R2.mono (fun _ q=>.inl q) k1,R2.dH vz k1 k2,k3,(z.den A j).keep S w w' k4 hS fun c Ct=>?_,fun c Ct=>?_⟩
  .obtain⟨q1,q2⟩:=k5 c Ct
   exact hc.block c (H.kX (K:=fun i=>i=j) ⟨j,x,rfl,h1,q1⟩).2.1 fun z=>q2 z.symm
  obtain⟨q1,q2⟩:=k5 c Ct
  have hk:gK A r (fun i=> ∃y,some (j,some z)=some (i,y)) c:=⟨j,x,⟨_,rfl⟩,h1,q1⟩
  exact⟨.inl hk,Nat.lt_of_lt_of_le (H.kX hk).2.1 hc.size⟩
 have key:∀j z c,(j,some z)∈old.toList->(z.den (A.set b p' m.length c' 0) j).has c->v'.ownBlock=some c->False:=fun j z c hj h1 h2=>by
  have ho:=pG _ hj
  subst ho
  obtain⟨x,q1,q2,q3⟩:=hold
  obtain⟨k1,k2,k3,k4,k5⟩:=q3 z rfl
  rw[<-R2.congr vz (H.dB j x q1).1 k1] at h1
  obtain⟨k6,k7⟩:=k5 c h1
  rcases hb c h2 with q|q
  .exact k7 q
  have:=(H.kX (K:=fun i=>i=j) ⟨j,x,rfl,q1,k6⟩).2.1
  omega
 rcases List.mem_cons.1 hi with hi|hi<;>rcases List.mem_cons.1 hj with hj|hj
 .cases hi;cases hj;rfl
 .cases hi
  have h1:(bF.v _ b).ownBlock=some c:=h1
  rw[bF.ku,<-Kx] at h1
  exact(key j zj c hj h2 h1).elim
 .cases hj
  have h2:(bF.v _ b).ownBlock=some c:=h2
  rw[bF.ku,<-Kx] at h2
  exact(key i zi c hi h1 h2).elim
 have e1:=pG _ hi
 rw[pG _ hj] at e1
 cases e1;rfl
theorem Rq (H:cv o n A S F s r a w)(hF:¬F b){t tx e:TypeId}{ty:Ty}{bytes:Nat}(E:L8 P t e (Data.size (El ty)) bytes)(Ku:bytes<=1000){l m:List (El ty)}{v x:Value}(hd:∃xs,gw w e (Data.size (El ty)) v l.length xs/\cw S w xs l)
  {old:Option (Nat×Option R2)} (hold:D9 A S F w r v old) (hs:∃news,Src P (Data.size (El ty)) tx x m.length news w/\cw S w news m) (hlen:l.length+m.length<=2147483647) (Yx:TypeId):
  ∃v' w',(Builtin.append_ #[t,tx] Yx #[v,x]).run P w= .ok v' w'/\∃A',cv o n A' S (FU F ((b,some (.row e ty (l++m)))::old.toList)) s (aQ r ((b,some (.row e ty (l++m)))::old.toList)) a w'/\v'=A'.v b:=by
 obtain⟨xs,XD,Rr⟩:=hd
 obtain⟨news,wC,B9⟩:=hs
 obtain⟨v',w',hr,k1,k2,k3⟩:=Is (ty:=Yx) E XD wC (by simp only[maxLen];omega) (by have:=Nat.mul_le_mul hlen Ku;omega)
 refine⟨v',w',hr,H.Ea hF hold k2 (xs:=xs++news) (by rw[List.length_append];exact k1) (fun hS=>(Rr.keep hS).append (B9.keep hS)) k3⟩
end
section
variable {P:Program}{o:bC}{n:Nat}{A A':bF}{S S' T:aL}{F G:Nat->Prop}{s:Nat->Option E2}{r:Nat->Option R2}{a:Act}{w w':World}{C:List (Nat×Bool)}{b:Nat}
theorem Nc {op:Oper}{v:Value}{K:Act->World->Prop}{Q:Exit->Act->World->Prop}(h:Oper.quietUpon P (· =w) w v ((execOp a.eval op).run P w))(k:K (a.put op.dst v) w):op.wp P a w K Q:=by
 unfold Oper.wp
 generalize (execOp a.eval op).run P w=res at h
 cases res with
 |ok x w'=>
  cases x<;>first|(exact h.elim)|skip
  .obtain⟨rfl,rfl⟩:=h;exact k
  .obtain⟨rfl,rfl⟩:=h;exact k
  obtain⟨rfl,h⟩:=h
  refine h.mono fun e w2 ⟨he,hw⟩=>?_
  subst he;subst hw;exact k
 |halt x w'=>exact h.elim
theorem oo {α:Type 1}{t:Ty}{y:Sy}{k:El t->Tr α}{out:α}(hR:kT T w A r (aH y))(h:(jC t y k).run s r=some out):∃x:El t,Data.rd T w ((aH y).map (Sc.den A)) x/\(∀ps,y≠.mU ps)/\(k x).run s r=some out:=by
 unfold jC at h
 split at h
 .obtain⟨x,u,rest,hu,h1,h⟩:=kU t _ _ hR h
  split at h
  .rw[List.append_nil] at hu;subst hu;exact⟨x,h1,(fun _ q=>by cases q),h⟩
  cases h
 .obtain⟨x,u,rest,hu,h1,h⟩:=kU t _ _ hR h
  split at h
  .rw[List.append_nil] at hu;subst hu;exact⟨x,h1,(fun _ q=>by cases q),h⟩
  cases h
 cases h
theorem pZ {t:Ty}:∀ {ys:List Sy} {k:List (El t)->Tr Out} {out:Out},kT T w A r (ys.flatMap aH)->(wI t ys k).run s r=some out->∃l:List (El t),l.length=ys.length/\cw T w ((ys.flatMap aH).map (Sc.den A)) l/\bV T w ((ys.flatMap aH).map (Sc.den A)) (gA t l)/\(k l).run s r=some out
 |[],k,out,_,h=>⟨[],rfl,cw.nil _ _,tv,h⟩
 |y::ys,k,out,hR,h=>by
  have Yy:kT T w A r (aH y):=fun c hc=>hR c (by rw[List.flatMap_cons];exact List.mem_append_left _ hc)
  have Um:kT T w A r (ys.flatMap aH):=fun c hc=>hR c (by rw[List.flatMap_cons];exact List.mem_append_right _ hc)
  obtain⟨x,hx,_,h⟩:=oo Yy h
  obtain⟨l,h1,h2,h3,h⟩:=pZ Um h
  refine⟨x::l,by simp[h1],?_,?_,h⟩
  .rw[List.flatMap_cons,List.map_append]
   exact(cw.single hx).append h2
  rw[List.flatMap_cons,List.map_append]
  exact(gZ t hx).append h3
theorem Rt {w:World}{S:aL}{t:Ty}{e:TypeId}{cs:List Value}{l:List (El t)}(h:cw S w cs l)(hS:∀k,S k->k<w.heap.size)(hl:l.length<=2147483647):
  Own S (w.alloc (.cells cs.toArray e)) e (.slice (some ⟨w.heap.size,0,none⟩) l.length l.length) l:=by
 refine⟨cs,⟨h.1,.inr ⟨w.heap.size,l.length,_,rfl,Nat.zero_le _,heap_alloc_new w _,Nat.le_refl _,by simp only[maxLen];omega,by simpa using h.1,?_⟩⟩,h.keep fun k hk=>(kM w _).block k (hS k hk)⟩
 simp only[List.toList_toArray]
 rw[<-h.1,List.take_length]
theorem Nd {B:Nat}(H:cv o n A S F s r a w)(hF:∀j,b<=j->j<B->¬F j){op:Oper}{t len:Nat}{parts:Array (Nat×Operand)}{ys:List Sy}{out:Out}(ho:op.op= .buildSlice t len parts)(dD:parts.toList.map (fun p=>a.eval p.2)=ys.map (Sy.den A))
  (h:(Vp P b t len (parts.toList.map (·.1)) ys).run s r=some out) (mN:∀h∈out.hs,∀A w,h.lhs A w=h.rhs A w) (hB:∀p∈out.re,p.1<B)
  {K:Act->World->Prop} {Q:Exit->Act->World->Prop} (k:∀v w',eY o n F s r a out v w'->K (a.put op.dst v) w'):op.wp P a w K Q:=by
 unfold Vp at h
 split at h
 .rename_i ty Yz
  obtain⟨hg,h⟩:=ax h
  simp only[Bool.and_eq_true] at hg
  obtain⟨⟨hr,⟨gE,gH⟩,Rf⟩,hle⟩:=hg
  have gE:=b6 gE;have gH:=b6 gH;have hle:=Nat.le_of_ble_eq_true hle
  obtain⟨re,hz,hlz,h⟩:=mD _ _ h
  obtain⟨S',hS,H'⟩:=H.freeze hz
  obtain⟨l,Nf,mc,_,h⟩:=pZ (T:=S') (ni H hz hS H' hlz) h
  have e:=aW h
  subst e
  have bY:=mN _ (List.mem_singleton.2 rfl) A w
  simp only[x5] at bY
  have ep:parts.map (fun x=>(x.1,a.eval x.2))=(((parts.toList.map (·.1)).zip ys).map fun y=>(y.1,y.2.den A)).toArray:=by
   apply Array.ext'
   rw[Array.toList_map]
   show _=((parts.toList.map (·.1)).zip ys).map fun y=>(y.1,y.2.den A)
   have:(((parts.toList.map (·.1)).zip ys).map fun y=>(y.1,y.2.den A))=(parts.toList.map (·.1)).zip (ys.map (Sy.den A)):=by
    rw[List.zip_map_right]
    rfl
   rw[this,<-dD,List.zip_map']
  have e2:(execOp a.eval op).run P w= .ok (.value (.slice (some ⟨w.heap.size,0,none⟩) len len)) (w.alloc (.cells (((ys.flatMap aH).map (Sc.den A))).toArray (P.elem t))):=by
   rw[<-ep] at bY
   simp only[execOp,ho,Sem.run_bind]
   rw[show(Array.map (fun x=>match x with|(i,x)=>(i,a.eval x)) parts)=parts.map (fun x=>(x.1,a.eval x.2)) from rfl,bY]
   rfl
  refine bH e2 (k _ _ ?_)
  have hlen:l.length=len:=by rw[Nf,gH]
  have iY:=Rt (e:=P.elem t) mc H'.bB.iI (by omega)
  rw[hlen] at iY
  have oe:¬F b:=hF b (Nat.le_refl _) (hB (b,some (.row (P.elem t) ty l)) (List.mem_append_left _ (List.mem_singleton.2 rfl)))
  have H2:=H'.new (p:=some ⟨w.heap.size,0,none⟩) (m:=len) (c:=len) (x:=.cells (((ys.flatMap aH).map (Sc.den A))).toArray (P.elem t)) (y:=.row (P.elem t) ty l) oe (by show dg _ _ _ (bF.v _ b) l;rw[bF.ku];exact dg.of iY) (fun k hk=>by have hk:(bF.v _ b).ownBlock=some k:=hk;rw[bF.ku] at hk;cases hk;rfl) tv rfl tv
  rw[<-dz] at H2
  refine⟨_,S',H2.agree (cR.refl _ _) fun j hj=>?_,by show _=bF.v _ b;rw[bF.ku],.inr ⟨_,List.mem_append_left _ (List.mem_singleton.2 rfl)⟩,tv⟩
  rcases hj with hj|⟨z,hz⟩
  .exact .inl hj
  exact .inr ⟨z,List.mem_append_left _ hz⟩
 cases h
theorem Eb (H:cv o n A S F s r a w)(hF:¬F b){op:Oper}{t:TypeId}{cs:List Sc}(dL:∀c∈cs,c.all F)(Ec:∀c∈cs,c.b7 A)
  (e2:(execOp a.eval op).run P w= .ok (.value (.pointer (some ⟨w.heap.size,0,none⟩))) (w.alloc (.cells (cs.map (Sc.den A)).toArray t))) {hs:List Hid}
  {K:Act->World->Prop} {Q:Exit->Act->World->Prop} (k:∀v w',eY o n F s r a ⟨[],hs,.one (.ptr b 0),[(b,some (.box t cs))]⟩ v w'->K (a.put op.dst v) w'):op.wp P a w K Q:=by
 refine bH e2 (k _ _ ?_)
 have oe:¬F b:=hF
 have vz:=cR.set (A:=A) oe none 0 0 w.heap.size
 have H2:=H.new (p:=none) (m:=0) (c:=0) (x:=.cells (cs.map (Sc.den A)).toArray t) (y:=.box t cs) oe (by
  show(w.alloc _).heap[(A.set b none 0 0 w.heap.size).b b]?=_
  rw[bF.xO,<-jB vz dL]
  exact heap_alloc_new w _) (fun k hk=>by have hk:some ((A.set b none 0 0 w.heap.size).b b)=some k:=hk;rw[bF.xO] at hk;cases hk;rfl) (fun c hc=>Sc.mono (fun j hj=>.inl hj) (dL c hc)) rfl (fun c hc=>Sc.dH vz (dL c hc) (Ec c hc))
 refine⟨_,S,H2,?_,.inr ⟨_,List.mem_singleton.2 rfl⟩,tv⟩
 show _=Value.pointer (some ⟨(A.set b none 0 0 w.heap.size).b b,0,none⟩)
 rw[bF.xO]
theorem uM {q:Sy}(h4:(aH q).all AJ=true)(h5:∀ps,q≠.mU ps):(q.den A).cells.toList=(aH q).map (Sc.den A)/\∀u∈(aH q).map (Sc.den A),u.oneCell'=true:=by
 refine⟨?_,fun u hu=>?_⟩
 .cases q with
  |one c=>
   have h4:AJ c=true:=by simpa[aH] using h4
   show(Sc.den A c).cells.toList=[Sc.den A c]
   cases c with
   |v u=>
    have h4:u.oneCell'=true:=h4
    show u.cells.toList=[u]
    cases u<;>first|rfl|(simp[Value.oneCell'] at h4)
   |hd p q x=>cases h4
   |_=>rfl
  |agg ds=>rfl
  |mU ps=>exact(h5 ps rfl).elim
 obtain⟨c,hc,rfl⟩:=List.mem_map.1 hu
 have:=List.all_eq_true.1 h4 c hc
 cases c<;>first|exact this|rfl|cases this
theorem GC (H:cv o n A S F s r a w){op:Oper}{t:TypeId}{x y:Operand}{p q:Sy}{out:Out}(ho:op.op= .store t x y)(hx:a.eval x=p.den A)(hy:a.eval y=q.den A)(hq:q.all F/\q.b7 A)
  (h:(storeT P t p q).run s r=some out) {K:Act->World->Prop} {Q:Exit->Act->World->Prop} (k:∀v w',eY o n F s r a out v w'->K (a.put op.dst v) w'):op.wp P a w K Q:=by
 unfold storeT at h
 split at h
 .rename_i j off
  obtain⟨z,hz,h⟩:=aY h
  split at h
  .rename_i bt cs
   obtain⟨hg,h⟩:=ax h
   simp only[Bool.and_eq_true] at hg
   obtain⟨⟨⟨⟨h1,h2⟩,h3⟩,h4⟩,h5⟩:=hg
   have h1:=Nat.le_of_ble_eq_true h1;have h2:=b6 h2
   have e:=aW h
   subst e
   have hm:bw A r j=some (Rs.of (.box (A.b j) bt (cs.map (Sc.den A)))):=by show(r j).map _=_;rw[hz];rfl
   have hb:w.heap[A.b j]?=some (.cells (cs.map (Sc.den A)).toArray bt (0,0)):=H.bB.ok j _ hm
   obtain⟨inf,uN⟩:=Option.isSome_iff_exists.1 h3
   obtain⟨yc,Ng⟩:=uM (A:=A) h4 (fun ps e=>by subst e;cases h5)
   have bY:=oW (P:=P) w t bt (A.b j) off (cs.map (Sc.den A)) ((aH q).map (Sc.den A)) (q.den A) hb yc (by simpa using h1) (by rw[uN];simp only[Option.map_some,List.length_map];simp only[Program.cellsOf,uN,Option.map_some,Option.getD_some] at h2;rw[h2]) Ng
   have hx:a.eval x= .pointer (some ⟨A.b j,off,none⟩):=hx
   have e2:(execOp a.eval op).run P w= .ok .skip (w.setRow (A.b j) ((cs.map (Sc.den A)).take off++(aH q).map (Sc.den A)++(cs.map (Sc.den A)).drop (off+((aH q).map (Sc.den A)).length)).toArray):=by
    simp only[execOp,ho,Sem.run_bind,hx,hy,bY]
    rfl
   have uH:((cs.map (Sc.den A)).take off++(aH q).map (Sc.den A)++(cs.map (Sc.den A)).drop (off+((aH q).map (Sc.den A)).length))=(cs.take off++aH q++cs.drop (off+(aH q).length)).map (Sc.den A):=by
    rw[List.map_append,List.map_append,List.map_take,List.map_drop,List.length_map]
   rw[uH] at e2
   unfold Oper.wp
   rw[e2]
   refine k undef _ ?_
   have hr:=H.dB j _ hz
   have hgb:w.grownBy (w.setRow (A.b j) ((cs.take off++aH q++cs.drop (off+(aH q).length)).map (Sc.den A)).toArray) (some (A.b j)):=⟨rfl,rfl,rfl,by simp,fun k _ hk=>setRow_other w (A.b j) k _ (fun e=>hk (by rw[e]))⟩
   have hf1:=H.bB.mut j hm (jZ.of hgb)
   have iY:=H.bB.own j _ (A.b j) hm rfl
   have Ys:=hf1.put j (Rs.of (.box (A.b j) bt ((cs.take off++aH q++cs.drop (off+(aH q).length)).map (Sc.den A)))) (setRow_heap w (A.b j) _ _ bt _ hb) (fun b' mX=>by
    cases mX
    refine⟨iY.1,by simpa using iY.2.1,iY.2.2,fun i ri hi MY e=>?_⟩
    unfold eX at MY
    rw[if_neg hi] at MY
    exact hi (H.bB.apart i j ri _ (A.b j) MY hm e rfl))
   have D6:eX (eX (bw A r) j none) j (some (Rs.of (.box (A.b j) bt ((cs.take off++aH q++cs.drop (off+(aH q).length)).map (Sc.den A)))))=eX (bw A r) j (some (Rs.of (.box (A.b j) bt ((cs.take off++aH q++cs.drop (off+(aH q).length)).map (Sc.den A))))):=by
    funext i;unfold eX;split<;>rfl
   rw[D6] at Ys
   have eS:∀c∈cs.take off++aH q++cs.drop (off+(aH q).length),c.all F/\c.b7 A:=by
    intro c hc
    rcases List.mem_append.1 hc with hc|hc
    .rcases List.mem_append.1 hc with hc|hc
     .exact⟨hr.2.1 c (List.mem_of_mem_take hc),hr.2.2 c (List.mem_of_mem_take hc)⟩
     cases q with
     |one c'=>have:=List.mem_singleton.1 hc;subst this;exact hq
     |agg ds=>exact⟨hq.1 c hc,hq.2 c hc⟩
     |mU ps=>cases hc
    exact⟨hr.2.1 c (List.mem_of_mem_drop hc),hr.2.2 c (List.mem_of_mem_drop hc)⟩
   have H2:=cv.mV H j (some (.box bt (cs.take off++aH q++cs.drop (off+(aH q).length)))) (fun z pE=>by cases pE;exact⟨hr.1,fun c hc=>(eS c hc).1,fun c hc=>(eS c hc).2⟩) (fun z e=>by cases e;trivial) Ys
   exact⟨A,S,H2.agree (cR.refl _ _) fun _ h=>.inl h,rfl,tv,tv⟩
  cases h
 cases h
end
section
variable {P:Program}{o:bC}{n:Nat}{A A':bF}{S S' T:aL}{F G:Nat->Prop}{s:Nat->Option E2}{r:Nat->Option R2}{a:Act}{w w':World}{C:List (Nat×Bool)}{b:Nat}
theorem Nh {α:Type}{u v a b:List α}{off k:Nat}(h:off+k<=a.length)(e:u=a.take off++v++a.drop (off+k)):u++b=(a++b).take off++v++(a++b).drop (off+k):=by
 rw[e,List.take_append_of_le_length (by omega),List.drop_append_of_le_length (by omega)]
 simp only[List.append_assoc]
theorem Ky {α:Type}{u v a b:List α}{off m k:Nat}(h:a.length+m=off)(e:u=b.take m++v++b.drop (m+k)):a++u=(a++b).take off++v++(a++b).drop (off+k):=by
 subst h
 rw[e,List.take_append,List.drop_append,List.take_of_length_le (l:=a) (i:=a.length+m) (by omega),List.drop_of_length_le (l:=a) (i:=a.length+m+k) (by omega),List.nil_append]
 have e1:a.length+m-a.length=m:=by omega
 have e2:a.length+m+k-a.length=m+k:=by omega
 rw[e1,e2]
 simp only[List.append_assoc]
theorem uO:∀ {t:Ty} {off:Nat} {t':Ty} {v:El t'} {x u:El t},setAt t off t' v x=some u->off+aF t'<=aF t/\bl t u=(bl t x).take off++bl t' v++(bl t x).drop (off+aF t'):=by
 have whole:∀ {t t':Ty} {off:Nat} {v:El t'} {x u:El t},Co t off v=some u->off+aF t'<=aF t/\bl t u=(bl t x).take off++bl t' v++(bl t x).drop (off+aF t'):=fun {t t' off v x u} h=>by
  cases off with
  |succ _=>cases h
  |zero=>
  obtain⟨e,h⟩:=eE h
  subst e
  have h:v=u:=h
  subst h
  exact⟨by omega,by rw[List.take_zero,List.nil_append,Nat.zero_add,<-dw t' x,List.drop_length,List.append_nil]⟩
 intro t
 induction t with
 |pair p q ihp ihq=>
  intro off t' v x u h
  simp only[setAt] at h
  split at h
  .rename_i y hy;cases h;exact whole hy
  split at h
  .rename_i iL
   have iL:off<aF p:=by simpa using Nat.blt_eq▸iL
   obtain⟨y,hy,rfl⟩:=Option.map_eq_some_iff.1 h
   obtain⟨k1,k2⟩:=ihp hy
   refine⟨by show _<=aF p+aF q;omega,?_⟩
   show bl p y++bl q x.2=(bl p x.1++bl q x.2).take off++bl t' v++(bl p x.1++bl q x.2).drop (off+aF t')
   exact Nh (by rw[dw];omega) k2
  rename_i iL
  have iL:¬off<aF p:=fun q=>by rw[<-Nat.blt_eq] at q;rw[q] at iL;cases iL
  obtain⟨y,hy,rfl⟩:=Option.map_eq_some_iff.1 h
  obtain⟨k1,k2⟩:=ihq hy
  refine⟨by show _<=aF p+aF q;omega,?_⟩
  show bl p x.1++bl q y=(bl p x.1++bl q x.2).take off++bl t' v++(bl p x.1++bl q x.2).drop (off+aF t')
  exact Ky (by rw[dw];omega) k2
 |int=>intro off t' v x u h;exact whole h
 |bool=>intro off t' v x u h;exact whole h
 |str=>intro off t' v x u h;exact whole h
 |list _ _=>intro off t' v x u h;exact whole h
 |map _ _ _=>intro off t' v x u h;exact whole h
 |ptr _ _=>intro off t' v x u h;exact whole h
theorem Ru {ty t':Ty}{xs us:List Value}{l:List (El ty)}{i off:Nat}{v:El t'}{u:El ty}(h:cw S w xs l)(hi:i<l.length)(hu:bV S w us (bl t' v))(hs:setAt ty off t' v (l.getD i (sr ty))=some u):
  cw S w (xs.take (i*aF ty+off)++us++xs.drop (i*aF ty+off+us.length)) (l.set i u):=by
 obtain⟨k1,k2⟩:=uO hs
 have LL:us.length=aF t':=by rw[hu.len,dw]
 have Rw:xs.length=l.length*aF ty:=by rw[h.1,<-b5]
 have Kz:(i+1)*aF ty<=xs.length:=by rw[Rw];exact Nat.mul_le_mul_right _ hi
 rw[Nat.succ_mul] at Kz
 refine⟨by rw[List.length_append,List.length_append,List.length_take,List.length_drop,List.length_set,<-b5,<-Rw];omega,fun j hj=>?_⟩
 rw[List.length_set] at hj
 rw[<-b5]
 have hold:=h.2 j hj
 rw[<-b5] at hold
 have aaQ:(j+1)*aF ty<=xs.length:=by rw[Rw];exact Nat.mul_le_mul_right _ hj
 rw[Nat.succ_mul] at aaQ
 by_cases e:j=i
 .subst e
  rw[List.getElem_set_self]
  have:=mO xs us (j*aF ty) off (aF ty) Kz (by omega)
  rw[this]
  have hx:l.getD j (sr ty)=l[j]'hi:=by rw[List.getD_eq_getElem?_getD,List.getElem?_eq_getElem hi];rfl
  rw[hx] at k2
  refine wE ty ?_
  rw[k2,LL]
  have hc:=gZ ty hold
  exact((hc.take off).append hu).append (hc.drop _)
 rw[List.getElem_set_ne (fun q=>e q.symm)]
 have he:((xs.take (i*aF ty+off)++us++xs.drop (i*aF ty+off+us.length)).drop (j*aF ty)).take (aF ty)=(xs.drop (j*aF ty)).take (aF ty):=by
  apply List.ext_getElem?
  intro q
  rw[List.getElem?_take,List.getElem?_take]
  split
  .rename_i hq
   rw[List.getElem?_drop,List.getElem?_drop]
   rcases Nat.lt_or_gt_of_ne e with iL|hgt
   .have:=Nat.mul_le_mul_right (aF ty) (show j+1<=i from iL)
    rw[Nat.succ_mul] at this
    rw[List.append_assoc,List.getElem?_append_left (by rw[List.length_take];omega),List.getElem?_take,if_pos (by omega)]
   have:=Nat.mul_le_mul_right (aF ty) (show i+1<=j from hgt)
   rw[Nat.succ_mul] at this
   rw[List.getElem?_append_right (by rw[List.length_append,List.length_take];omega),List.getElem?_drop]
   congr 1
   rw[List.length_append,List.length_take];omega
  rfl
 rw[he];exact hold
theorem bV.keep {w w':World}(hk:cK S w w'):∀ {vs:List Value} {cs:List l6},bV S w vs cs->bV S w' vs cs
 |[],[],_=>trivial
 |_::_,_::_,h=>⟨h.1.keep hk,h.2.keep hk⟩
 |[],_::_,h=>h.elim
 |_::_,[],h=>h.elim
theorem gw.as {e:TypeId}{k k' m m':Nat}{v:Value}{xs:List Value}(h:gw w e k v m xs)(e1:k=k')(e2:m=m'):gw w e k' v m' xs:=by subst e1;subst e2;exact h
theorem aaR {re:List (Nat×Option R2)}{j:Nat}(h:(re.all fun p=>!Nat.beq p.1 j)=true):¬ ∃x,(j,x)∈re:=fun⟨x,hx⟩=>by
 have:=List.all_eq_true.1 h _ hx
 simp at this
theorem FU.mono {re Xy:List (Nat×Option R2)}(h:∀p∈re,p∈Xy){j:Nat}(q:FU F re j):FU F Xy j:=q.imp id fun⟨x,hx⟩=>⟨x,h _ hx⟩
theorem yd {t:TypeId}{x y:Operand}{op:Oper}(ho:op.op= .store t x y){g d:Nat}{u:Value}(hx:a.eval x= .pointer (some ⟨g,d,none⟩))(hy:a.eval y=u)(hr:(Instr.storeAt t (.pointer (some ⟨g,d,none⟩)) u).run P w= .ok () w'):(execOp a.eval op).run P w= .ok .skip w':=by
 simp only[execOp,ho,Sem.run_bind,hx,hy,hr];rfl
theorem vK {t:TypeId}{k:Nat}(h1:P.cellsOf t=k)(h2:(P.info? t).isSome=true):(P.info? t).map (·.size)=some k:=by
 obtain⟨inf,uN⟩:=Option.isSome_iff_exists.1 h2
 rw[uN];simp only[Option.map_some]
 simp only[Program.cellsOf,uN,Option.map_some,Option.getD_some] at h1;rw[h1]
theorem Ed (H:cv o n A S F s r a w){op:Oper}{t:TypeId}{x y:Operand}{j:Nat}{i:Int}{sz off:Nat}{q:Sy}{e:TypeId}{ty AM:Ty}{l:List (El ty)}{out:Out}(ho:op.op= .store t x y)(hx:a.eval x=(Sc.el j i sz off).den A)(hy:a.eval y=q.den A)(hj:r j=some (.row e ty l))
  (hg:(Nat.beq (aF ty) sz && (Nat.beq (P.cellsOf t) (aF AM) && ((P.info? t).isSome && (aH q).all AJ)) && Nat.blt 0 (aF AM))=true)
  (h:(ML (aH q) fun re=>bg (re.all fun p=>!Nat.beq p.1 j) (jC AM q fun v=>
   match setAt ty off AM v (l.getD i.toNat (sr ty)) with
   |some u=>.ret ⟨[bX i l.length],[],.one (.v undef),(j,some (.row e ty (l.set i.toNat u)))::re⟩
   |none=>.fail)).run s r=some out) (cE:∀p∈out.cs,p) {K:Act->World->Prop} {Q:Exit->Act->World->Prop} (k:∀v w',eY o n F s r a out v w'->K (a.put op.dst v) w'):op.wp P a w K Q:=by
 simp only[Bool.and_eq_true] at hg
 obtain⟨⟨g1,g2,g3,g4⟩,g5⟩:=hg
 have g1:=b6 g1;have g2:=b6 g2
 have g5:0<aF AM:=by simpa using Nat.blt_eq▸g5
 obtain⟨re,hz,hl,h⟩:=mD _ _ h
 obtain⟨S',hS,H'⟩:=H.freeze hz
 obtain⟨zX,h⟩:=ax h
 obtain⟨v,hv,YA,h⟩:=oo (ni H hz hS H' hl) h
 split at h
 .rename_i u hu
  have e:=aW h
  subst e
  obtain⟨h0,h1⟩:bX i l.length:=cE _ (List.mem_singleton.2 rfl)
  have hi:i.toNat<l.length:=by omega
  have J8:aQ r re j=some (.row e ty l):=by rw[iB (aaR zX)];exact hj
  have hm:bw A (aQ r re) j=some (o5 e (A.v j) l):=by show(aQ r re j).map _=_;rw[J8];rfl
  obtain⟨xs,hd,hR⟩:dg S' w e (A.v j) l:=H'.bB.ok j _ hm
  obtain⟨zY,Uf⟩:=uM (A:=A) g4 YA
  have hlen:((aH q).map (Sc.den A)).length=aF AM:=by rw[Data.len hv,b5]
  obtain⟨k1,_⟩:=uO hu
  have Kz:(i.toNat+1)*aF ty<=l.length*aF ty:=Nat.mul_le_mul_right _ hi
  rw[Nat.succ_mul] at Kz
  rw[<-b5] at hd
  obtain⟨w',bY,pO,hG,dc⟩:=M3 (P:=P) (t:=t) (c:=i.toNat*aF ty+off) hd zY (by omega) (by omega) (by rw[hlen];exact vK g2 g3) Uf
  have hx:a.eval x= .pointer (some ⟨Ar (A.v j),As (A.v j)+(i.toNat*aF ty+off),none⟩):=by
   rw[hx,<-Nat.add_assoc,g1];rfl
  have e2:=yd (P:=P) ho hx hy bY
  unfold Oper.wp
  rw[e2]
  refine k undef _ ?_
  have kz:jZ w w' (gK A (aQ r re) fun c=>c=j):=(jZ.of hG).mono fun c hc=>⟨j,_,rfl,J8,hc⟩
  have hk:=H'.AP kz
  have H2:=H'.swap (cR.refl _ _) (re:=[(j,some (.row e ty (l.set i.toNat u)))]) (S':=S') (fun c=>c=j) (fun c hc=>by rw[show c=j from hc];exact⟨_,List.mem_singleton.2 rfl⟩) kz (fun _ q=>q) (fun _ q=>.inl q) (fun c z hz=>by
   cases List.mem_singleton.1 hz
   refine⟨tv,tv,rfl,⟨_,pO.as (b5 ty) List.length_set.symm,Ru (hR.keep hk) hi ((gZ AM hv).keep hk) hu⟩,fun c hc=>?_⟩
   have hk:gK A (aQ r re) (fun i=>i=j) c:=⟨j,_,rfl,J8,hc⟩
   exact⟨.inl hk,by rw[dc];exact(H'.kX hk).2.1⟩) (fun c d zc zd b h1 h2 _ _=>by
   cases List.mem_singleton.1 h1;cases List.mem_singleton.1 h2;rfl)
  refine⟨A,S',H2.agree (cR.refl _ _) fun c hc=>?_,rfl,tv,tv⟩
  exact FU.mono (fun p hp=>by rw[List.mem_singleton.1 hp];exact List.mem_cons_self) hc
 cases h
theorem AQ {t:Ty}{x0:l6}:∀ {l:List (El t)} {i off:Nat} {u:El t},i<l.length->off<aF t->bl t u=(bl t (l.getD i (sr t))).set off x0->gA t (l.set i u)=(gA t l).set (i*aF t+off) x0
 |y::l,0,off,u,_,ho,h=>by
  show bl t u++gA t l=(bl t y++gA t l).set (0*aF t+off) x0
  have h:bl t u=(bl t y).set off x0:=h
  rw[Nat.zero_mul,Nat.zero_add,List.set_append_left _ _ (by rw[dw];exact ho),h]
 |y::l,i+1,off,u,hi,ho,h=>by
  show bl t y++gA t (l.set i u)=(bl t y++gA t l).set ((i+1)*aF t+off) x0
  have ih:=AQ (l:=l) (i:=i) (u:=u) (by simpa using hi) ho h
  rw[ih,Nat.succ_mul,List.set_append_right _ _ (by rw[dw];omega),dw]
  congr 2;omega
theorem Iy {α:Type}{xs:List α}{c:Nat}{u:α}(h:c<xs.length):xs.take c++[u]++xs.drop (c+1)=xs.set c u:=by
 rw[List.set_eq_take_append_cons_drop,if_pos h,List.append_assoc];rfl
theorem KA (H:cv o n A S F s r a w){cell:Option l6}{ie:TypeId}{k:(t':Ty)->El t'->List Nat->Tr Out}{q:Sy}{out:Out}(h:(Iv P cell ie k q).run s r=some out):
  ∃t' v ks x0 c,(k t' v ks).run s r=some out/\q= .one c/\AJ c=true/\(aF t'=1->bl t' v=[x0])/\rR S w ie (c.den A) x0/\(∀i∈ks,∃x,r i=some x)/\(∀b,(c.den A).ownBlock=some b->gK A r (fun i=>i∈ks) b)/\(∀i∈ks,∀x,r i=some x->∀b,(x.den A i).has b->(c.den A).ownBlock=some b):=by
 unfold Iv at h
 split at h
 .rename_i i
  obtain⟨z,hz,h⟩:=aY h
  split at h
  .rename_i Gw ty m
   obtain⟨hg,h2⟩:=ax h
   clear h
   have:=b6 hg;subst this
   have hm:bw A r i=some (o5 Gw (A.v i) m):=by show(r i).map _=_;rw[hz];rfl
   refine⟨_,_,_,.l ty m,.own i,h2,rfl,rfl,fun _=>rfl,H.bB.ok i _ hm,fun i' hi=>?_,fun b hb=>⟨i,_,List.mem_singleton.2 rfl,hz,hb⟩,fun i' hi x hx b hb=>?_⟩
   .rw[List.mem_singleton.1 hi];exact⟨_,hz⟩
   have:=List.mem_singleton.1 hi;subst this
   rw[hz] at hx;cases hx;exact hb
  cases h
 .split at h
  .rename_i ty _
   exact⟨_,_,_,.l ty ([]:List (El ty)),.v (.slice none 0 0),h,rfl,rfl,fun _=>rfl,dg.nil,fun _ q=>(by cases q),fun b q=>(by cases q),fun _ q=>(by cases q)⟩
  cases h
 .rename_i m
  exact⟨_,_,_,.i m,_,h,rfl,rfl,fun _=>rfl,⟨rfl,rfl⟩,fun _ q=>(by cases q),fun b q=>(by cases q),fun _ q=>(by cases q)⟩
 .rename_i m
  exact⟨_,_,_,.b m.den,_,h,rfl,rfl,fun _=>rfl,⟨rfl,rfl⟩,fun _ q=>(by cases q),fun b q=>(by cases q),fun _ q=>(by cases q)⟩
 .rename_i m
  exact⟨_,_,_,.s m,_,h,rfl,rfl,fun _=>rfl,⟨rfl,rfl⟩,fun _ q=>(by cases q),fun b q=>(by cases q),fun _ q=>(by cases q)⟩
 cases h
theorem Cw {B:Nat}(H:cv o n A S F s r a w)(hF:∀j,b<=j->j<B->¬F j){op:Oper}{t:TypeId}{x y:Operand}{j:Nat}{i:Int}{sz off:Nat}{q:Sy}{qf:Nat}{hh:Option Nat}{e ie:TypeId}{ty:Ty}{l:List (El ty)}{out:Out}(ho:op.op= .store t x y)(hx:a.eval x=(Sc.el j i sz off).den A)(hy:a.eval y=q.den A)(hj:r j=some (.ext (.nest qf hh e ty ie l)))
  (h:(Iv P ((bl ty (l.getD i.toNat (sr ty)))[off]?) ie (fun t' v ks=>match setAt ty off t' v (l.getD i.toNat (sr ty)) with
   |some u=>bg (Nat.beq (aF ty) sz && (Nat.beq (P.cellsOf t) 1 && (Nat.beq (aF t') 1 && ((P.info? t).isSome && ks.all fun k=>!Nat.beq k j))))
    (.ret ⟨[bX i l.length,AN hh (i.toNat*sz+off)],[],.one (.v undef),(j,some (.ext (.nest b none e ty ie (l.set i.toNat u))))::(b,none)::ks.map fun k=>(k,none)⟩)
   |none=>.fail) q).run s r=some out) (cE:∀p∈out.cs,p) (hB:∀p∈out.re,p.1<B) {K:Act->World->Prop} {Q:Exit->Act->World->Prop} (k:∀v w',eY o n F s r a out v w'->K (a.put op.dst v) w'):op.wp P a w K Q:=by
 classical
 obtain⟨t',v,ks,x0,c,h2,hq,Ng,aaS,hO,GD,F1,abV⟩:=KA H h
 clear h
 subst hq
 split at h2
 .rename_i u hu
  obtain⟨hg,h⟩:=ax h2
  clear h2
  simp only[Bool.and_eq_true] at hg
  obtain⟨g1,g2,g3,g4,g5⟩:=hg
  have g1:=b6 g1;have g2:=b6 g2;have g3:=b6 g3
  have e0:=aW h
  subst e0
  obtain⟨h0,h1⟩:bX i l.length:=cE _ List.mem_cons_self
  have YB:AN hh (i.toNat*sz+off):=cE _ (List.mem_cons_of_mem _ List.mem_cons_self)
  have oe:¬F b:=hF b (Nat.le_refl _) (hB (b,none) (List.mem_cons_of_mem _ List.mem_cons_self))
  subst g1
  have hi:i.toNat<l.length:=by omega
  obtain⟨k1,k2⟩:=uO hu
  rw[g3] at k1 k2
  rw[aaS g3] at k2
  have jU:off<aF ty:=by omega
  rw[Iy (by rw[dw];exact jU)] at k2
  have Iq:=AQ (t:=ty) hi jU k2
  generalize Ct:i.toNat*aF ty+off=cc at YB Iq
  have Kz:(i.toNat+1)*aF ty<=l.length*aF ty:=Nat.mul_le_mul_right _ hi
  rw[Nat.succ_mul] at Kz
  have Ni:cc<l.length*aF ty:=by omega
  have hm:bw A r j=some ((X2.nest qf hh e ty ie l).den A j):=by show(r j).map _=_;rw[hj];rfl
  have hN:iO S w (A.v j) (A.f qf) hh e ty ie l:=H.bB.ok j _ hm
  obtain⟨xs,n1,n2,n3⟩:=hN.row
  have Nj:((c.den A).cells.toList=[c.den A])/\(c.den A).oneCell'=true:=by
   obtain⟨z1,z2⟩:=uM (A:=A) (q:=.one c) (by simp[aH,Ng]) (fun ps q=>by cases q)
   exact⟨z1,z2 _ (by simp[aH])⟩
  obtain⟨w',bY,pO,hG,dc⟩:=M3 (P:=P) (t:=t) (c:=cc) n1 Nj.1 (by simp;omega) (by simp) (by simpa using vK g2 g4) (by simpa using Nj.2)
  have hx:a.eval x= .pointer (some ⟨Ar (A.v j),As (A.v j)+cc,none⟩):=by
   rw[hx,<-Ct,<-Nat.add_assoc];rfl
  have e2:=yd (P:=P) ho hx hy bY
  unfold Oper.wp
  rw[show(execOp a.eval op).run P w=_ from e2]
  refine k undef _ ?_
  have Rw:xs.length=l.length*aF ty:=n1.1
  simp only[List.length_singleton] at pO
  rw[Iy (by omega)] at pO
  let g:Lit->Value:=fun x=>if x=ix cc then c.den A else A.f qf x
  have gc:g (ix cc)=c.den A:=if_pos rfl
  have gn:∀d,d≠cc->g (ix d)=A.f qf (ix d):=fun d hd=>if_neg fun q=>hd (Vf q)
  have vz:cR F A (A.dF b g):=cR.dF oe g
  have hjF:=(H.dB j _ hj).1
  have hvj:(A.dF b g).v j=A.v j:=((vz j hjF).1).symm
  let K:Nat->Prop:=fun c=>c=j\/c∈ks
  have hjK:∀bb,(A.v j).ownBlock=some bb->gK A r K bb:=fun bb hb=>⟨j,_,.inl rfl,hj,.inl hb⟩
  have hnh:∀d bb,d<l.length*aF ty->d≠cc->(A.f qf (ix d)).ownBlock=some bb->((R2.ext (.nest qf hh e ty ie l)).den A j).has bb:=fun d bb hd cO hb=>by
   refine .inr ⟨d,hd,fun q=>?_,hb⟩
   subst q;exact cO YB
  have cO:∀d,d≠cc->hh≠some d:=fun d hd q=>by subst q;exact hd YB
  have hkK:∀bb,(c.den A).ownBlock=some bb->gK A r K bb:=fun bb hb=>let⟨i,x,h1,h2,h3⟩:=F1 bb hb;⟨i,x,.inr h1,h2,h3⟩
  have Mt:∀bb,(c.den A).ownBlock=some bb->((R2.ext (.nest qf hh e ty ie l)).den A j).has bb->False:=fun bb hb Mm=>by
   obtain⟨i,x,h1,h2,h3⟩:=F1 bb hb
   have:=H.bB.apart i j _ _ bb (show bw A r i=some (x.den A i) by simp[bw,h2]) hm h3 Mm
   subst this
   have:=List.all_eq_true.1 g5 _ h1
   simp at this
  have kz:jZ w w' (gK A r K):=(jZ.of hG).mono fun bb hb=>hjK bb hb
  have hk:=H.AP kz
  have kr:∀bb,((R2.ext (.nest qf hh e ty ie l)).den A j).has bb->(A.v j).ownBlock≠some bb->w'.heap[bb]?=w.heap[bb]?:=fun bb hb cO=>hG.block bb (H.bB.own j _ bb hm hb).2.1 fun z=>cO z.symm
  have hH2:=H.swap vz (re:=(j,some (.ext (.nest b none e ty ie (l.set i.toNat u))))::(b,none)::ks.map fun k=>(k,none)) (S':=S) K (fun d hd=>by
   rcases hd with rfl|hd
   .exact⟨_,List.mem_cons_self⟩
   exact⟨none,List.mem_cons_of_mem _ (List.mem_cons_of_mem _ (List.mem_map.2 ⟨d,hd,rfl⟩))⟩) kz (fun _ q=>q) (fun _ q=>.inl q) (fun d z hz=>?_) (fun d d' z z' bb h1 h2 _ _=>?_)
  .refine⟨_,S,hH2,rfl,tv,tv⟩
  .have hz:(d,some z)=(j,some (.ext (.nest b none e ty ie (l.set i.toNat u)))):=by
    rcases List.mem_cons.1 hz with hz|hz
    .exact hz
    rcases List.mem_cons.1 hz with hz|hz
    .cases hz
    obtain⟨_,_,q⟩:=List.mem_map.1 hz;cases q
   cases hz
   have hlen:(l.set i.toNat u).length=l.length:=List.length_set
   refine⟨.inr ⟨none,List.mem_cons_of_mem _ List.mem_cons_self⟩,tv,rfl,?_,fun bb hb=>?_⟩
   .show iO S w' ((A.dF b g).v j) ((A.dF b g).f b) none e ty ie (l.set i.toNat u)
    rw[hvj,bF.j6]
    refine⟨⟨xs.set cc (c.den A),by rw[hlen];exact pO,fun u' FX=>?_,fun d x XE _=>?_⟩,fun d1 d2 bb h1 h2 _ _ h3 h4=>?_,fun d bb h1 _ h3=>?_⟩
    .rcases List.mem_or_eq_of_mem_set FX with q|rfl
     .exact n2 u' q
     exact Nj.2
    .rw[Iq] at XE
     by_cases q:d=cc
     .subst q
      rw[List.getElem?_set_self (by rw[dV];exact Ni)] at XE
      cases XE
      rw[gc,List.getElem?_set_self (by omega)]
      refine⟨rfl,hO.keep hk fun bb hb=>?_⟩
      exact hG.block bb (H.kX (hkK bb hb)).2.1 fun q=>Mt bb hb (.inl q.symm)
     rw[List.getElem?_set_ne (fun z=>q z.symm)] at XE
     rw[gn d q,List.getElem?_set_ne (fun z=>q z.symm)]
     obtain⟨m1,m2⟩:=n3 d x XE (cO d q)
     refine⟨m1,m2.keep hk fun bb hb=>?_⟩
     have zO:=(List.getElem?_eq_some_iff.1 XE).1
     rw[dV] at zO
     exact kr bb (hnh d bb zO q hb) fun z=>hN.out d bb zO (cO d q) hb z
    .rw[hlen] at h1 h2
     by_cases q1:d1=cc<;>by_cases q2:d2=cc
     .rw[q1,q2]
     .subst q1;rw[gc] at h3;rw[gn d2 q2] at h4
      exact(Mt bb h3 (hnh d2 bb h2 q2 h4)).elim
     .subst q2;rw[gc] at h4;rw[gn d1 q1] at h3
      exact(Mt bb h4 (hnh d1 bb h1 q1 h3)).elim
     rw[gn d1 q1] at h3;rw[gn d2 q2] at h4
     exact hN.inj d1 d2 bb h1 h2 (cO d1 q1) (cO d2 q2) h3 h4
    rw[hlen] at h1
    by_cases q:d=cc
    .subst q;rw[gc] at h3;exact fun z=>Mt bb h3 (.inl z)
    rw[gn d q] at h3;exact hN.out d bb h1 (cO d q) h3
   have hb:(((A.dF b g).v j).ownBlock=some bb)\/∃d,d<(l.set i.toNat u).length*aF ty/\none≠some d/\(((A.dF b g).f b) (ix d)).ownBlock=some bb:=hb
   have n9:gK A r K bb:=by
    rcases hb with hb|⟨d,hd,_,hb⟩
    .rw[hvj] at hb;exact hjK bb hb
    rw[bF.j6] at hb
    rw[hlen] at hd
    by_cases q:d=cc
    .subst q;rw[gc] at hb;exact hkK bb hb
    rw[gn d q] at hb;exact⟨j,_,.inl rfl,hj,hnh d bb hd q hb⟩
   exact⟨.inl n9,by rw[dc];exact(H.kX n9).2.1⟩
  have key:∀ {d:Nat} {z:R2},(d,some z)∈(j,some (.ext (.nest b none e ty ie (l.set i.toNat u))))::(b,none)::(ks.map fun k=>(k,(none:Option R2)))->d=j:=fun hz=>by
   rcases List.mem_cons.1 hz with hz|hz
   .cases hz;rfl
   rcases List.mem_cons.1 hz with hz|hz
   .cases hz
   obtain⟨_,_,q⟩:=List.mem_map.1 hz;cases q
  rw[key h1,key h2]
 cases h2
theorem Cx {B:Nat}(H:cv o n A S F s r a w)(hF:∀j,b<=j->j<B->¬F j){op:Oper}{t:TypeId}{x y:Operand}{p q:Sy}{out:Out}(ho:op.op= .store t x y)(hx:a.eval x=p.den A)(hy:a.eval y=q.den A)(hq:q.all F/\q.b7 A)
  (h:(Cq P b t p q).run s r=some out) (cE:∀p∈out.cs,p) (hB:∀p∈out.re,p.1<B) {K:Act->World->Prop} {Q:Exit->Act->World->Prop} (k:∀v w',eY o n F s r a out v w'->K (a.put op.dst v) w'):op.wp P a w K Q:=by
 unfold Cq at h
 split at h
 .unfold D7 at h
  obtain⟨R,hR,h⟩:=aY h
  split at h
  .split at h
   .obtain⟨hg,h⟩:=ax h
    exact Ed H ho hx hy hR hg h cE k
   cases h
  .exact Cw H hF ho hx hy hR h cE hB k
  cases h
 exact GC H ho hx hy hq h k
end
section
variable {P:Program}{o:bC}{n:Nat}{A A':bF}{S S' T:aL}{F G:Nat->Prop}{s:Nat->Option E2}{r:Nat->Option R2}{a:Act}{w w':World}{C:List (Nat×Bool)}{b:Nat}
theorem Ee (H:cv o n A S F s r a w){j qf:Nat}{hh:Option Nat}{e ie:TypeId}{ty:Ty}{l:List (El ty)}(hj:r j=some (.ext (.nest qf hh e ty ie l))):iO S w (A.v j) (A.f qf) hh e ty ie l:=
 H.bB.ok j ((X2.nest qf hh e ty ie l).den A j) (by show(r j).map _=_;rw[hj];rfl)
theorem KB (t:Ty)(l m:List (El t)):gA t (l++m)=gA t l++gA t m:=List.flatMap_append
theorem Rx (H:cv o n A S F s r a w)(hF:¬F b){t e:TypeId}{ty:Ty}{bytes:Nat}(E:L8 P t e (aF ty) bytes)(Ku:bytes<=1000){ie:TypeId}{l m:List (El ty)}{v:Value}{old:Option Nat}
  (hold:match old with
   |some j=>v=A.v j/\∃qf,r j=some (.ext (.nest qf none e ty ie l))
   |none=>v= .slice none 0 0/\l=[])
  {i qi:Nat} {e':TypeId} (hi:r i=some (.ext (.nest qi none e' ty ie m))) (cO:old≠some i) (hlen:l.length+m.length<=2147483647) (Yx:TypeId):
  ∃v' w',(Builtin.append_ #[t,t] Yx #[v,A.v i]).run P w= .ok v' w'/\∃A',cv o n A' S (FU F ((b,some (.ext (.nest b none e ty ie (l++m))))::(old.toList.map (fun j=>(j,none))++[(i,none)]))) s (aQ r ((b,some (.ext (.nest b none e ty ie (l++m))))::(old.toList.map (fun j=>(j,none))++[(i,none)]))) a w'/\v'=A'.v b:=by
 have Vh:=Ee H hi
 obtain⟨ys,i1,i2,i3⟩:=Vh.row
 obtain⟨f0,xs,x1,x2,x3,Nk,aaT,QU⟩:∃f0:Lit->Value,∃xs,gw w e (aF ty) v l.length xs/\(∀u∈xs,u.oneCell'=true)/\(∀c x,(gA ty l)[c]?=some x->xs[c]?=some (f0 (ix c))/\rR S w ie (f0 (ix c)) x)/\
   (∀c d bb,c<l.length*aF ty->d<l.length*aF ty->(f0 (ix c)).ownBlock=some bb->(f0 (ix d)).ownBlock=some bb->c=d)/\(∀c bb,c<l.length*aF ty->(f0 (ix c)).ownBlock=some bb->v.ownBlock≠some bb)/\
   (∀bb,(v.ownBlock=some bb\/∃c,c<l.length*aF ty/\(f0 (ix c)).ownBlock=some bb)->∃j x,old=some j/\r j=some x/\(x.den A j).has bb):=by
  cases old with
  |some j=>
   obtain⟨rfl,qf,hj⟩:=hold
   have hN:=Ee H hj
   obtain⟨xs,n1,n2,n3⟩:=hN.row
   refine⟨A.f qf,xs,n1,n2,fun c x hc=>n3 c x hc (by simp),fun c d bb h1 h2=>hN.inj c d bb h1 h2 (by simp) (by simp),fun c bb h1=>hN.out c bb h1 (by simp),fun bb hb=>⟨j,_,rfl,hj,?_⟩⟩
   rcases hb with hb|⟨c,h1,h2⟩
   .exact .inl hb
   exact .inr ⟨c,h1,by simp,h2⟩
  |none=>
   obtain⟨rfl,rfl⟩:=hold
   refine⟨fun _=>undef,[],gw.nil w e _,fun _ q=>(by cases q),fun c x hc=>by simp[gA] at hc,fun c d bb h1=>by simp at h1,fun c bb h1=>by simp at h1,fun bb hb=>?_⟩
   rcases hb with hb|⟨c,h1,_⟩
   .cases hb
   simp at h1
 have GF:∀bb,(v.ownBlock=some bb\/∃c,c<l.length*aF ty/\(f0 (ix c)).ownBlock=some bb)->∀c,c<m.length*aF ty->(A.f qi (ix c)).ownBlock=some bb->False:=fun bb hb c hc h2=>by
  obtain⟨j,x,q1,q2,q3⟩:=QU bb hb
  have:=H.bB.apart j i _ _ bb (show bw A r j=some (x.den A j) by simp[bw,q2]) (show bw A r i=some ((R2.ext (.nest qi none e' ty ie m)).den A i) by simp[bw,hi]) q3 (.inr ⟨c,hc,by simp,h2⟩)
  subst this;exact cO q1
 obtain⟨v',w',hr,k1,k2,k3⟩:=Is (ty:=Yx) E x1 (Cv E.under i1 i2) (by simp only[maxLen];omega) (by have:=Nat.mul_le_mul hlen Ku;omega)
 refine⟨v',w',hr,?_⟩
 obtain⟨p',c',Kx,_⟩:=k1.slice
 let g:Lit->Value:=fun x=>match x with
  | .int _ z=>if z<(l.length*aF ty:Nat) then f0 x else A.f qi (ix (z-(l.length*aF ty:Nat)).toNat)
  |_=>undef
 have g1:∀c,c<l.length*aF ty->g (ix c)=f0 (ix c):=fun c hc=>by
  show(if((c:Int)<(l.length*aF ty:Nat)) then _ else _)=_
  rw[if_pos (by omega)]
 have g2:∀c,l.length*aF ty<=c->g (ix c)=A.f qi (ix (c-l.length*aF ty)):=fun c hc=>by
  show(if((c:Int)<(l.length*aF ty:Nat)) then _ else _)=_
  rw[if_neg (by omega)]
  congr 2;omega
 have vz:cR F A ((A.set b p' (l.length+m.length) c' 0).dF b g):=(cR.set hF _ _ _ _).trans (cR.dF hF g)
 have Ef:((A.set b p' (l.length+m.length) c' 0).dF b g).v b=v':=by rw[Kx];exact bF.ku A b p' (l.length+m.length) c' 0
 let K:Nat->Prop:=fun c=>old=some c\/c=i
 have hl:∀bb,(v.ownBlock=some bb\/∃c,c<l.length*aF ty/\(f0 (ix c)).ownBlock=some bb)->gK A r K bb:=fun bb hb=>let⟨j,x,q1,q2,q3⟩:=QU bb hb;⟨j,x,.inl q1,q2,q3⟩
 have hm:∀bb c,c<m.length*aF ty->(A.f qi (ix c)).ownBlock=some bb->gK A r K bb:=fun bb c h1 h2=>⟨i,_,.inr rfl,hi,.inr ⟨c,h1,by simp,h2⟩⟩
 have kz:jZ w w' (gK A r K):=(jZ.of k2).mono fun bb hb=>hl bb (.inl hb)
 have hk:=H.AP kz
 have pG:∀ {d:Nat} {z:R2},(d,some z)∈(b,some (.ext (.nest b none e ty ie (l++m))))::(old.toList.map (fun j=>(j,(none:Option R2)))++[(i,none)])->(d,some z)=(b,some (.ext (.nest b none e ty ie (l++m)))):=fun hz=>by
  rcases List.mem_cons.1 hz with hz|hz
  .exact hz
  rcases List.mem_append.1 hz with hz|hz
  .obtain⟨_,_,q⟩:=List.mem_map.1 hz;cases q
  cases List.mem_singleton.1 hz
 have Nf:(l++m).length*aF ty=l.length*aF ty+m.length*aF ty:=by rw[List.length_append,Nat.add_mul]
 have Du:∀c bb,c<(l++m).length*aF ty->(g (ix c)).ownBlock=some bb->gK A r K bb/\v.ownBlock≠some bb:=fun c bb hc hb=>by
  rw[Nf] at hc
  by_cases q:c<l.length*aF ty
  .rw[g1 c q] at hb;exact⟨hl bb (.inr ⟨c,q,hb⟩),aaT c bb q hb⟩
  rw[g2 c (by omega)] at hb
  exact⟨hm bb _ (by omega) hb,fun z=>GF bb (.inl z) _ (by omega) hb⟩
 have hstay:∀c bb,c<(l++m).length*aF ty->(g (ix c)).ownBlock=some bb->w'.heap[bb]?=w.heap[bb]?:=fun c bb hc hb=>by
  obtain⟨q1,q2⟩:=Du c bb hc hb
  exact k2.block bb (H.kX q1).2.1 fun z=>q2 z.symm
 refine⟨(A.set b p' (l.length+m.length) c' 0).dF b g,H.swap vz (S':=S) K (fun d hd=>⟨none,?_⟩) kz (fun _ q=>q) (fun _ q=>.inl q) (fun d z hz=>?_) (fun d d' z z' bb h1 h2 _ _=>?_),Ef.symm⟩
 .rcases hd with hd|rfl
  .exact List.mem_cons_of_mem _ (List.mem_append_left _ (List.mem_map.2 ⟨d,by rw[hd];simp,rfl⟩))
  exact List.mem_cons_of_mem _ (List.mem_append_right _ (List.mem_singleton.2 rfl))
 .cases pG hz
  refine⟨.inr ⟨_,List.mem_cons_self⟩,tv,rfl,?_,fun bb hb=>?_⟩
  .show iO S w' (((A.set b p' (l.length+m.length) c' 0).dF b g).v b) (((A.set b p' (l.length+m.length) c' 0).dF b g).f b) none e ty ie (l++m)
   rw[Ef,bF.j6]
   refine⟨⟨xs++ys,by rw[List.length_append];exact k1,fun u hu=>(List.mem_append.1 hu).elim (x2 u) (i2 u),fun c x hc _=>?_⟩,fun c d bb h1 h2 _ _ h3 h4=>?_,fun c bb h1 _ h3 h4=>?_⟩
   .have Ni:=(List.getElem?_eq_some_iff.1 hc).1
    rw[dV] at Ni
    rw[KB] at hc
    have uB:=hstay c
    by_cases q:c<l.length*aF ty
    .rw[List.getElem?_append_left (by rw[dV];exact q)] at hc
     obtain⟨m1,m2⟩:=x3 c x hc
     rw[List.getElem?_append_left (by rw[x1.1];exact q)]
     rw[g1 c q] at uB ⊢
     exact⟨m1,m2.keep hk fun bb hb=>uB bb Ni hb⟩
    rw[List.getElem?_append_right (by rw[dV];omega),dV] at hc
    obtain⟨m1,m2⟩:=i3 _ x hc (by simp)
    rw[List.getElem?_append_right (by rw[x1.1];omega),x1.1]
    rw[g2 c (by omega)] at uB ⊢
    exact⟨m1,m2.keep hk fun bb hb=>uB bb Ni hb⟩
   .rw[Nf] at h1 h2
    by_cases q1:c<l.length*aF ty<;>by_cases q2:d<l.length*aF ty
    .rw[g1 c q1] at h3;rw[g1 d q2] at h4;exact Nk c d bb q1 q2 h3 h4
    .rw[g1 c q1] at h3;rw[g2 d (by omega)] at h4;exact(GF bb (.inr ⟨c,q1,h3⟩) _ (by omega) h4).elim
    .rw[g2 c (by omega)] at h3;rw[g1 d q2] at h4;exact(GF bb (.inr ⟨d,q2,h4⟩) _ (by omega) h3).elim
    rw[g2 c (by omega)] at h3;rw[g2 d (by omega)] at h4
    have:=Vh.inj _ _ bb (by omega) (by omega) (by simp) (by simp) h3 h4
    omega
   obtain⟨q1,q2⟩:=Du c bb h1 h3
   rcases k3 bb h4 with q|q
   .exact q2 q
   have:=(H.kX q1).2.1;omega
  have hb:(((A.set b p' (l.length+m.length) c' 0).dF b g).v b).ownBlock=some bb\/∃d,d<(l++m).length*aF ty/\none≠some d/\((((A.set b p' (l.length+m.length) c' 0).dF b g).f b) (ix d)).ownBlock=some bb:=hb
  rcases hb with hb|⟨d,hd,_,hb⟩
  .rw[Ef] at hb
   rcases k3 bb hb with q|q
   .have:=hl bb (.inl q)
    exact⟨.inl this,Nat.lt_of_lt_of_le (H.kX this).2.1 k2.size⟩
   exact⟨.inr q.1,q.2⟩
  rw[bF.j6] at hb
  have:=(Du d bb hd hb).1
  exact⟨.inl this,Nat.lt_of_lt_of_le (H.kX this).2.1 k2.size⟩
 cases pG h1;cases pG h2;rfl
theorem Nl {ie:TypeId}{x:l6}{c:Sc}(h:M6 x c=true)(hc:kR T w (c.den A) x):(∀i,c≠.own i)/\rR S w ie (c.den A) x/\(c.den A).oneCell'=true/\∀bb,(c.den A).ownBlock≠some bb:=by
 unfold M6 at h
 split at h
 .rename_i t l
  have hl:l=[]:=by
   obtain⟨p,cc,e,_⟩:=fc (cq (show Rd T w (.slice none 0 0) l from hc))
   injection e with _ e2 _
   exact List.eq_nil_of_length_eq_zero e2.symm
  subst hl
  exact⟨(fun i q=>by cases q),dg.nil,rfl,fun bb q=>by cases q⟩
 .exact⟨(fun i q=>by cases q),⟨hc,rfl⟩,rfl,fun bb q=>by cases q⟩
 .exact⟨(fun i q=>by cases q),⟨hc,rfl⟩,rfl,fun bb q=>by cases q⟩
 .exact⟨(fun i q=>by cases q),⟨hc,rfl⟩,rfl,fun bb q=>by cases q⟩
 cases h
theorem KC (H:cv o n A S F s r a w){ie:TypeId}:∀ {cs:List l6} {l:List Sc} {k:List Prop->List Nat->Tr Out} {out:Out},(D8 ie cs l k).run s r=some out->bV T w (l.map (Sc.den A)) cs->
  ∃ps ks,(k ps ks).run s r=some out/\((∀p∈ps,p)->(∀i∈ks,∃x,r i=some x)/\(∀(d:Nat) (x:l6) (c:Sc),cs[d]?=some x->l[d]?=some c->rR S w ie (c.den A) x/\(c.den A).oneCell'=true/\∀bb,(c.den A).ownBlock=some bb->∃i x,c= .own i/\i∈ks/\r i=some x/\(x.den A i).has bb))/\
   (∀(d i:Nat),l[d]?=some (Sc.own i)->i∈ks)/\∀(d d' i:Nat),l[d]?=some (Sc.own i)->l[d']?=some (Sc.own i)->d=d':=by
 intro cs
 induction cs with
 |nil=>
  intro l k out h hc
  cases l with
  |nil=>exact⟨[],[],h,fun _=>⟨fun _ q=>(by cases q),fun d x c q=>by simp at q⟩,fun d i q=>by simp at q,fun d d' i q=>by simp at q⟩
  |cons _ _=>cases h
 |cons x cs ih=>
  intro l k out h hc
  cases l with
  |nil=>cases h
  |cons c l=>
   have vI:kR T w (c.den A) x:=hc.1
   simp only[D8] at h
   split at h
   .rename_i i
    split at h
    .rename_i t' l'
     obtain⟨z,hz,h⟩:=aY h
     split at h
     .rename_i Gw ty m
      split at h
      .rename_i m' hm
       obtain⟨hg,h⟩:=ax h
       have:=b6 hg;subst this
       obtain⟨e,F3⟩:=eE hm
       have e:ty=t':=by injection e
       subst e
       have F3:m=m':=F3
       subst F3
       obtain⟨ps,ks,q1,q2,q5,q4⟩:=ih h hc.2
       obtain⟨hg2,q1⟩:=ax q1
       have hO:dg S w Gw (A.v i) m:=H.bB.ok i (o5 Gw (A.v i) m) (by show(r i).map _=_;rw[hz];rfl)
       have ye:∀(d:Nat),l[d]?=some (Sc.own i)->False:=fun d hd=>by
        have:=List.all_eq_true.1 hg2 _ (q5 d i hd)
        simp at this
       refine⟨_,i::ks,q1,fun hp=>?_,fun d i' e1=>?_,fun d d' i' e1 e2=>?_⟩
       .have wJ:m=l':=hp _ List.mem_cons_self
        subst wJ
        obtain⟨q2,q3⟩:=q2 fun p hpp=>hp p (List.mem_cons_of_mem _ hpp)
        refine⟨fun i' LM=>?_,fun d x' c' e1 e2=>?_⟩
        .rcases List.mem_cons.1 LM with rfl|LM
         .exact⟨_,hz⟩
         exact q2 i' LM
        cases d with
        |zero=>
         simp only[List.getElem?_cons_zero,Option.some.injEq] at e1 e2
         subst e1;subst e2
         exact⟨hO,rfl,fun bb hb=>⟨i,_,rfl,List.mem_cons_self,hz,hb⟩⟩
        |succ d=>
         simp only[List.getElem?_cons_succ] at e1 e2
         obtain⟨z1,z2,z3⟩:=q3 d x' c' e1 e2
         exact⟨z1,z2,fun bb hb=>let⟨i',x,y1,y2,y3⟩:=z3 bb hb;⟨i',x,y1,List.mem_cons_of_mem _ y2,y3⟩⟩
       .cases d with
        |zero=>simp only[List.getElem?_cons_zero,Option.some.injEq,Sc.own.injEq] at e1;subst e1;exact List.mem_cons_self
        |succ d=>simp only[List.getElem?_cons_succ] at e1;exact List.mem_cons_of_mem _ (q5 d i' e1)
       cases d with
       |zero=>
        cases d' with
        |zero=>rfl
        |succ d'=>
         simp only[List.getElem?_cons_zero,List.getElem?_cons_succ,Option.some.injEq,Sc.own.injEq] at e1 e2
         subst e1;exact(ye d' e2).elim
       |succ d=>
        cases d' with
        |zero=>
         simp only[List.getElem?_cons_zero,List.getElem?_cons_succ,Option.some.injEq,Sc.own.injEq] at e1 e2
         subst e2;exact(ye d e1).elim
        |succ d'=>simp only[List.getElem?_cons_succ] at e1 e2;rw[q4 d d' i' e1 e2]
      cases h
     cases h
    cases h
   obtain⟨hf,h⟩:=ax h
   obtain⟨cO,hO,h1,ye⟩:=Nl (ie:=ie) (S:=S) hf vI
   obtain⟨ps,ks,q1,q2,q5,q4⟩:=ih h hc.2
   refine⟨ps,ks,q1,fun hp=>?_,fun d i e1=>?_,fun d d' i e1 e2=>?_⟩
   .obtain⟨q2,q3⟩:=q2 hp
    refine⟨q2,fun d x' c' e1 e2=>?_⟩
    cases d with
    |zero=>
     simp only[List.getElem?_cons_zero,Option.some.injEq] at e1 e2
     subst e1;subst e2
     exact⟨hO,h1,fun bb hb=>(ye bb hb).elim⟩
    |succ d=>simp only[List.getElem?_cons_succ] at e1 e2;exact q3 d x' c' e1 e2
   .cases d with
    |zero=>simp only[List.getElem?_cons_zero,Option.some.injEq] at e1;exact(cO i e1).elim
    |succ d=>simp only[List.getElem?_cons_succ] at e1;exact q5 d i e1
   cases d with
   |zero=>simp only[List.getElem?_cons_zero,Option.some.injEq] at e1;exact(cO i e1).elim
   |succ d=>
    cases d' with
    |zero=>simp only[List.getElem?_cons_zero,Option.some.injEq] at e2;exact(cO i e2).elim
    |succ d'=>simp only[List.getElem?_cons_succ] at e1 e2;rw[q4 d d' i e1 e2]
theorem Ry {op:Oper}{t len:Nat}{parts:Array (Nat×Operand)}{ys:List Sy}(ho:op.op= .buildSlice t len parts)(dD:parts.toList.map (fun p=>a.eval p.2)=ys.map (Sy.den A)){u:Value}
  (bY:(x5 P t len (P.elem t) ((parts.toList.map (·.1)).zip ys) (ys.flatMap aH)).lhs A w= .ok u w'):(execOp a.eval op).run P w= .ok (.value u) w':=by
 simp only[x5] at bY
 have ep:parts.map (fun x=>(x.1,a.eval x.2))=(((parts.toList.map (·.1)).zip ys).map fun y=>(y.1,y.2.den A)).toArray:=by
  apply Array.ext'
  rw[Array.toList_map]
  show _=((parts.toList.map (·.1)).zip ys).map fun y=>(y.1,y.2.den A)
  have:(((parts.toList.map (·.1)).zip ys).map fun y=>(y.1,y.2.den A))=(parts.toList.map (·.1)).zip (ys.map (Sy.den A)):=by
   rw[List.zip_map_right]
   rfl
  rw[this,<-dD,List.zip_map']
 rw[<-ep] at bY
 simp only[execOp,ho,Sem.run_bind]
 rw[show(Array.map (fun x=>match x with|(i,x)=>(i,a.eval x)) parts)=parts.map (fun x=>(x.1,a.eval x.2)) from rfl,bY]
 rfl
theorem KD {B:Nat}(H:cv o n A S F s r a w)(hF:∀j,b<=j->j<B->¬F j){op:Oper}{t len:Nat}{parts:Array (Nat×Operand)}{ys:List Sy}{md:Bool}{out:Out}(ho:op.op= .buildSlice t len parts)(dD:parts.toList.map (fun p=>a.eval p.2)=ys.map (Sy.den A)) 
  (h:(M7 P md b t len (parts.toList.map (·.1)) ys).run s r=some out) (cE:∀p∈out.cs,p) (mN:∀h∈out.hs,∀A w,h.lhs A w=h.rhs A w) (hB:∀p∈out.re,p.1<B)
  {K:Act->World->Prop} {Q:Exit->Act->World->Prop} (k:∀v w',eY o n F s r a out v w'->K (a.put op.dst v) w'):op.wp P a w K Q:=by
 classical
 cases md with
 |false=>exact Nd H hF ho dD h mN hB k
 |true=>
  simp only[M7] at h
  split at h
  .rename_i ty ie Yz uP
   obtain⟨hg,h⟩:=ax h
   simp only[Bool.and_eq_true] at hg
   obtain⟨⟨hr,⟨gE,gH⟩,Rf⟩,hle⟩:=hg
   have gE:=b6 gE;have gH:=b6 gH;have hle:=Nat.le_of_ble_eq_true hle
   obtain⟨l,Nf,mc,xZ,h⟩:=pZ (T:=(· <w.heap.size)) (fun c _ j _=>AI H j) h
   obtain⟨ps,ks,h,q1,q2,q3⟩:=KC H h xZ
   have e:=aW h
   subst e
   obtain⟨q4,q5⟩:=q1 cE
   have bY:=mN _ (List.mem_singleton.2 rfl) A w
   have e2:=Ry (P:=P) (w:=w) ho dD (bY.trans rfl)
   refine bH e2 (k _ _ ?_)
   have hlen:l.length=len:=by rw[Nf,gH]
   have oe:¬F b:=hF b (Nat.le_refl _) (hB _ List.mem_cons_self)
   generalize abW:ys.flatMap aH=cl at*
   let g:Lit->Value:=fun x=>match x with
    | .int _ z=>(cl.map (Sc.den A)).getD z.toNat undef
    |_=>undef
   have hg:∀d c,cl[d]?=some c->g (ix d)=c.den A:=fun d c hc=>by
    show(cl.map (Sc.den A)).getD (d:Int).toNat undef=_
    rw[Int.toNat_natCast,List.getD_eq_getElem?_getD,List.getElem?_map,hc];rfl
   have vz:cR F A ((A.set b (some ⟨w.heap.size,0,none⟩) len len 0).dF b g):=(cR.set oe _ _ _ _).trans (cR.dF oe g)
   have Ef:((A.set b (some ⟨w.heap.size,0,none⟩) len len 0).dF b g).v b= .slice (some ⟨w.heap.size,0,none⟩) len len:=bF.ku A b (some ⟨w.heap.size,0,none⟩) len len 0
   let K:Nat->Prop:=fun c=>c∈ks
   have GG:cl.length=l.length*aF ty:=by
    have:=xZ.len
    rw[List.length_map,dV] at this;exact this
   have kG:∀d,d<l.length*aF ty->∃c x,cl[d]?=some c/\(gA ty l)[d]?=some x:=fun d hd=>⟨cl[d],(gA ty l)[d]'(by rw[dV];exact hd),List.getElem?_eq_getElem (by omega),List.getElem?_eq_getElem (by rw[dV];exact hd)⟩
   have iY:∀d bb,d<l.length*aF ty->(g (ix d)).ownBlock=some bb->∃i x,cl[d]?=some (.own i)/\i∈ks/\r i=some x/\(x.den A i).has bb:=fun d bb hd hb=>by
    obtain⟨c,x,hc,hx⟩:=kG d hd
    rw[hg d c hc] at hb
    obtain⟨_,_,z⟩:=q5 d x c hx hc
    obtain⟨i,y,y1,y2,y3,y4⟩:=z bb hb
    exact⟨i,y,by rw[hc,y1],y2,y3,y4⟩
   have Vw:∀d bb,d<l.length*aF ty->(g (ix d)).ownBlock=some bb->gK A r K bb:=fun d bb hd hb=>let⟨i,x,_,y2,y3,y4⟩:=iY d bb hd hb;⟨i,x,y2,y3,y4⟩
   have kz:jZ w (w.alloc (.cells (cl.map (Sc.den A)).toArray (P.elem t))) (gK A r K):=(jZ.below (H:=fun _=>False) (kM w _)).mono fun _ q=>q.elim
   have hk:=H.AP kz
   have pG:∀ {d:Nat} {z:R2},(d,some z)∈(b,some (.ext (.nest b none (P.elem t) ty ie l)))::(ks.map fun k=>(k,(none:Option R2)))->(d,some z)=(b,some (.ext (.nest b none (P.elem t) ty ie l))):=fun hz=>by
    rcases List.mem_cons.1 hz with hz|hz
    .exact hz
    obtain⟨_,_,q⟩:=List.mem_map.1 hz;cases q
   refine⟨(A.set b (some ⟨w.heap.size,0,none⟩) len len 0).dF b g,S,H.swap vz (S':=S) K (fun d hd=>⟨none,List.mem_cons_of_mem _ (List.mem_map.2 ⟨d,hd,rfl⟩)⟩) kz (fun _ q=>q) (fun _ q=>.inl q) (fun d z hz=>?_) (fun d d' z z' bb h1 h2 _ _=>by cases pG h1;cases pG h2;rfl),Ef.symm,.inr ⟨_,List.mem_cons_self⟩,tv⟩
   cases pG hz
   refine⟨.inr ⟨_,List.mem_cons_self⟩,tv,rfl,?_,fun bb hb=>?_⟩
   .show iO S _ (((A.set b (some ⟨w.heap.size,0,none⟩) len len 0).dF b g).v b) (((A.set b (some ⟨w.heap.size,0,none⟩) len len 0).dF b g).f b) none (P.elem t) ty ie l
    rw[Ef,bF.j6]
    refine⟨⟨cl.map (Sc.den A),⟨by rw[List.length_map,GG],.inr ⟨w.heap.size,0,len,_,by rw[Nat.zero_mul,hlen],heap_alloc_new w _,by omega,by simp only[maxLen];omega,by simp[GG,hlen],?_⟩⟩,fun u hu=>?_,fun d x hd _=>?_⟩,fun c d bb h1 h2 _ _ h3 h4=>?_,fun c bb h1 _ h3 h4=>?_⟩
    .rw[Nat.zero_mul,List.drop_zero,<-GG,List.toList_toArray,<-List.length_map (f:=Sc.den A),List.take_length]
    .obtain⟨c,hc,rfl⟩:=List.mem_map.1 hu
     obtain⟨d,hd⟩:=List.mem_iff_getElem?.1 hc
     have zO:=(List.getElem?_eq_some_iff.1 hd).1
     obtain⟨_,x,_,hx⟩:=kG d (by omega)
     exact(q5 d x c hx hd).2.1
    .have zO:=(List.getElem?_eq_some_iff.1 hd).1
     rw[dV] at zO
     obtain⟨c,_,hc,_⟩:=kG d zO
     obtain⟨z1,_,_⟩:=q5 d x c hd hc
     rw[hg d c hc]
     refine⟨by rw[List.getElem?_map,hc];rfl,z1.keep hk fun bb hb=>?_⟩
     exact heap_alloc_old w _ (H.kX (Vw d bb zO (by rw[hg d c hc];exact hb))).2.1
    .obtain⟨i,x,y1,y2,y3,y4⟩:=iY c bb h1 h3
     obtain⟨i',x',z1,z2,z3,z4⟩:=iY d bb h2 h4
     have:=H.bB.apart i i' _ _ bb (show bw A r i=some (x.den A i) by simp[bw,y3]) (show bw A r i'=some (x'.den A i') by simp[bw,z3]) y4 z4
     subst this
     exact q3 c d i y1 z1
    have:=(H.kX (Vw c bb h1 h3)).2.1
    cases h4
    exact Nat.lt_irrefl _ this
   have hb:(((A.set b (some ⟨w.heap.size,0,none⟩) len len 0).dF b g).v b).ownBlock=some bb\/∃d,d<l.length*aF ty/\none≠some d/\((((A.set b (some ⟨w.heap.size,0,none⟩) len len 0).dF b g).f b) (ix d)).ownBlock=some bb:=hb
   rcases hb with hb|⟨d,hd,_,hb⟩
   .rw[Ef] at hb;cases hb
    exact⟨.inr (Nat.le_refl _),by simp⟩
   rw[bF.j6] at hb
   have:=Vw d bb hd hb
   exact⟨.inl this,Nat.lt_of_lt_of_le (H.kX this).2.1 kz.size⟩
  cases h
end
section
variable {P:Program}{o:bC}{n:Nat}{A A':bF}{S S' T:aL}{F G:Nat->Prop}{s:Nat->Option E2}{r:Nat->Option R2}{a:Act}{w w':World}{C:List (Nat×Bool)}{b:Nat}
theorem Rz (H:cv o n A S F s r a w)(hF:¬F b){j qf:Nat}{kc:Kc}{hh:Option (bL kc)}{ty:Ty}{ie:TypeId}{m:bh kc (List (El ty))}(hj:r j=some (.ext (.ff qf kc hh ty ie m))){kx:bL kc}(YB:tA hh kx)
  {t kt et:TypeId} (hu:P.underlying t=some (.map kt et)) (hk:P.underlying kt=some (iz kc)) (hw:cA kc kx) (hlen:(show List (bL kc×List (El ty)) from m).length<=2147483647) {v:Value} {l:List (El ty)} (hO:dg S w ie v l)
  {ks:List Nat} (cO:∀i∈ks,i≠j) (GD:∀c,v.ownBlock=some c->gK A r (fun i=>i∈ks) c):
  ∃w',(Instr.mapUpdate t (.map (A.m j)) (fP kc kx) v).run P w= .ok () w'/\∃A',cR F A A'/\cv o n A' S (FU F ((j,some (.ext (.ff b kc none ty ie (gD (show List (bL kc×List (El ty)) from m) kx l))))::(b,none)::ks.map fun i=>(i,none))) s (aQ r ((j,some (.ext (.ff b kc none ty ie (gD (show List (bL kc×List (El ty)) from m) kx l))))::(b,none)::ks.map fun i=>(i,none))) a w':=by
 classical
 have hm:bw A r j=some ((X2.ff qf kc hh ty ie m).den A j):=by show(r j).map _=_;rw[hj];rfl
 obtain⟨dM,hb,N⟩:∃dM,A.m j=some dM/\su S w dM (A.f qf) hh ie m:=H.bB.ok j _ hm
 obtain⟨zs,n1,n2,n3⟩:=N.map
 obtain⟨w',bY,LJ,hG,dc⟩:=n1.put hu hk (by rw[List.length_map];rw[n2] at hlen;simpa using hlen) hw v
 refine⟨w',by rw[hb];exact bY,?_⟩
 let g:Lit->Value:=fun x=>if x=cN kc kx then v else A.f qf x
 have gc:g (cN kc kx)=v:=if_pos rfl
 have gn:∀y,y≠kx->g (cN kc y)=A.f qf (cN kc y):=fun y hy=>if_neg fun q=>hy (DJ kc q)
 have vz:cR F A (A.dF b g):=cR.dF hF g
 let K:Nat->Prop:=fun c=>c=j\/c∈ks
 have Cy:∀y,y≠kx->hh≠some y:=fun y hy q=>by subst q;exact hy YB
 have hvK:∀c,v.ownBlock=some c->gK A r K c:=fun c hc=>let⟨i,x,h1,h2,h3⟩:=GD c hc;⟨i,x,.inr h1,h2,h3⟩
 have hoK:∀y c,y≠kx->(A.f qf (cN kc y)).ownBlock=some c->gK A r K c:=fun y c hy hc=>⟨j,_,.inl rfl,hj,.inr ⟨y,Cy y hy,hc⟩⟩
 have hbK:gK A r K dM:=⟨j,_,.inl rfl,hj,.inl hb⟩
 have Mt:∀c,v.ownBlock=some c->((R2.ext (.ff qf kc hh ty ie m)).den A j).has c->False:=fun c hc h2=>by
  obtain⟨i,x,h3,h4,h5⟩:=GD c hc
  exact cO i h3 (H.bB.apart i j _ _ c (show bw A r i=some (x.den A i) by simp[bw,h4]) hm h5 h2)
 have kz:jZ w w' (gK A r K):=(jZ.of hG).mono fun c hc=>by
  have hc:some dM=some c:=hc
  cases hc;exact hbK
 have Un:=H.AP kz
 have hstay:∀c,c≠dM->gK A r K c->w'.heap[c]?=w.heap[c]?:=fun c hc hK=>hG.block c (H.kX hK).2.1 fun q=>hc (by cases q;rfl)
 have pG:∀ {d:Nat} {z:R2},(d,some z)∈(j,some (.ext (.ff b kc none ty ie (gD (show List (bL kc×List (El ty)) from m) kx l))))::(b,none)::(ks.map fun i=>(i,(none:Option R2)))->(d,some z)=(j,some (.ext (.ff b kc none ty ie (gD (show List (bL kc×List (El ty)) from m) kx l)))):=fun hz=>by
  rcases List.mem_cons.1 hz with hz|hz
  .exact hz
  rcases List.mem_cons.1 hz with hz|hz
  .cases hz
  obtain⟨_,_,q⟩:=List.mem_map.1 hz;cases q
 refine⟨A.dF b g,vz,H.swap vz (S':=S) K (fun d hd=>?_) kz (fun _ q=>q) (fun _ q=>.inl q) (fun d z hz=>?_) (fun d d' z z' bb h1 h2 _ _=>by cases pG h1;cases pG h2;rfl)⟩
 .rcases hd with rfl|hd
  .exact⟨_,List.mem_cons_self⟩
  exact⟨none,List.mem_cons_of_mem _ (List.mem_cons_of_mem _ (List.mem_map.2 ⟨d,hd,rfl⟩))⟩
 cases pG hz
 refine⟨.inr ⟨none,List.mem_cons_of_mem _ List.mem_cons_self⟩,tv,rfl,?_,fun c hc=>?_⟩
 .show ∃bb,(A.dF b g).m j=some bb/\su S w' bb ((A.dF b g).f b) none ie (gD (show List (bL kc×List (El ty)) from m) kx l)
  rw[bF.j6]
  refine⟨dM,hb,⟨gD zs kx (v,l),by rw[jQ (fun y:Value×List (El ty)=>y.1)];exact LJ,by rw[jQ (fun y:Value×List (El ty)=>y.2),n2],fun z hz _=>?_⟩,fun y hy _=>?_,fun x y c _ _ h1 h2=>?_,fun x c _ h1 h2=>?_⟩
  .rcases pS.1 hz with rfl|⟨hz,RA⟩
   .exact⟨gc.symm,hO.keep Un fun c hc=>hstay c (fun q=>by subst q;exact Mt _ hc (.inl hb)) (hvK c hc)⟩
   obtain⟨m1,m2⟩:=n3 z hz (Cy _ RA)
   refine⟨by rw[gn _ RA];exact m1,m2.keep Un fun c hc=>?_⟩
   rw[m1] at hc
   exact hstay c (fun q=>N.out z.1 c (Cy _ RA) hc q) (hoK _ c RA hc)
  .rw[AD] at hy
   split at hy
   .cases hy
   rename_i AR
   rw[gn y fun q=>AR q.symm]
   exact N.Xu y hy (Cy y fun q=>AR q.symm)
  .by_cases q1:x=kx<;>by_cases q2:y=kx
   .rw[q1,q2]
   .subst q1;rw[gc] at h1;rw[gn y q2] at h2
    exact(Mt c h1 (.inr ⟨y,Cy y q2,h2⟩)).elim
   .subst q2;rw[gc] at h2;rw[gn x q1] at h1
    exact(Mt c h2 (.inr ⟨x,Cy x q1,h1⟩)).elim
   rw[gn x q1] at h1;rw[gn y q2] at h2
   exact N.inj x y c (Cy x q1) (Cy y q2) h1 h2
  by_cases q:x=kx
  .subst q;rw[gc] at h1;subst h2;exact Mt _ h1 (.inl hb)
  rw[gn x q] at h1;exact N.out x c (Cy x q) h1 h2
 have hc:(A.dF b g).m j=some c\/∃x,none≠some x/\(((A.dF b g).f b) (cN kc x)).ownBlock=some c:=hc
 have n9:gK A r K c:=by
  rcases hc with hc|⟨x,_,hc⟩
  .have hc:A.m j=some c:=hc
   rw[hb] at hc;cases hc;exact hbK
  rw[bF.j6] at hc
  by_cases q:x=kx
  .subst q;rw[gc] at hc;exact hvK c hc
  rw[gn x q] at hc;exact hoK x c q hc
 exact⟨.inl n9,Nat.lt_of_lt_of_le (H.kX n9).2.1 kz.size⟩
theorem AS {B:Nat}(H:cv o n A S F s r a w)(hF:∀j,b<=j->j<B->¬F j){op:Oper}{t:TypeId}{m x y:Operand}{p q z:Sy}{out:Out}(ho:op.op= .mapUpdate t m x y\/op.op= .insert t m x y)(hm:a.eval m=p.den A)(hx:a.eval x=q.den A)(hy:a.eval y=z.den A)
  (h:(Iw P b t p q z).run s r=some out) (cE:∀p∈out.cs,p) (hB:∀p∈out.re,p.1<B) {K:Act->World->Prop} {Q:Exit->Act->World->Prop} (k:∀v w',eY o n F s r a out v w'->K (a.put op.dst v) w'):op.wp P a w K Q:=by
 unfold Iw at h
 split at h
 .rename_i kt et j hu
  obtain⟨R,hR,h2⟩:=aY h
  split at h2
  .rename_i qf kc hh ty ie mm
   split at h2
   .rename_i kx MW
    obtain⟨hk,h3⟩:=ax h2
    clear h2
    have hk:=gd hk
    have hq:q.den A=fP kc kx:=nj MW
    have fin:∀ {v:Value} {l:List (El ty)} {ks:List Nat},dg S w ie v l->(∀i∈ks,i≠j)->(∀c,v.ownBlock=some c->gK A r (fun i=>i∈ks) c)->a.eval y=v->
      out=⟨[cA kc kx,tA hh kx,(show List (bL kc×List (El ty)) from mm).length<=2147483647],[],.one (.v undef),(j,some (.ext (.ff b kc none ty ie (gD (show List (bL kc×List (El ty)) from mm) kx l))))::(b,none)::ks.map fun i=>(i,none)⟩->op.wp P a w K Q:=by
     intro v l ks hO h1 h2 hv e
     subst e
     obtain⟨w',bY,A',_,H2⟩:=Rz (P:=P) H (hF b (Nat.le_refl _) (hB (b,none) (List.mem_cons_of_mem _ List.mem_cons_self))) hR (cE _ (List.mem_cons_of_mem _ List.mem_cons_self)) hu hk (cE _ List.mem_cons_self) (cE _ (List.mem_cons_of_mem _ (List.mem_cons_of_mem _ List.mem_cons_self))) hO h1 h2
     have x9:(execOp a.eval op).run P w= .ok .skip w':=by
      have hm:a.eval m= .map (A.m j):=hm
      rcases ho with ho|ho<;>(simp only[execOp,ho,Sem.run_bind,hm,hx,hv,hq,bY];rfl)
     unfold Oper.wp
     rw[x9]
     exact k undef _ ⟨A',S,H2,rfl,tv,tv⟩
    split at h3
    .rename_i i
     obtain⟨Z,hZ,h3⟩:=aY h3
     split at h3
     .rename_i Gw AM l
      split at h3
      .rename_i l' hl
       obtain⟨hg,h4⟩:=ax h3
       clear h3
       rw[Bool.and_eq_true] at hg
       have:=b6 hg.1;subst this
       obtain⟨e,gH⟩:=eE hl
       have e:AM=ty:=by injection e
       subst e
       have gH:l=l':=gH
       subst gH
       have e:=aW h4
       refine fin (ks:=[i]) (H.bB.ok i (o5 Gw (A.v i) l) (by show(r i).map _=_;rw[hZ];rfl)) (fun i' LM q=>?_) (fun c hc=>⟨i,_,List.mem_singleton.2 rfl,hZ,hc⟩) hy e
       rw[List.mem_singleton] at LM
       subst LM;subst q
       simp at hg
      cases h3
     cases h3
    .have e:=aW h3
     exact fin (ks:=[]) dg.nil (fun _ q=>by cases q) (fun c q=>by cases q) hy e
    cases h3
   cases h2
  exact Kt H ho tv hm hx hy h2 cE k
 cases h
theorem vL {B:Nat}(H:cv o n A S F s r a w)(hF:∀j,b<=j->j<B->¬F j){op:Oper}{t:TypeId}{x:Option Operand}{md:Bool}{out:Out}(ho:op.op= .makeMap t x)(hx:∀y,x=some y->∃k m,a.eval y= .int k m)
  (h:(qN P md b t).run s r=some out) (hB:∀p∈out.re,p.1<B) {K:Act->World->Prop} {Q:Exit->Act->World->Prop} (k:∀v w',eY o n F s r a out v w'->K (a.put op.dst v) w'):op.wp P a w K Q:=by
 cases md with
 |false=>exact Gt H hF ho hx h hB k
 |true=>
  simp only[qN] at h
  split at h
  .rename_i kt et kc ty hu hc
   split at h
   .rename_i ie uP
    obtain⟨hk,h⟩:=ax h
    have hk:=gd hk
    have e:=aW h
    subst e
    have e2:(execOp a.eval op).run P w= .ok (.value (.map (some w.heap.size))) (w.alloc (.map #[] 0)):=by
     cases x with
     |none=>
      simp only[execOp,ho,Sem.run_bind,Option.map_none,run_makeMap]
      rfl
     |some y=>
      obtain⟨ik,m,hy⟩:=hx y rfl
      simp[execOp,ho,Sem.run_bind,Option.map_some,hy,Instr.makeMap,run_underlying hu,asInt,asIntOf,newObj,Result.andThen,Sem.run,Sem.run_pure]
    have oe:=hF b (Nat.le_refl _) (hB _ (List.mem_singleton.2 rfl))
    let g:Lit->Value:=fun _=>.slice none 0 0
    have vz:cR F A ((A.aQ b (some w.heap.size)).dF b g):=(cR.aQ oe _).trans (cR.dF oe g)
    have hm:((A.aQ b (some w.heap.size)).dF b g).m b=some w.heap.size:=bF.xN A b (some w.heap.size)
    have kz:jZ w (w.alloc (.map #[] 0)) (gK A r fun _=>False):=(jZ.below (H:=fun _=>False) (kM w _)).mono fun _ q=>q.elim
    refine bH e2 (k _ _ ⟨(A.aQ b (some w.heap.size)).dF b g,S,H.swap vz (S':=S) (fun _=>False) (fun _ q=>q.elim) kz (fun _ q=>q) (fun _ q=>.inl q) (fun d z hz=>?_) (fun d d' z z' bb h1 h2 _ _=>by cases List.mem_singleton.1 h1;cases List.mem_singleton.1 h2;rfl),?_,.inr ⟨_,List.mem_singleton.2 rfl⟩,tv⟩)
    .cases List.mem_singleton.1 hz
     refine⟨.inr ⟨_,List.mem_singleton.2 rfl⟩,tv,rfl,⟨w.heap.size,hm,?_⟩,fun c hc=>?_⟩
     .rw[bF.j6]
      exact⟨⟨[],de.new w hk,rfl,fun _ q=>by cases q⟩,fun x _ _=>rfl,fun x y c _ _ q=>(by cases q),fun x c _ q=>(by cases q)⟩
     rcases hc with hc|⟨x,_,hc⟩
     .have hc:((A.aQ b (some w.heap.size)).dF b g).m b=some c:=hc
      rw[hm] at hc;cases hc
      exact⟨.inr (Nat.le_refl _),by simp⟩
     rw[bF.j6] at hc;cases hc
    show _=Value.map (((A.aQ b (some w.heap.size)).dF b g).m b)
    rw[hm]
   cases h
  cases h
theorem AT {α:Type 1}(H:cv o n A S F s r a w)(hC:jy a C){x:Option Operand}{k:Option Int->Tr α}{out:α}(h:(ya C x k).run s r=some out):∃i,x.map a.eval=i.map (Value.int .i64)/\(k i).run s r=some out:=by
 cases x with
 |none=>exact⟨none,rfl,h⟩
 |some x=>
  obtain⟨y,e1,e2,e3,h1⟩:=aP H hC h
  clear h e2 e3
  split at h1
  .rename_i m
   exact⟨some m,by rw[Option.map_some,e1];rfl,h1⟩
  cases h1
def fD (i:Option Int):Nat:=(i.getD 0).toNat
def kY (n:Nat)(k:Option Int):Nat:=match k with
 |none=>n
 |some k=>k.toNat
theorem tB {n:Nat}:∀ {i k:Option Int},sA n i k->fD i<=kY n k/\kY n k<=n
 |none,none,_=>⟨Nat.zero_le _,Nat.le_refl _⟩
 |some lo,none,h=>by obtain⟨h1,h2⟩:0<=lo/\lo<=(n:Int):=h;exact⟨by show lo.toNat<=n;omega,Nat.le_refl _⟩
 |none,some hi,h=>by obtain⟨h1,h2⟩:0<=hi/\hi<=(n:Int):=h;exact⟨Nat.zero_le _,by show hi.toNat<=n;omega⟩
 |some lo,some hi,h=>by obtain⟨h1,h2,h3⟩:0<=lo/\lo<=hi/\hi<=(n:Int):=h;exact⟨by show lo.toNat<=hi.toNat;omega,by show hi.toNat<=n;omega⟩
theorem wK {α:Type}{l:List α}:∀ {i k:Option Int},sA l.length i k->Kw l i k=(l.drop (fD i)).take (kY l.length k-fD i)
 |none,none,_=>by show l=(l.drop 0).take (l.length-0);simp
 |some lo,none,h=>by show l.drop lo.toNat=(l.drop lo.toNat).take (l.length-lo.toNat);rw[List.take_of_length_le (by rw[List.length_drop];exact Nat.le_refl _)]
 |none,some hi,h=>by show l.take hi.toNat=(l.drop 0).take (hi.toNat-0);simp
 |some lo,some hi,h=>by show(l.take hi.toNat).drop lo.toNat=(l.drop lo.toNat).take (hi.toNat-lo.toNat);rw[List.drop_take]
theorem Nn {α:Type}{l:List α}{i k:Option Int}(h:sA l.length i k):(Kw l i k).length=kY l.length k-fD i:=by
 rw[wK h,List.length_take,List.length_drop]
 have:=tB h
 omega
theorem nk {t:TypeId}{size:Nat}(ht:P.underlying t=some (.slice (P.elem t)))(hs:(P.info? (P.elem t)).map (·.size)=some size){base:Option Addr}{len cap:Nat}(XB:len<=cap){i k:Option Int}(h:sA len i k):
  (Instr.sliceAt t (.slice base len cap) (i.map (Value.int .i64)) (k.map (Value.int .i64)) none).run P w= .ok (sliced base (fD i) (kY len k) cap size) w:=by
 obtain⟨inf,uN,rfl⟩:=Option.map_eq_some_iff.1 hs
 have dc:(sizeOf (P.elem t)).run P w= .ok inf.size w:=by simp[sizeOf,typeInfo,uN]
 rw[run_sliceAt_slice w t _ _ _ _ ht]
 match i,k,h with
 |none,none,h=>simp only[Option.map_none];rw[run_slice_all w t base len cap ht,dc];rfl
 |some lo,none,h=>
  obtain⟨h1,h2⟩:0<=lo/\lo<=(len:Int):=h
  simp only[Option.map_none,Option.map_some];rw[run_slice_l w t base len cap ht .i64 lo h1 h2,dc];rfl
 |none,some hi,h=>
  obtain⟨h1,h2⟩:0<=hi/\hi<=(len:Int):=h
  simp only[Option.map_none,Option.map_some];rw[run_slice_h w t base len cap ht .i64 hi h1 (by omega),dc];rfl
 |some lo,some hi,h=>
  obtain⟨h1,h2,h3⟩:0<=lo/\lo<=hi/\hi<=(len:Int):=h
  simp only[Option.map_some];rw[run_slice_lh w t base len cap ht .i64 .i64 lo hi h1 h2 (by omega),dc];rfl
theorem oq {t:TypeId}{size:Nat}(ht:P.underlying t=some (.slice (P.elem t)))(hs:(P.info? (P.elem t)).map (·.size)=some size){base:Option Addr}{len cap:Nat}{h m:Int}(h0:0<=h)(h1:h<=m)(h2:m.toNat<=cap):
  (Instr.sliceAt t (.slice base len cap) none (some (Value.int .i64 h)) (some (Value.int .i64 m))).run P w= .ok (sliced base 0 h.toNat m.toNat size) w:=by
 obtain⟨inf,uN,rfl⟩:=Option.map_eq_some_iff.1 hs
 have dc:(sizeOf (P.elem t)).run P w= .ok inf.size w:=by simp[sizeOf,typeInfo,uN]
 rw[run_sliceAt_slice w t _ _ _ _ ht,run_slice_hm w t base len cap ht .i64 .i64 h m h0 h1 (by omega),dc];rfl
theorem yf {α:Type}[Data α]{p:Option Addr}{len cap lo hi m:Nat}{l:List α}(h:iH T w (.slice p len cap) l)(h1:lo<=hi)(h2:hi<=l.length)(h3:hi<=m)(h4:m<=cap):iH T w (sliced p lo hi m (Data.size α)) ((l.drop lo).take (hi-lo)):=by
 obtain⟨p',c',e,k1,k2,k3⟩:=h
 cases e
 have hlen:((l.drop lo).take (hi-lo)).length=hi-lo:=by rw[List.length_take,List.length_drop];omega
 refine⟨_,m-lo,by unfold sliced;rw[hlen],by rw[hlen];omega,by omega,?_⟩
 rcases k3 with rfl|⟨g,off,cur,t,fz,rfl,hg,hw,hc⟩
 .exact .inl (by simp)
 by_cases q:m=lo
 .exact .inl (List.eq_nil_of_length_eq_zero (by rw[hlen];omega))
 refine .inr ⟨g,off+lo*Data.size α,cur,t,fz,by rw[if_neg q];simp[Addr.add_lit],hg,hw,fun i zM=>?_⟩
 rw[hlen] at zM
 obtain⟨cs,q1,q2⟩:=hc (lo+i) (by omega)
 have e1:((l.drop lo).take (hi-lo))[i]'(by rw[hlen];exact zM)=l[lo+i]:=by simp
 refine⟨cs,by rw[e1];exact q1,fun j hj=>?_⟩
 rw[<-q2 j hj,Nat.add_mul]
 congr 1;omega
theorem Eg {B:Nat}(H:cv o n A S F s r a w)(hF:∀j,b<=j->j<B->¬F j){op:Oper}{t:TypeId}{x:Operand}{hi mx:Operand}{p:Sy}{k' m':Int}{out:Out}(ho:op.op= .slice t x none (some hi) (some mx))(hx:a.eval x=p.den A)(hhi:a.eval hi= .int .i64 k')(hmx:a.eval mx= .int .i64 m')
  (h:(Cr P b t k' m' p).run s r=some out) (cE:∀p∈out.cs,p) (hB:∀p∈out.re,p.1<B) {K:Act->World->Prop} {Q:Exit->Act->World->Prop} (k:∀v w',eY o n F s r a out v w'->K (a.put op.dst v) w'):op.wp P a w K Q:=by
 have exec:∀ {u v:Value},a.eval x=u->(Instr.sliceAt t u none (some (Value.int .i64 k')) (some (Value.int .i64 m'))).run P w= .ok v w->(execOp a.eval op).run P w= .ok (.value v) w:=by
  intro u v h1 h2
  simp only[execOp,ho,Sem.run_bind,h1,hhi,hmx,Option.map_none,Option.map_some,h2];rfl
 have elem:∀ {e e':TypeId} {ty:Ty},P.underlying t=some (.slice e)->gB P t e' (aF ty)=true->P.underlying t=some (.slice (P.elem t))/\(P.info? (P.elem t)).map (·.size)=some (aF ty):=fun {e e' ty} hu hg=>by
  obtain⟨bytes,_,E⟩:=nh hg
  obtain⟨inf,z,h1,h2,h3,_⟩:=E.info
  have he:P.elem t=e':=by have:=E.under;simp[Program.elem,this]
  rw[he]
  exact⟨E.under,by rw[h1,Option.map_some,h3]⟩
 unfold Cr at h
 split at h
 .rename_i j
  split at h
  .rename_i e hu
   obtain⟨R,hR,h⟩:=aY h
   have hx:a.eval x=A.v j:=hx
   split at h
   .rename_i e' ty l
    obtain⟨hg,h⟩:=ax h
    obtain⟨g1,g2⟩:=elem hu hg
    have e0:=aW h
    subst e0
    obtain⟨u1,u2,u3⟩:0<=k'/\k'<=m'/\m'<=(l.length:Int):=cE _ (List.mem_singleton.2 rfl)
    have c1:0<=k'.toNat:=Nat.zero_le _
    have c2:k'.toNat<=l.length:=by omega
    have c3:k'.toNat<=m'.toNat:=by omega
    have c4:m'.toNat<=l.length:=by omega
    have e9:l.take k'.toNat=(l.drop 0).take (k'.toNat-0):=by simp
    obtain⟨xs,hd,mc⟩:dg S w e' (A.v j) l:=H.bB.ok j (o5 e' (A.v j) l) (by show(r j).map _=_;rw[hR];rfl)
    obtain⟨pp,cap,hv,z8,_⟩:=hd.slice
    rw[hv] at hd hx
    obtain⟨d1,d2⟩:=Cm hd c1 c2 c3 (Nat.le_trans c4 z8)
    have e2:=exec hx (oq (P:=P) (w:=w) g1 g2 (base:=pp) (len:=l.length) u1 u2 (show m'.toNat<=cap by omega))
    rw[<-b5] at d1 d2
    have oe:=hF b (Nat.le_refl _) (hB _ List.mem_cons_self)
    obtain⟨A',k1,k2⟩:=H.Ea (b:=b) (v:=A.v j) (v':=sliced pp 0 k'.toNat m'.toNat (aF ty)) (w':=w) (e:=e') (m:=l.take k'.toNat) (xs:=(xs.drop (0*aF ty)).take ((k'.toNat-0)*aF ty)) (old:=some (j,none)) oe ⟨_,hR,fun c hc=>hc,fun z q=>by cases q⟩
     ⟨rfl,rfl,rfl,Nat.le_refl _,fun _ _ _=>rfl⟩ (by rw[e9,List.length_take,List.length_drop,<-b5,Nat.min_eq_left (by omega)];exact d1) (fun _=>by rw[e9,b5];exact wF mc c1 c2) (fun c hc=>.inl (by rw[hv];exact d2 c hc))
    exact bH e2 (k _ _ ⟨A',S,k1,k2,.inr ⟨_,List.mem_cons_self⟩,tv⟩)
   .rename_i ty l
    obtain⟨hg,h⟩:=ax h
    obtain⟨g1,g2⟩:=elem hu hg
    have e0:=aW h
    subst e0
    obtain⟨u1,u2,u3⟩:0<=k'/\k'<=m'/\m'<=(l.length:Int):=cE _ (List.mem_singleton.2 rfl)
    have c1:0<=k'.toNat:=Nat.zero_le _
    have c2:k'.toNat<=l.length:=by omega
    have c3:k'.toNat<=m'.toNat:=by omega
    have c4:m'.toNat<=l.length:=by omega
    have e9:l.take k'.toNat=(l.drop 0).take (k'.toNat-0):=by simp
    have gF:Rd S w (A.v j) l:=H.bB.ok j (Rs.of (@n0.ro (List (El ty)) _ (A.v j) l)) (by show(r j).map _=_;rw[hR];rfl)
    obtain⟨pp,cap,hv,z8,_⟩:=fc (cq gF)
    rw[hv] at gF hx
    have e2:=exec hx (oq (P:=P) (w:=w) g1 g2 (base:=pp) (len:=l.length) u1 u2 (show m'.toNat<=cap by omega))
    have pH:=iy (yf (cq gF) c1 c2 c3 (Nat.le_trans c4 z8))
    rw[<-e9,<-b5] at pH
    have oe:=hF b (Nat.le_refl _) (hB _ List.mem_cons_self)
    have hs:sliced pp 0 k'.toNat m'.toNat (aF ty)=(A.set b (if m'.toNat=0 then pp else pp.map (·.add (0*aF ty))) (k'.toNat-0) (m'.toNat-0) 0).v b:=by rw[bF.ku];rfl
    refine bH e2 (k _ _ ⟨_,S,H.ro (b:=b) (cR.set oe (if m'.toNat=0 then pp else pp.map (·.add (0*aF ty))) (k'.toNat-0) (m'.toNat-0) 0) ⟨Nat.le_refl _,⟨_,rfl,?_⟩,tv⟩,hs,.inr ⟨_,List.mem_cons_self⟩,tv⟩)
    show Rd S w (bF.v _ b) _
    rw[<-hs];exact pH
   .rename_i ty l
    obtain⟨hg,h⟩:=ax h
    obtain⟨g1,g2⟩:=elem hu hg
    have e0:=aW h
    subst e0
    obtain⟨u1,u2,u3⟩:0<=k'/\k'<=m'/\m'<=(l.length:Int):=cE _ (List.mem_singleton.2 rfl)
    have c1:0<=k'.toNat:=Nat.zero_le _
    have c2:k'.toNat<=l.length:=by omega
    have c3:k'.toNat<=m'.toNat:=by omega
    have c4:m'.toNat<=l.length:=by omega
    have e9:l.take k'.toNat=(l.drop 0).take (k'.toNat-0):=by simp
    have gF:Rd o.old o.w (A.v j) l:=H.args j _ hR
    obtain⟨pp,cap,hv,z8,_⟩:=fc (cq gF)
    rw[hv] at gF hx
    have e2:=exec hx (oq (P:=P) (w:=w) g1 g2 (base:=pp) (len:=l.length) u1 u2 (show m'.toNat<=cap by omega))
    have pH:=iy (yf (cq gF) c1 c2 c3 (Nat.le_trans c4 z8))
    rw[<-e9,<-b5] at pH
    have oe:=hF b (Nat.le_refl _) (hB _ List.mem_cons_self)
    have hs:sliced pp 0 k'.toNat m'.toNat (aF ty)=(A.set b (if m'.toNat=0 then pp else pp.map (·.add (0*aF ty))) (k'.toNat-0) (m'.toNat-0) 0).v b:=by rw[bF.ku];rfl
    refine bH e2 (k _ _ ⟨_,S,H.ro (b:=b) (cR.set oe (if m'.toNat=0 then pp else pp.map (·.add (0*aF ty))) (k'.toNat-0) (m'.toNat-0) 0) ⟨Nat.le_refl _,⟨_,rfl,?_⟩,tv⟩,hs,.inr ⟨_,List.mem_cons_self⟩,tv⟩)
    show Rd o.old o.w (bF.v _ b) _
    rw[<-hs];exact pH
   .rename_i b'
    obtain⟨R',Kg,h⟩:=aY h
    split at h
    .rename_i q lo e' ty l
     obtain⟨hg,h⟩:=ax h
     rw[Bool.and_eq_true] at hg
     obtain⟨hq,hg⟩:=hg
     have hq:=b6 hq
     subst hq
     obtain⟨g1,g2⟩:=elem hu hg
     have e0:=aW h
     subst e0
     obtain⟨u1,u2,u3⟩:0<=k'/\k'<=m'/\m'<=(l.length:Int):=cE _ (List.mem_singleton.2 rfl)
     have c1:0<=k'.toNat:=Nat.zero_le _
     have c2:k'.toNat<=l.length:=by omega
     have c3:k'.toNat<=m'.toNat:=by omega
     have c4:m'.toNat<=l.length:=by omega
     have e9:l.take k'.toNat=(l.drop 0).take (k'.toNat-0):=by simp
     have Vx:bw A r b'=some (Vg (A.v b') (A.v q) lo e' l):=by show(r b').map _=_;rw[Kg];rfl
     obtain⟨⟨xs,hd,mc⟩,_⟩:dg S w e' (A.v q) l/\mM (A.v b') (A.v q) lo (Data.size (El ty)):=H.bB.ok b' _ Vx
     obtain⟨pp,cap,hv,z8,_⟩:=hd.slice
     rw[hv] at hd hx
     obtain⟨d1,d2⟩:=Cm hd c1 c2 c3 (Nat.le_trans c4 z8)
     have e2:=exec hx (oq (P:=P) (w:=w) g1 g2 (base:=pp) (len:=l.length) u1 u2 (show m'.toNat<=cap by omega))
     rw[<-b5] at d1 d2
     have oe:=hF b (Nat.le_refl _) (hB _ List.mem_cons_self)
     have cO:q≠b':=fun e=>by rw[e,Kg] at hR;cases hR
     have H':cv o n A S F s (jg r q none) a w:=H.mV (S':=S) q none (fun y e=>by cases e) (fun y e=>by cases e) (H.bB.sub fun i ri hi=>by
      unfold eX at hi
      split at hi
      .cases hi
      exact hi)
     have Um:jg r q none b'=some (.ext (.vw q lo e' ty l)):=by rw[cS cO];exact Kg
     obtain⟨A',k1,k2⟩:=H'.Ea (b:=b) (v:=A.v q) (v':=sliced pp 0 k'.toNat m'.toNat (aF ty)) (w':=w) (e:=e') (m:=l.take k'.toNat) (xs:=(xs.drop (0*aF ty)).take ((k'.toNat-0)*aF ty)) (old:=some (b',none)) oe ⟨_,Um,fun c hc=>hc,fun z q=>by cases q⟩
      ⟨rfl,rfl,rfl,Nat.le_refl _,fun _ _ _=>rfl⟩ (by rw[e9,List.length_take,List.length_drop,<-b5,Nat.min_eq_left (by omega)];exact d1) (fun _=>by rw[e9,b5];exact wF mc c1 c2) (fun c hc=>.inl (by rw[hv];exact d2 c hc))
     exact bH e2 (k _ _ ⟨A',S,k1.agree (cR.refl _ _) fun i hi=>by
      rcases hi with hi|⟨y,hy⟩
      .exact .inl hi
      rcases List.mem_cons.1 hy with e|hy
      .cases e;exact .inr ⟨_,List.mem_cons_self⟩
      have:=List.mem_singleton.1 hy
      cases this
      exact .inr ⟨_,List.mem_cons_of_mem _ List.mem_cons_self⟩,k2,.inr ⟨_,List.mem_cons_self⟩,tv⟩)
    cases h
   cases h
  cases h
 cases h
theorem KE {B:Nat}(H:cv o n A S F s r a w)(hF:∀j,b<=j->j<B->¬F j){op:Oper}{t:TypeId}{x lo:Operand}{p:Sy}{i:Int}{out:Out}(ho:op.op= .slice t x (some lo) none none)(hx:a.eval x=p.den A)(hlo:a.eval lo= .int .i64 i)
  (h:(M8 P b t i p).run s r=some out) (cE:∀p∈out.cs,p) (hB:∀p∈out.re,p.1<B) {K:Act->World->Prop} {Q:Exit->Act->World->Prop} (k:∀v w',eY o n F s r a out v w'->K (a.put op.dst v) w'):op.wp P a w K Q:=by
 unfold M8 at h
 split at h
 .rename_i j
  split at h
  .rename_i e hu
   obtain⟨R,hR,h⟩:=aY h
   have hx:a.eval x=A.v j:=hx
   split at h
   .rename_i e' ty l
    obtain⟨hg,h⟩:=ax h
    obtain⟨bytes,_,E⟩:=nh hg
    obtain⟨inf,z,h1,h2,h3,_⟩:=E.info
    have he:P.elem t=e':=by have:=E.under;simp[Program.elem,this]
    have g1:P.underlying t=some (.slice (P.elem t)):=by rw[he];exact E.under
    have g2:(P.info? (P.elem t)).map (·.size)=some (aF ty):=by rw[he,h1,Option.map_some,h3]
    have e0:=aW h
    subst e0
    obtain⟨u1,u2⟩:0<=i/\i<=(l.length:Int):=cE _ (List.mem_singleton.2 rfl)
    have oe:¬F b:=hF b (Nat.le_refl _) (hB _ List.mem_cons_self)
    have Cg:=(H.dB j _ hR).1
    have cO:b≠j:=fun e=>oe (e▸Cg)
    have XF:bw A r j=some (o5 e' (A.v j) l):=by show(r j).map _=_;rw[hR];rfl
    have mc:dg S w e' (A.v j) l:=H.bB.ok j _ XF
    obtain⟨pp,cap,hv,z8,_⟩:∃pp cap,A.v j= .slice pp l.length cap/\l.length<=cap/\True:=by
     obtain⟨xs,hd,_⟩:=mc
     obtain⟨pp,cap,hv,z8,_⟩:=hd.slice
     exact⟨pp,cap,hv,z8,tv⟩
    have ot:sA l.length (some i) none:=⟨u1,u2⟩
    have bY:=nk (P:=P) (w:=w) g1 g2 (base:=pp) (len:=l.length) (cap:=cap) z8 ot
    have e2:(execOp a.eval op).run P w= .ok (.value (sliced pp i.toNat l.length cap (aF ty))) w:=by
     simp only[execOp,ho,Sem.run_bind,hx,hv,Option.map_some,Option.map_none,hlo]
     rw[show(Instr.sliceAt t (.slice pp l.length cap) (some (Value.int .i64 i)) none none).run P w=_ from bY];rfl
    have vz:cR F A (A.set b (if cap=i.toNat then pp else pp.map (·.add (i.toNat*aF ty))) (l.length-i.toNat) (cap-i.toNat) 0):=cR.set oe _ _ _ _
    have Ef:(A.set b (if cap=i.toNat then pp else pp.map (·.add (i.toNat*aF ty))) (l.length-i.toNat) (cap-i.toNat) 0).v b=sliced pp i.toNat l.length cap (aF ty):=by rw[bF.ku];rfl
    have hvj:=(vz j Cg).1
    generalize A.set b (if cap=i.toNat then pp else pp.map (·.add (i.toNat*aF ty))) (l.length-i.toNat) (cap-i.toNat) 0=A' at*
    have H1:=H.agree vz (G:=FU F [(b,some (.ext (.vw j i.toNat e' ty l))),(j,some (.ext (.fwd b)))]) fun q hq=>.inl hq
    have Vy:bw A' r j=some (o5 e' (A'.v j) l):=by show(r j).map _=_;rw[hR];rfl
    have Yt:FU F [(b,some (.ext (.vw j i.toNat e' ty l))),(j,some (.ext (.fwd b)))] b:=.inr ⟨_,List.mem_cons_self⟩
    have rZ:FU F [(b,some (.ext (.vw j i.toNat e' ty l))),(j,some (.ext (.fwd b)))] j:=.inl Cg
    have H2:=H1.mV (S':=S) j (some (.ext (.fwd b))) (fun y e=>by cases e;exact⟨rZ,Yt,tv⟩) (fun y e=>by cases e;exact gJ rfl) (H1.bB.xP j (r:=kS) tv fun _ q=>q)
    have YC:dg S w e' (A'.v j) l:=H1.bB.ok j _ Vy
    have Eh:mM (A'.v b) (A'.v j) i.toNat (Data.size (El ty)):=⟨pp,l.length,cap,by rw[<-hvj];exact hv,by omega,z8,by rw[Ef,b5]⟩
    have H3:=H2.mV (S':=S) b (some (.ext (.vw j i.toNat e' ty l))) (fun y e=>by cases e;exact⟨Yt,rZ,tv⟩) (fun y e=>by cases e;exact gJ rfl) (H2.bB.put b (Vg (A'.v b) (A'.v j) i.toNat e' l) ⟨YC,Eh⟩ fun dM hblk=>by
     have hblk:(A'.v j).ownBlock=some dM:=hblk
     obtain⟨k1,k2,k3⟩:=H1.bB.own j _ dM Vy hblk
     refine⟨k1,k2,k3,fun q rq hq YD hh=>?_⟩
     rw[DZ] at YD
     unfold eX at YD
     split at YD
     .rename_i e
      have:rq=kS:=(Option.some.inj YD).symm
      subst this
      exact hh
     rename_i e
     exact e (H1.bB.apart q j rq _ dM YD Vy hh hblk))
    exact bH e2 (k _ _ ⟨A',S,H3,Ef.symm,Yt,tv⟩)
   cases h
  cases h
 cases h
theorem GH {B:Nat}(H:cv o n A S F s r a w)(hF:∀j,b<=j->j<B->¬F j){op:Oper}{t:TypeId}{x:Operand}{lo hi:Option Operand}{p:Sy}{i k':Option Int}{out:Out}(ho:op.op= .slice t x lo hi none)(hx:a.eval x=p.den A)(hlo:lo.map a.eval=i.map (Value.int .i64))(hhi:hi.map a.eval=k'.map (Value.int .i64))
  (h:(yb P b t i k' p).run s r=some out) (cE:∀p∈out.cs,p) (hB:∀p∈out.re,p.1<B) {K:Act->World->Prop} {Q:Exit->Act->World->Prop} (k:∀v w',eY o n F s r a out v w'->K (a.put op.dst v) w'):op.wp P a w K Q:=by
 have exec:∀ {u v:Value},a.eval x=u->(Instr.sliceAt t u (i.map (Value.int .i64)) (k'.map (Value.int .i64)) none).run P w= .ok v w->(execOp a.eval op).run P w= .ok (.value v) w:=by
  intro u v h1 h2
  simp only[execOp,ho,Sem.run_bind,h1,hlo,hhi,Option.map_none,h2];rfl
 have elem:∀ {e e':TypeId} {ty:Ty},P.underlying t=some (.slice e)->gB P t e' (aF ty)=true->P.underlying t=some (.slice (P.elem t))/\(P.info? (P.elem t)).map (·.size)=some (aF ty):=fun {e e' ty} hu hg=>by
  obtain⟨bytes,_,E⟩:=nh hg
  obtain⟨inf,z,h1,h2,h3,_⟩:=E.info
  have he:P.elem t=e':=by have:=E.under;simp[Program.elem,this]
  rw[he]
  exact⟨E.under,by rw[h1,Option.map_some,h3]⟩
 unfold yb at h
 split at h
 .rename_i j
  split at h
  .rename_i e hu
   obtain⟨R,hR,h⟩:=aY h
   have hx:a.eval x=A.v j:=hx
   split at h
   .rename_i e' ty l
    obtain⟨hg,h⟩:=ax h
    obtain⟨g1,g2⟩:=elem hu hg
    have e0:=aW h
    subst e0
    have ot:sA l.length i k':=cE _ (List.mem_singleton.2 rfl)
    obtain⟨c1,c2⟩:=tB ot
    obtain⟨xs,hd,mc⟩:dg S w e' (A.v j) l:=H.bB.ok j (o5 e' (A.v j) l) (by show(r j).map _=_;rw[hR];rfl)
    obtain⟨pp,cap,hv,z8,_⟩:=hd.slice
    rw[hv] at hd hx
    obtain⟨d1,d2⟩:=Cm hd c1 c2 (Nat.le_trans c2 z8) (Nat.le_refl _)
    have e2:=exec hx (nk (P:=P) (w:=w) g1 g2 z8 ot)
    rw[<-b5] at d1 d2
    have oe:=hF b (Nat.le_refl _) (hB _ List.mem_cons_self)
    obtain⟨A',k1,k2⟩:=H.Ea (b:=b) (v:=A.v j) (v':=sliced pp (fD i) (kY l.length k') cap (aF ty)) (w':=w) (e:=e') (m:=Kw l i k') (xs:=(xs.drop (fD i*aF ty)).take ((kY l.length k'-fD i)*aF ty)) (old:=some (j,none)) oe ⟨_,hR,fun c hc=>hc,fun z q=>by cases q⟩
     ⟨rfl,rfl,rfl,Nat.le_refl _,fun _ _ _=>rfl⟩ (by rw[Nn ot,<-b5];exact d1) (fun _=>by rw[wK ot,b5];exact wF mc c1 c2) (fun c hc=>.inl (by rw[hv];exact d2 c hc))
    exact bH e2 (k _ _ ⟨A',S,k1,k2,.inr ⟨_,List.mem_cons_self⟩,tv⟩)
   .rename_i ty l
    obtain⟨hg,h⟩:=ax h
    obtain⟨g1,g2⟩:=elem hu hg
    have e0:=aW h
    subst e0
    have ot:sA l.length i k':=cE _ (List.mem_singleton.2 rfl)
    obtain⟨c1,c2⟩:=tB ot
    have gF:Rd S w (A.v j) l:=H.bB.ok j (Rs.of (@n0.ro (List (El ty)) _ (A.v j) l)) (by show(r j).map _=_;rw[hR];rfl)
    obtain⟨pp,cap,hv,z8,_⟩:=fc (cq gF)
    rw[hv] at gF hx
    have e2:=exec hx (nk (P:=P) (w:=w) g1 g2 z8 ot)
    have pH:=iy (uG (cq gF) c1 c2)
    rw[<-wK ot,<-b5] at pH
    have oe:=hF b (Nat.le_refl _) (hB _ List.mem_cons_self)
    have hs:sliced pp (fD i) (kY l.length k') cap (aF ty)=(A.set b (if cap=fD i then pp else pp.map (·.add (fD i*aF ty))) (kY l.length k'-fD i) (cap-fD i) 0).v b:=by rw[bF.ku];rfl
    refine bH e2 (k _ _ ⟨_,S,H.ro (b:=b) (cR.set oe (if cap=fD i then pp else pp.map (·.add (fD i*aF ty))) (kY l.length k'-fD i) (cap-fD i) 0) ⟨Nat.le_refl _,⟨_,rfl,?_⟩,tv⟩,hs,.inr ⟨_,List.mem_cons_self⟩,tv⟩)
    show Rd S w (bF.v _ b) _
    rw[<-hs];exact pH
   .rename_i ty l
    obtain⟨hg,h⟩:=ax h
    obtain⟨g1,g2⟩:=elem hu hg
    have e0:=aW h
    subst e0
    have ot:sA l.length i k':=cE _ (List.mem_singleton.2 rfl)
    obtain⟨c1,c2⟩:=tB ot
    have gF:Rd o.old o.w (A.v j) l:=H.args j _ hR
    obtain⟨pp,cap,hv,z8,_⟩:=fc (cq gF)
    rw[hv] at gF hx
    have e2:=exec hx (nk (P:=P) (w:=w) g1 g2 z8 ot)
    have pH:=iy (uG (cq gF) c1 c2)
    rw[<-wK ot,<-b5] at pH
    have oe:=hF b (Nat.le_refl _) (hB _ List.mem_cons_self)
    have hs:sliced pp (fD i) (kY l.length k') cap (aF ty)=(A.set b (if cap=fD i then pp else pp.map (·.add (fD i*aF ty))) (kY l.length k'-fD i) (cap-fD i) 0).v b:=by rw[bF.ku];rfl
    refine bH e2 (k _ _ ⟨_,S,H.ro (b:=b) (cR.set oe (if cap=fD i then pp else pp.map (·.add (fD i*aF ty))) (kY l.length k'-fD i) (cap-fD i) 0) ⟨Nat.le_refl _,⟨_,rfl,?_⟩,tv⟩,hs,.inr ⟨_,List.mem_cons_self⟩,tv⟩)
    show Rd o.old o.w (bF.v _ b) _
    rw[<-hs];exact pH
   cases h
  cases h
 .rename_i sb
  split at h
  .rename_i hu
   have e0:=aW h
   subst e0
   have ot:sA sb.size i k':=cE _ (List.mem_singleton.2 rfl)
   have bY:(Instr.sliceAt t (.string sb) (i.map (Value.int .i64)) (k'.map (Value.int .i64)) none).run P w= .ok (.string (sb.extract (i.getD 0).toNat (k'.getD sb.size).toNat)) w:=by
    rw[run_sliceAt_string w t _ _ _ _ hu]
    match i,k',ot with
    |none,none,h=>simp[Instr.slice,run_underlying hu,Instr.sliceBounds]
    |some lo,none,h=>
     obtain⟨h1,h2⟩:0<=lo/\lo<=(sb.size:Int):=h
     simp[Instr.slice,run_underlying hu,Instr.sliceBounds,run_sliceBound,h1,h2]
    |none,some hi,h=>
     obtain⟨h1,h2⟩:0<=hi/\hi<=(sb.size:Int):=h
     simp[Instr.slice,run_underlying hu,Instr.sliceBounds,run_sliceBound,h1,h2]
    |some lo,some hi,h=>
     obtain⟨h1,h2,h3⟩:0<=lo/\lo<=hi/\hi<=(sb.size:Int):=h
     have h4:0<=hi:=by omega
     have h5:(hi.toNat:Int)=hi:=Int.toNat_of_nonneg h4
     simp[Instr.slice,run_underlying hu,Instr.sliceBounds,run_sliceBound,h1,h2,h3,h4,h5]
   exact bH (exec hx bY) (k _ _ ⟨A,S,H.agree (cR.refl _ _) fun _ q=>.inl q,rfl,tv,tv⟩)
  cases h
 .split at h
  .rename_i e hu
   obtain⟨hg,h⟩:=ax h
   have e0:=aW h
   subst e0
   have ot:sA 0 i k':=cE _ (List.mem_singleton.2 rfl)
   obtain⟨c1,c2⟩:=tB ot
   have he:P.elem t=e:=by simp[Program.elem,hu]
   obtain⟨inf,uN⟩:=Option.isSome_iff_exists.1 hg
   have bY:=nk (P:=P) (w:=w) (t:=t) (size:=inf.size) (by rw[he];exact hu) (by rw[he,uN];rfl) (base:=none) (Nat.le_refl 0) ot
   have e1:sliced none (fD i) (kY 0 k') 0 inf.size= .slice none 0 0:=by
    unfold sliced
    have h1:kY 0 k'-fD i=0:=by omega
    rw[h1];simp
   rw[e1] at bY
   exact bH (exec hx bY) (k _ _ ⟨A,S,H.agree (cR.refl _ _) fun _ q=>.inl q,rfl,tv,tv⟩)
  cases h
 cases h
end
end Go.Proofs.YtnfdimfepbbbpaaGreat
