/-
  Texts joined by program: VG, VH, VI, VIA, VI1, VI2, VJ1, VJ, VJ2, VJ3, VJ4.
-/
import Derived.Test.YtnfdimfepbbbpaaGreatJAuditPlays1
import Derived.Deep.AppendSrc
import Derived.Laws.MakeOwn
import Derived.Laws.Slices
set_option linter.unusedSimpArgs false
set_option linter.unusedVariables false
set_option maxRecDepth 100000
set_option maxHeartbeats 8000000
namespace Go.Proofs.YtnfdimfepbbbpaaGreat
open Go.RowKit
def jV:R2->Bool
 | .ar _ _=>true
 | .vF _ _ _=>true
 | .ext (.par _ _)=>true
 | .ext (.yQ _ _)=>true
 |_=>false
theorem gB {o:bD}{A:bF}{j:Nat}:∀ {x:R2},jV x=false->su o A j x
 | .ar _ _,h=>by cases h
 | .vF _ _ _,h=>by cases h
 | .ext (.par _ _),h=>by cases h
 | .ext (.yQ _ _),h=>by cases h
 | .ro _ _,_=>trivial
 | .row _ _ _,_=>trivial
 | .box _ _,_=>trivial
 | .nA _ _ _,_=>trivial
 | .map _ _ _,_=>trivial
 | .iter _ _ _ _ _ _,_=>trivial
 | .ext (.nest _ _ _ _ _ _),_=>trivial
 | .ext (.fc _ _ _ _ _ _),_=>trivial
 | .ext (.uK _ _),_=>trivial
 | .ext (.Dd _ _),_=>trivial
 | .ext (.De _ _ _ _ _),_=>trivial
 | .ext (.Df _),_=>trivial
 | .ext (.vw _ _ _ _ _),_=>trivial
 | .ext (.fwd _),_=>trivial
def jw (r:Nat->Option R2)(j:Nat)(x:Option R2):Nat->Option R2:=fun k=>match Nat.beq j k with
 |true=>x
 |false=>r k
def aT (r:Nat->Option R2):List (Nat×Option R2)->Nat->Option R2
 |[]=>r
 |p::l=>jw (aT r l) p.1 p.2
def k8 (s:Nat->Option E2)(d:Nat)(x:Option E2):Nat->Option E2:=fun k=>match Nat.beq d k with
 |true=>x
 |false=>s k
theorem cr {a b:Nat}(h:Nat.beq a b=true):a=b:=Nat.eq_of_beq_eq_true h
theorem Uf {a b:Nat}(h:Nat.beq a b=false):a≠b:=Nat.ne_of_beq_eq_false h
theorem dy (r:Nat->Option R2)(j:Nat)(x:Option R2):jw r j x j=x:=by unfold jw;rw[Nat.beq_refl]
theorem dR {r:Nat->Option R2}{j k:Nat}{x:Option R2}(h:j≠k):jw r j x k=r k:=by
 unfold jw;split
 .rename_i e;exact(h (cr e)).elim
 rfl
theorem eS (s:Nat->Option E2)(j:Nat)(x:Option E2):k8 s j x j=x:=by unfold k8;rw[Nat.beq_refl]
theorem lD {s:Nat->Option E2}{j k:Nat}{x:Option E2}(h:j≠k):k8 s j x k=s k:=by
 unfold k8;split
 .rename_i e;exact(h (cr e)).elim
 rfl
theorem Dk (A:bF)(r:Nat->Option R2)(j:Nat)(x:Option R2):bq A (jw r j x)=eN (bq A r) j (x.map (R2.den A j)):=by
 funext k
 unfold bq eN
 by_cases e:k=j
 .subst e;rw[dy,if_pos rfl]
 rw[dR (fun q=>e q.symm),if_neg e]
section
variable {P:Program}{o:bD}{n:Nat}{A A':bF}{S:aL}{F G:Nat->Prop}{s:Nat->Option E2}{r:Nat->Option R2}{a:Act}{w w':World}{C:List (Nat×Bool)}{b:Nat}
theorem FH (hA:cV F A A')(hr:∀j x,r j=some x->F j/\x.all F):bq A r=bq A' r:=by
 funext j
 unfold bq
 cases h:r j with
 |none=>rfl
 |some x=>simp only[Option.map_some];rw[R2.congr hA (hr j x h).1 (hr j x h).2]
theorem cz.agree (H:cz o n A S F s r a w)(hA:cV F A A')(hG:∀j,F j->G j):cz o n A' S G s r a w where
 size:=H.size
 eY:=H.eY
 env t e he:=⟨fun hc=>by rw[show(⟨t,e.ch,e.sy.den A'⟩:Lq).val=e.sy.den A from(Sy.congr hA (H.kZ t e he hc).1).symm];exact(H.env t e he).1 hc,(H.env t e he).2⟩
 kZ t e he hc:=⟨Sy.mono hG (H.kZ t e he hc).1,Sy.dG hA (H.kZ t e he hc).1 (H.kZ t e he hc).2⟩
 dD j x hj:=⟨hG j (H.dD j x hj).1,R2.mono hG (H.dD j x hj).2.1,R2.dG hA (H.dD j x hj).2.1 (H.dD j x hj).2.2⟩
 bB:=by rw[<-FH hA fun j x hj=>⟨(H.dD j x hj).1,(H.dD j x hj).2.1⟩];exact H.bB
 args j x hj:=(H.args j x hj).congr hA (H.dD j x hj).1
 wO:=⟨fun j h=>hG j (H.wO.1 j h),H.wO.2.trans (hA.mono H.wO.1)⟩
theorem cz.lZ (H:cz o n A S F s r a w)(j:Nat)(x:Option R2)(hj:∀y,x=some y->F j/\y.all F/\y.b9 A)(hx:∀y,x=some y->su o A j y){S':aL}(hf:fZ o w' S' (eN (bq A r) j (x.map (R2.den A j)))):cz o n A S' F s (jw r j x) a w' where
 size:=H.size
 eY:=H.eY
 env:=H.env
 kZ:=H.kZ
 dD k y hk:=by
  by_cases e:j=k
  .subst e;rw[dy] at hk;exact hj y hk
  rw[dR e] at hk;exact H.dD k y hk
 bB:=by rw[Dk];exact hf
 args k y hk:=by
  by_cases e:j=k
  .subst e;rw[dy] at hk;exact hx _ hk
  rw[dR e] at hk;exact H.args k y hk
 wO:=H.wO
theorem cz.ro (H:cz o n A S F s r a w){re:List (Nat×Option R2)}(hA:cV F A A')(JR:jv o S w A' b re):cz o n A' S (FU F re) s (aT r re) a w:=by
 have H1:cz o n A' S (FU F re) s r a w:=H.agree hA fun j h=>.inl h
 have key:∀(l:List (Nat×Option R2)) (b:Nat),jv o S w A' b l->(∀p∈l,p∈re)->cz o n A' S (FU F re) s (aT r l) a w:=by
  intro l
  induction l with
  |nil=>intro b _ _;exact H1
  |cons p l ih=>
   intro b hr hs
   obtain⟨h1,⟨x,hx,gz⟩,h3⟩:=hr
   have H2:=ih _ h3 fun q hq=>hs q (List.mem_cons_of_mem _ hq)
   show cz o n A' S (FU F re) s (jw (aT r l) p.1 p.2) a w
   refine H2.lZ p.1 p.2 (fun y hy=>⟨.inr ⟨p.2,hs p (by simp)⟩,?_⟩) (fun y hy=>?_) ?_
   .rw[hx] at hy;cases hy
    cases x<;>first|exact⟨tv,tv⟩|exact gz.elim|skip
    rename_i z
    cases z<;>first|exact⟨tv,tv⟩|exact gz.elim
   .rw[hx] at hy;cases hy
    cases x<;>first|exact gz|exact gz.elim|trivial|skip
    rename_i z
    cases z<;>first|exact gz|exact gz.elim|trivial
   rw[hx]
   cases x with
   |ro t l=>exact H2.bB.L4 p.1 gz
   |ar t l=>exact H2.bB.wM p.1 (r:=ko) tv fun _ q=>q
   |nA k t l=>exact H2.bB.L4 p.1 gz
   |vF k t l=>exact H2.bB.wM p.1 (r:=ko) tv fun _ q=>q
   |row _ _ _=>exact gz.elim
   |box _ _=>exact gz.elim
   |map _ _ _=>exact gz.elim
   |iter _ _ _ _ _ _=>exact gz.elim
   |ext z=>
    cases z with
    |uK t x=>exact H2.bB.L4 p.1 gz
    |par t x=>exact H2.bB.wM p.1 (r:=ko) tv fun _ q=>q
    |Dd t x=>exact H2.bB.wM p.1 (r:=T9 (A'.b p.1) x) gz fun _ q=>q
    |yQ t x=>exact H2.bB.wM p.1 (r:=ko) tv fun _ q=>q
    |nest _ _ _ _ _ _=>exact gz.elim
    |fc _ _ _ _ _ _=>exact gz.elim
    |De _ _ _ _ _=>exact gz.elim
    |Df _=>exact gz.elim
    |vw _ _ _ _ _=>exact gz.elim
    |fwd _=>exact gz.elim
 exact key re b JR fun _ h=>h
theorem cz.put (H:cz o n A S F s r a w){d:Nat}{y:Sy}{u:Value}(hd:d<n)(jR:∀t e,s t=some e->∀l∈e.ch,l.1≠d)(Vo:∀l∈C,l.1≠d)(hy:jd a C->y.all F/\y.b9 A)(hu:(jd a C->u=y.den A)/\(¬jd a C->u=undef)):cz o n A S F (k8 s d (some ⟨C,y⟩)) r (a.put (some d) u) w where
 size:=by simp[Act.put,H.size]
 eY:=H.eY
 env t e he:=by
  by_cases q:d=t
  .subst q
   rw[eS] at he
   cases he
   have hs:(a.put (some d) u).tmps[d]?=some u:=by
    simp only[Act.put,Array.getElem?_setIfInBounds,if_true]
    rw[if_pos (by rw[H.size];exact hd)]
   have hC:C.all (fun l=>l.1 !=d)=true:=List.all_eq_true.2 fun l hl=>by simpa using Vo l hl
   refine⟨fun hc=>?_,fun hc=>?_⟩
   .show(a.put (some d) u).tmps[d]?=some (y.den A)
    rw[hs,hu.1 ((l5 hC).1 hc)]
   show(a.put (some d) u).tmps[d]?=some undef
   rw[hs,hu.2 (fun k=>hc ((l5 hC).2 k))]
  rw[lD q] at he
  refine JD ?_ (H.env t e he)
  rw[Bool.and_eq_true,List.all_eq_true]
  exact⟨by simpa using fun k=>q k.symm,fun l hl=>by simpa using jR t e he l hl⟩
 kZ t e he hc:=by
  by_cases q:d=t
  .subst q;rw[eS] at he;cases he
   exact hy ((l5 (List.all_eq_true.2 fun l hl=>by simpa using Vo l hl)).1 hc)
  rw[lD q] at he
  exact H.kZ t e he ((l5 (List.all_eq_true.2 fun l hl=>by simpa using jR t e he l hl)).1 hc)
 dD:=H.dD
 bB:=H.bB
 args:=H.args
 wO:=H.wO
theorem fZ.freeze {f:Nat->Option Rs}(h:fZ o w S f)(j:Nat){x y:Rs}(hj:f j=some x)(hn:∀b,¬y.has b)(eE:y.ok (fun k=>S k\/x.has k) w):∃S',(∀k,S k->S' k)/\fZ o w S' (eN f j (some y)):=by
 refine⟨fun k=>S k\/x.has k,fun k=>.inl,h.swap (N:=fun i=>i=j) (K:=fun i=>i=j) (jH.refl _ _) (fun _=>.inl) (fun k hk=>?_) (fun i ri hi hr=>?_) (fun i ri hi hr=>?_) (fun i ri b hi hr hb=>?_) (fun i k ri rk b hi hk hr _ hb _=>by rw[hi,hk])⟩
 .rcases hk with hk|hk
  .exact .inl hk
  refine .inr ⟨.inl ⟨j,x,rfl,hj,hk⟩,(h.own j x k hj hk).2.1,fun i ri hi hr hb=>?_⟩
  subst hi
  unfold eN at hr;rw[if_pos rfl] at hr;cases hr;exact hn k hb
 .unfold eN at hr;rw[if_neg hi] at hr;exact⟨hi,hr⟩
 .subst hi;unfold eN at hr;rw[if_pos rfl] at hr;cases hr;exact eE
 subst hi;unfold eN at hr;rw[if_pos rfl] at hr;cases hr;exact(hn b hb).elim
theorem zR {T:aL}:∀ {cs:List kX} {vs:List Value},vs.length=cs.length->(∀(d:Nat) x v,cs[d]?=some x->vs[d]?=some v->kg T w v x)->bU T w vs cs
 |[],[],_,_=>trivial
 |[],_::_,h,_=>by cases h
 |_::_,[],h,_=>by cases h
 |c::cs,v::vs,h,k=>⟨k 0 c v rfl rfl,zR (by simpa using h) fun d x u h1 h2=>k (d+1) x u (by simpa using h1) (by simpa using h2)⟩
theorem qH.cel {ie:TypeId}{v:Value}{c:kX}(h:qH S w ie v c):kg (fun k=>S k\/v.ownBlock=some k) w v c:=by
 cases c with
 |l t l=>exact di.rd h
 |_=>exact h.1.up fun _=>.inl
theorem iy.rd {v:Value}{f:Lit->Value}{e:TypeId}{t:Ty}{ie:TypeId}{l:List (El t)}(h:iy S w v f none e t ie l):Rd (fun k=>S k\/(FA v f none e t ie l).has k) w v l:=by
 obtain⟨xs,h1,_,h2⟩:=h.row
 refine di.rd (S:=fun k=>S k\/(FA v f none e t ie l).has k) (e:=e) ⟨xs,by rw[<-b7];exact h1,by rw[h1.1,b7],fun i hi=>?_⟩|>.up fun k hk=>?_
 .have hlen:((xs.drop (i*Data.size (El t))).take (Data.size (El t))).length=(bg t l[i]).length:=by
   have:=Nat.mul_le_mul_right (aH t) (show i+1<=l.length from hi)
   rw[Nat.succ_mul,<-h1.1] at this
   rw[dx,List.length_take,List.length_drop,<-b7];omega
  refine vC t (zR hlen fun d x u hx hu=>?_)
  have hd:d<aH t:=by have:=(List.getElem?_eq_some_iff.1 hx).1;rwa[dx] at this
  rw[<-b7,List.getElem?_take,if_pos hd,List.getElem?_drop] at hu
  have HJ:(gl t l)[i*aH t+d]?=some x:=by
   rw[sw hi hd,List.getD_eq_getElem?_getD,List.getElem?_eq_getElem hi];exact hx
  obtain⟨k1,k2⟩:=h2 _ x HJ (by simp)
  rw[hu] at k1
  cases k1
  refine k2.cel.up fun k hk=>?_
  rcases hk with hk|hk
  .exact .inl hk
  refine .inr (.inr ⟨_,?_,by simp,hk⟩)
  have:=(List.getElem?_eq_some_iff.1 HJ).1
  rwa[dQ] at this
 rcases hk with hk|hk
 .exact hk
 exact .inr (.inl hk)
theorem rD.at {k:Kc}{α:Type}[Data α]{b:Nat}{f:Lit->Value}{ie:TypeId}{m:bl k (List α)}(h:rD S w b f none ie m):lB (fun c=>S c\/(L1 (some b) f none ie m).has c) w b m:=by
 obtain⟨zs,h1,h2,h3⟩:=h.map
 refine⟨zs,h1,h2,fun z hz=>?_⟩
 obtain⟨k1,k2⟩:=h3 z hz (by simp)
 refine k2.rd.up fun c hc=>?_
 rcases hc with hc|hc
 .exact .inl hc
 exact .inr (.inr ⟨z.1,by simp,by rw[<-k1];exact hc⟩)
def qQ:R2->Option R2
 | .row _ t l=>some (.ro t l)
 | .map k t m=>some (.nA k t m)
 | .ext (.nest _ none _ t _ l)=>some (.ro t l)
 | .ext (.fc _ k none t _ m)=>some (.nA k (.list t) m)
 | .ext (.vw _ lo _ t l)=>some (.ro t (l.drop lo))
 |_=>none
def numOf:Sc->Option Nat
 | .own j=>some j
 | .mp j=>some j
 | .pd j=>some j
 | .ptr j _=>some j
 |_=>none
theorem Mm {x z:R2}(h:qQ x=some z):jV x=false:=by
 cases x<;>first|rfl|(cases h;done)|skip
 rename_i y
 cases y<;>first|rfl|(cases h;done)
theorem Br {x z:R2}(h:qQ x=some z):(∃t l,z= .ro t l)\/∃k t m,z= .nA k t m:=by
 cases x with
 |row e t l=>cases h;exact .inl ⟨_,_,rfl⟩
 |map k t m=>cases h;exact .inr ⟨_,_,_,rfl⟩
 |ext y=>
  cases y with
  |nest q hh e t ie l=>
   cases hh with
   |none=>cases h;exact .inl ⟨_,_,rfl⟩
   |some _=>cases h
  |fc q k hh t ie m=>
   cases hh with
   |none=>cases h;exact .inr ⟨_,_,_,rfl⟩
   |some _=>cases h
  |vw _ _ _ _ _=>cases h;exact .inl ⟨_,_,rfl⟩
  |_=>cases h
 |_=>cases h
theorem FI {x z:R2}{A:bF}{S:aL}{w:World}{j:Nat}(h:qQ x=some z)(hx:(x.den A j).ok S w):(∀b,¬(z.den A j).has b)/\(z.den A j).ok (fun k=>S k\/(x.den A j).has k) w:=by
 cases x with
 |row e t l=>cases h;exact⟨fun b q=>(by cases q),di.rd hx⟩
 |map k t m=>
  cases h
  obtain⟨b,hb,hm⟩:=hx
  exact⟨fun b q=>(by cases q),Bl ⟨some b,by rw[<-hb],.inr hb,hm.up fun _=>.inl⟩⟩
 |ext y=>
  cases y with
  |nest q hh e t ie l=>
   cases hh with
   |none=>cases h;exact⟨fun b q=>(by cases q),iy.rd hx⟩
   |some _=>cases h
  |fc q k hh t ie m=>
   cases hh with
   |none=>
    cases h
    obtain⟨b,hb,hm⟩:=hx
    refine⟨fun b q=>(by cases q),Bl ⟨some b,by rw[<-hb],.inr (.inl hb),?_⟩⟩
    have:=hm.at
    rw[<-hb] at this
    exact this
   |some _=>cases h
  |vw q lo e t l=>cases h;exact⟨fun b q=>(by cases q),(sr hx.1 hx.2).1⟩
  |_=>cases h
 |_=>cases h
def Mn:List Sc->(List (Nat×Option R2)->Tr Out)->Tr Out
 |[],k=>k []
 |c::l,k=>match numOf c with
  |some j=>.res j fun x=>match qQ x with
   |some z=>Mn l fun re=>k ((j,some z)::re)
   |none=>match jV x with
    |true=>.fail
    |false=>Mn l k
  |none=>Mn l k
def XQ (r:Nat->Option R2)(re:List (Nat×Option R2)):Prop:=∀p∈re,∃y z,r p.1=some y/\qQ y=some z/\p.2=some z
def YD (r:Nat->Option R2)(re:List (Nat×Option R2))(l:List Sc):Prop:=∀c∈l,∀j,numOf c=some j->∀y,r j=some y->jV y=false/\∀z,qQ y=some z->(j,some z)∈re
theorem lE:∀(l:List Sc) (k:List (Nat×Option R2)->Tr Out) {out:Out},(Mn l k).run s r=some out->∃re,XQ r re/\YD r re l/\(k re).run s r=some out
 |[],k,out,h=>⟨[],fun _ q=>(by cases q),fun _ q=>(by cases q),h⟩
 |c::l,k,out,h=>by
  simp only[Mn] at h
  split at h
  .rename_i j hc
   simp only[Tr.run] at h
   split at h
   .rename_i x hx
    split at h
    .rename_i z hz
     obtain⟨re,h1,h3,h2⟩:=lE l _ h
     refine⟨_,fun p hp=>?_,fun c' tJ i hi y hy=>?_,h2⟩
     .rcases List.mem_cons.1 hp with rfl|hp
      .exact⟨x,z,hx,hz,rfl⟩
      exact h1 p hp
     rcases List.mem_cons.1 tJ with rfl|tJ
     .rw[hc] at hi;cases hi
      rw[hx] at hy;cases hy
      refine⟨Mm hz,fun z' ox=>?_⟩
      rw[hz] at ox;cases ox;exact List.mem_cons_self
     exact⟨(h3 c' tJ i hi y hy).1,fun z' ox=>List.mem_cons_of_mem _ ((h3 c' tJ i hi y hy).2 z' ox)⟩
    rename_i hz
    split at h
    .cases h
    rename_i ha
    obtain⟨re,h1,h3,h2⟩:=lE l _ h
    refine⟨re,h1,fun c' tJ i hi y hy=>?_,h2⟩
    rcases List.mem_cons.1 tJ with rfl|tJ
    .rw[hc] at hi;cases hi
     rw[hx] at hy;cases hy
     exact⟨ha,fun z' ox=>by rw[hz] at ox;cases ox⟩
    exact h3 c' tJ i hi y hy
   cases h
  rename_i hc
  obtain⟨re,h1,h3,h2⟩:=lE l _ h
  refine⟨re,h1,fun c' tJ i hi y hy=>?_,h2⟩
  rcases List.mem_cons.1 tJ with rfl|tJ
  .rw[hc] at hi;cases hi
  exact h3 c' tJ i hi y hy
theorem Mo:∀ {re:List (Nat×Option R2)},XQ r re->∀ {j:Nat} {y:R2},r j=some y->aT r re j=some y\/∃z,qQ y=some z/\aT r re j=some z
 |[],_,j,y,h=>.inl h
 |p::re,hf,j,y,h=>by
  by_cases e:p.1=j
  .have e2:aT r (p::re) j=p.2:=by rw[<-e];exact dy _ _ _
   obtain⟨y',z,h1,h2,h3⟩:=hf p (by simp)
   rw[e,h] at h1;cases h1
   exact .inr ⟨z,h2,by rw[e2,h3]⟩
  have e2:aT r (p::re) j=aT r re j:=dR e
  rw[e2];exact Mo (fun q hq=>hf q (List.mem_cons_of_mem _ hq)) h
theorem Q3 {re:List (Nat×Option R2)}(h:XQ r re){j:Nat}{z:R2}(hm:(j,some z)∈re):aT r re j=some z:=by
 induction re with
 |nil=>cases hm
 |cons p re ih=>
  by_cases q:p.1=j
  .have e:aT r (p::re) j=p.2:=by rw[<-q];exact dy _ _ _
   rw[e]
   obtain⟨y1,z1,h1,h2,h3⟩:=h p (by simp)
   obtain⟨y2,z2,h4,h5,h6⟩:=h _ hm
   have h4:r j=some y2:=h4
   rw[q,h4] at h1
   cases h1
   rw[h2] at h5;cases h5
   cases h6
   exact h3
  have e:aT r (p::re) j=aT r re j:=dR q
  rw[e]
  refine ih (fun z hz=>h z (List.mem_cons_of_mem _ hz)) ?_
  rcases List.mem_cons.1 hm with k|k
  .rw[<-k] at q;exact(q rfl).elim
  exact k
theorem cz.freeze (H:cz o n A S F s r a w):∀ {re:List (Nat×Option R2)},XQ r re->∃S',(∀k,S k->S' k)/\cz o n A S' F s (aT r re) a w
 |[],_=>⟨S,fun _ h=>h,H⟩
 |p::re,h=>by
  obtain⟨S1,h1,H1⟩:=cz.freeze H (re:=re) fun q hq=>h q (List.mem_cons_of_mem _ hq)
  obtain⟨y,z,hr,hz,hp⟩:=h p (by simp)
  have fin:∀x,aT r re p.1=some x->(∃S',(∀k,S1 k->S' k)/\fZ o w S' (eN (bq A (aT r re)) p.1 (some (z.den A p.1))))->∃S',(∀k,S k->S' k)/\cz o n A S' F s (aT r (p::re)) a w:=fun x hx ⟨S2,k2,hf⟩=>by
   refine⟨S2,fun k q=>k2 k (h1 k q),H1.lZ p.1 p.2 (fun y hy=>?_) (fun y hy=>?_) (by rw[hp];exact hf)⟩
   .rw[hp] at hy;cases hy
    rcases Br hz with⟨_,_,rfl⟩|⟨_,_,_,rfl⟩<;>exact⟨(H1.dD p.1 x hx).1,tv,tv⟩
   rw[hp] at hy;cases hy
   rcases Br hz with⟨_,_,rfl⟩|⟨_,_,_,rfl⟩<;>trivial
  rcases Mo (fun q hq=>h q (List.mem_cons_of_mem _ hq)) hr with hx|⟨z',ox,hx⟩
  .have hm:bq A (aT r re) p.1=some (y.den A p.1):=by simp[bq,hx]
   obtain⟨k1,k2⟩:=FI hz (H1.bB.ok p.1 _ hm)
   exact fin _ hx (H1.bB.freeze p.1 hm k1 k2)
  rw[hz] at ox;cases ox
  have hm:bq A (aT r re) p.1=some (z.den A p.1):=by simp[bq,hx]
  refine fin _ hx ⟨S1,fun _ q=>q,H1.bB.wM p.1 (H1.bB.ok p.1 _ hm) fun b q=>?_⟩
  rcases Br hz with⟨_,_,rfl⟩|⟨_,_,_,rfl⟩<;>cases q
end
section
variable {P:Program}{o:bD}{n:Nat}{A A':bF}{S T:aL}{F G:Nat->Prop}{s:Nat->Option E2}{r:Nat->Option R2}{a:Act}{w w':World}{C:List (Nat×Bool)}{b:Nat}
structure Bt (T:aL)(w:World)(A:bF)(j:Nat)(x:R2):Prop where
 l:∀t l,Uc x=some ⟨t,l⟩->Rd T w (A.v j) (l:List (El t))
 m:∀k t m,L8 x=some ⟨k,t,m⟩->Rd T w (.map (A.m j)) (m:bl k (El t))
 p:∀t y,Dh x=some ⟨t,y⟩->Rd T w (.pointer (A.p j)) (y:kW (El t))
 s:∀t y,Ma x=some ⟨t,y⟩->gA T w (A.b j) (y:El t)
def Reads (T:aL)(w:World)(A:bF)(r:Nat->Option R2):Prop:=∀j x,r j=some x->Bt T w A j x
def kq (T:aL)(w:World)(A:bF)(r:Nat->Option R2)(cs:List Sc):Prop:=∀c∈cs,∀j,numOf c=some j->∀x,r j=some x->Bt T w A j x
theorem kr {α:Type 1}:∀(t:Ty) (l:List Sc) (k:El t->List Sc->Tr α) {out:α},kq T w A r l->(FC t l k).run s r=some out->∃(x:El t) (u rest:List Sc),l=u++rest/\Data.rd T w (u.map (Sc.den A)) x/\(k x rest).run s r=some out
 | .int,l,k,out,hR,h=>by
  have h:(Vk l k).run s r=some out:=h
  unfold Vk at h
  split at h
  .exact⟨_,[_],_,rfl,rfl,h⟩
  cases h
 | .bool,l,k,out,hR,h=>by
  have h:(Md l k).run s r=some out:=h
  unfold Md at h
  split at h
  .exact⟨_,[_],_,rfl,rfl,h⟩
  cases h
 | .str,l,k,out,hR,h=>by
  have h:(Vl l k).run s r=some out:=h
  unfold Vl at h
  split at h
  .exact⟨_,[_],_,rfl,rfl,h⟩
  cases h
 | .list t,l,k,out,hR,h=>by
  have h:(Me t l k).run s r=some out:=h
  unfold Me at h
  split at h
  .obtain⟨x,hx,h⟩:=aY h
   split at h
   .rename_i t' y hy
    split at h
    .rename_i z hz
     obtain⟨e,rfl⟩:=dZ hz
     cases e
     exact⟨y,[_],_,rfl,⟨_,rfl,cn ((hR _ List.mem_cons_self _ rfl x hx).l t y hy)⟩,h⟩
    cases h
   cases h
  .exact⟨[],[_],_,rfl,⟨_,rfl,cn Fu⟩,h⟩
  cases h
 | .map q t,l,k,out,hR,h=>by
  have h:(Vm q t l k).run s r=some out:=h
  unfold Vm at h
  split at h
  .obtain⟨x,hx,h⟩:=aY h
   split at h
   .rename_i k' t' y hy
    split at h
    .rename_i z hz
     obtain⟨e,rfl⟩:=dZ hz
     cases e
     exact⟨y,[_],_,rfl,⟨_,rfl,rB ((hR _ List.mem_cons_self _ rfl x hx).m q t y hy)⟩,h⟩
    cases h
   cases h
  .exact⟨([]:List (bI q×El t)),[_],_,rfl,⟨_,rfl,none,rfl,rfl⟩,h⟩
  cases h
 | .ptr t,l,k,out,hR,h=>by
  have h:(Vn t l k).run s r=some out:=h
  unfold Vn at h
  split at h
  .obtain⟨x,hx,h⟩:=aY h
   split at h
   .rename_i t' y hy
    split at h
    .rename_i z hz
     obtain⟨e,rfl⟩:=dZ hz
     cases e
     exact⟨y,[_],_,rfl,⟨_,rfl,ny ((hR _ List.mem_cons_self _ rfl x hx).p t y hy)⟩,h⟩
    cases h
   cases h
  .split at h
   .obtain⟨x,hx,h⟩:=aY h
    split at h
    .rename_i t' y hy
     split at h
     .rename_i z hz
      obtain⟨e,rfl⟩:=dZ hz
      cases e
      obtain⟨cur,t0,fz,cs,p1,p2,p3,p4⟩:=(hR _ List.mem_cons_self _ rfl x hx).s t y hy
      exact⟨(some y:Option (El t)),[_],_,rfl,⟨_,rfl,_,cur,t0,fz,cs,rfl,p1,p2,p3,p4⟩,h⟩
     cases h
    cases h
   cases h
  .exact⟨(none:Option (El t)),[_],_,rfl,⟨_,rfl,rfl⟩,h⟩
  cases h
 | .pair p q,l,k,out,hR,h=>by
  simp only[FC] at h
  obtain⟨x,u,rest,rfl,h1,h⟩:=kr p l _ hR h
  obtain⟨y,u2,YE,rfl,h2,h⟩:=kr q _ _ (fun c hc=>hR c (List.mem_append_right _ hc)) h
  exact⟨(x,y),u++u2,YE,by rw[List.append_assoc],⟨_,_,by rw[List.map_append],h1,h2⟩,h⟩
def aJ:Sy->List Sc
 | .one c=>[c]
 | .agg cs=>cs
 | .lY _=>[]
theorem iz {α:Type 1}{t:Ty}{y:Sy}{k:El t->Tr α}{out:α}(hR:kq T w A r (aJ y))(h:(jg t y k).run s r=some out):∃x:El t,Rd T w (y.den A) x/\(k x).run s r=some out:=by
 unfold jg at h
 split at h
 .rename_i c hp
  obtain⟨x,u,rest,hu,h1,h⟩:=kr t _ _ hR h
  split at h
  .rw[List.append_nil] at hu
   subst hu
   refine⟨x,⟨_,h1,?_⟩,h⟩
   rw[wJ,hp];rfl
  cases h
 .rename_i cs hp
  obtain⟨x,u,rest,hu,h1,h⟩:=kr t _ _ hR h
  split at h
  .rw[List.append_nil] at hu
   subst hu
   refine⟨x,⟨_,h1,?_⟩,h⟩
   rw[wJ,hp];rfl
  cases h
 cases h
theorem gA.keep {α:Type}[Data α]{T:aL}{w w':World}{b:Nat}{y:α}(h:gA T w b y)(hk:cN T w w'):gA T w' b y:=let⟨cur,t,fz,cs,h1,h2,h3,h4⟩:=h;⟨cur,t,fz,cs,h1,(hk b h1).trans h2,Data.keep hk h3,h4⟩
theorem gA.up {α:Type}[Data α]{T T':aL}{w:World}{b:Nat}{y:α}(h:gA T w b y)(hs:∀k,T k->T' k):gA T' w b y:=let⟨cur,t,fz,cs,h1,h2,h3,h4⟩:=h;⟨cur,t,fz,cs,hs b h1,h2,Data.up hs h3,h4⟩
theorem oN (H:cz o n A S F s r a w){j:Nat}{x:R2}(hj:r j=some x)(ha:jV x=false):Bt (fun k=>S k\/(x.den A j).has k) w A j x:=by
 have eE:(x.den A j).ok S w:=H.bB.ok j _ (show bq A r j=some _ by simp[bq,hj])
 cases x with
 |ro t' l'=>exact⟨(fun t l q=>by cases q;exact Rd.up (fun _=>.inl) eE),(fun _ _ _ q=>by cases q),(fun _ _ q=>by cases q),(fun _ _ q=>by cases q)⟩
 |ar _ _=>cases ha
 |row e t' l'=>exact⟨(fun t l q=>by cases q;exact di.rd eE),(fun _ _ _ q=>by cases q),(fun _ _ q=>by cases q),(fun _ _ q=>by cases q)⟩
 |box _ _=>exact⟨(fun _ _ q=>by cases q),(fun _ _ _ q=>by cases q),(fun _ _ q=>by cases q),(fun _ _ q=>by cases q)⟩
 |nA k' t' l'=>exact⟨(fun _ _ q=>by cases q),(fun k t m q=>by cases q;exact Rd.up (fun _=>.inl) eE),(fun _ _ q=>by cases q),(fun _ _ q=>by cases q)⟩
 |vF _ _ _=>cases ha
 |map k' t' l'=>
  refine⟨(fun _ _ q=>by cases q),(fun k t m q=>?_),(fun _ _ q=>by cases q),(fun _ _ q=>by cases q)⟩
  cases q
  exact(FI (x:=.map k' t' l') rfl eE).2
 |iter _ _ _ _ _ _=>exact⟨(fun _ _ q=>by cases q),(fun _ _ _ q=>by cases q),(fun _ _ q=>by cases q),(fun _ _ q=>by cases q)⟩
 |ext y=>
  cases y with
  |nest q hh e t' ie l'=>
   cases hh with
   |none=>exact⟨(fun t l q=>by cases q;exact iy.rd eE),(fun _ _ _ q=>by cases q),(fun _ _ q=>by cases q),(fun _ _ q=>by cases q)⟩
   |some _=>exact⟨(fun _ _ q=>by cases q),(fun _ _ _ q=>by cases q),(fun _ _ q=>by cases q),(fun _ _ q=>by cases q)⟩
  |fc q k' hh t' ie m'=>
   cases hh with
   |none=>
    refine⟨(fun _ _ q=>by cases q),(fun k t m q=>?_),(fun _ _ q=>by cases q),(fun _ _ q=>by cases q)⟩
    cases q
    exact(FI (x:=.ext (.fc _ k' none t' ie m')) rfl eE).2
   |some _=>exact⟨(fun _ _ q=>by cases q),(fun _ _ _ q=>by cases q),(fun _ _ q=>by cases q),(fun _ _ q=>by cases q)⟩
  |uK t' x'=>exact⟨(fun _ _ q=>by cases q),(fun _ _ _ q=>by cases q),(fun t y q=>by cases q;exact Rd.up (fun _=>.inl) eE),(fun _ _ q=>by cases q)⟩
  |par _ _=>cases ha
  |Dd t' x'=>exact⟨(fun _ _ q=>by cases q),(fun _ _ _ q=>by cases q),(fun _ _ q=>by cases q),(fun t y q=>by cases q;exact gA.up (show gA S w (A.b j) x' from eE) fun k hk=>.inl hk)⟩
  |yQ _ _=>cases ha
  |De _ _ _ _ _=>exact⟨(fun _ _ q=>by cases q),(fun _ _ _ q=>by cases q),(fun _ _ q=>by cases q),(fun _ _ q=>by cases q)⟩
  |Df _=>exact⟨(fun _ _ q=>by cases q),(fun _ _ _ q=>by cases q),(fun _ _ q=>by cases q),(fun _ _ q=>by cases q)⟩
  |vw q lo e t' l'=>
   have eE:di S w e (A.v q) l'/\lN (A.v j) (A.v q) lo (Data.size (El t')):=eE
   exact⟨(fun t l q=>by cases q;exact(sr eE.1 eE.2).1),(fun _ _ _ q=>by cases q),(fun _ _ q=>by cases q),(fun _ _ q=>by cases q)⟩
  |fwd _=>exact⟨(fun _ _ q=>by cases q),(fun _ _ _ q=>by cases q),(fun _ _ q=>by cases q),(fun _ _ q=>by cases q)⟩
theorem Bt.up {T T':aL}{j:Nat}{x:R2}(h:Bt T w A j x)(hs:∀k,T k->T' k):Bt T' w A j x:=⟨fun t l q=>(h.l t l q).up hs,fun k t m q=>(h.m k t m q).up hs,fun t y q=>(h.p t y q).up hs,fun t y q=>(h.s t y q).up hs⟩
theorem Q4 (H:cz o n A S F s r a w){j:Nat}{x:R2}(hj:r j=some x)(ha:jV x=true):Bt o.old w A j x:=by
 have hk:=H.args j x hj
 cases x with
 |ar t' l'=>exact⟨(fun t l q=>by cases q;exact Rd.keep H.bB.old hk),(fun _ _ _ q=>by cases q),(fun _ _ q=>by cases q),(fun _ _ q=>by cases q)⟩
 |vF k' t' l'=>exact⟨(fun _ _ q=>by cases q),(fun k t m q=>by cases q;exact Rd.keep H.bB.old hk),(fun _ _ q=>by cases q),(fun _ _ q=>by cases q)⟩
 |ext y=>
  cases y with
  |par t' x'=>exact⟨(fun _ _ q=>by cases q),(fun _ _ _ q=>by cases q),(fun t y q=>by cases q;exact Rd.keep H.bB.old hk),(fun _ _ q=>by cases q)⟩
  |yQ t' x'=>exact⟨(fun _ _ q=>by cases q),(fun _ _ _ q=>by cases q),(fun _ _ q=>by cases q),(fun t y q=>by cases q;exact gA.keep hk H.bB.old)⟩
  |_=>cases ha
 |_=>cases ha
theorem zS (H:cz o n A S F s r a w):Reads (· <w.heap.size) w A r:=fun j x hj=>by
 cases ha:jV x with
 |false=>exact(oN H hj ha).up fun k hk=>hk.elim (H.bB.ig k) fun q=>(H.bB.own j _ k (show bq A r j=some _ by simp[bq,hj]) q).2.1
 |true=>exact(Q4 H hj ha).up fun k hk=>Nat.lt_of_lt_of_le hk.1 H.bB.oK.size
theorem Mp (H:cz o n A S F s r a w){j:Nat}{z:R2}(hj:r j=some z)(hz:∃y,qQ y=some z):Bt S w A j z:=by
 obtain⟨y,hy⟩:=hz
 rcases Br hy with⟨t,l,rfl⟩|⟨k,t,m,rfl⟩
 .exact(oN H hj rfl).up fun k hk=>hk.elim id fun q=>by cases q
 exact(oN H hj rfl).up fun k hk=>hk.elim id fun q=>by cases q
theorem oO (H:cz o n A S F s r a w){cs:List Sc}(hc:∀c∈cs,∀j,numOf c=some j->∀y,r j=some y->jV y=false):kq (Bn o w) w A r cs:=fun c qF j hcj x hj=>by
 refine(oN H hj (hc c qF j hcj x hj)).up fun k hk=>?_
 rcases hk with hk|hk
 .rcases H.bB.src k hk with h3|h3
  .exact .inl h3
  exact .inr ⟨h3,H.bB.ig k hk⟩
 obtain⟨h1,h2,_⟩:=H.bB.own j _ k (show bq A r j=some _ by simp[bq,hj]) hk
 exact .inr ⟨h1,h2⟩
end
def iI:List Ty->Type
 |[]=>Unit
 |t::ts=>El t×iI ts
def ji:List (Bool×Ty)->Type
 |[]=>Unit
 |p::ts=>El p.2×ji ts
def uO (S T:aL)(w:World):(de:List (Bool×Ty))->List Value->ji de->Prop
 |[],[],_=>True
 |(k,t)::de,v::vs,x=>(match k with
  |true=>Rd S w v (x.1:El t)
  |false=>Rd T w v (x.1:El t))/\uO S T w de vs x.2
 |_,_,_=>False
def tQ (S:aL)(w:World):(ts:List Ty)->List Value->iI ts->Prop
 |[],[],_=>True
 |t::ts,v::vs,x=>Rd S w v x.1/\tQ S w ts vs x.2
 |_,_,_=>False
def jS (S:aL)(w:World):(ts:List Ty)->Value->iI ts->Prop
 |[t],v,x=>Rd S w v x.1
 |ts,v,x=> ∃vs:List Value,v= .tuple vs.toArray/\tQ S w ts vs x
def aS (P:Program)(f:FuncId)(de:List (Bool×Ty))(rs:List Ty)(oQ:ji de->Prop)(fn:ji de->iI rs):Prop:=
 ∀(o:Orig) (vs:List Value) (x:ji de),uO o.S (· <o.w.heap.size) o.w de vs x->oQ x->Calls P f vs.toArray o.w (Hy o fun S v w'=>jS S w' rs v (fn x))
def dN:(ts:List Ty)->iI ts->Nat->List (Bool×List Sc)×List (Nat×Option R2)
 |[],_,_=>([],[])
 |t::ts,y,b=>let c:=bu true b (bg t y.1);let r:=dN ts y.2 (b+c.2.length);((cI t,c.1)::r.1,c.2++r.2)
def gV (rs:List Ty)(y:iI rs)(b:Nat):Sy×List (Nat×Option R2):=
 match dN rs y b with
 |([(true,cs)],re)=>(.agg cs,re)
 |([(false,[c])],re)=>(.one c,re)
 |(ps,re)=>(.lY ps,re)
section
variable {P:Program}{o:bD}{n:Nat}{A A':bF}{S T:aL}{F G:Nat->Prop}{s:Nat->Option E2}{r:Nat->Option R2}{a:Act}{w w':World}{C:List (Nat×Bool)}{b:Nat}
theorem fM {k:Bool}:∀(cs:List kX) (b:Nat),∀p∈(bu k b cs).2,b<=p.1/\p.1<b+(bu k b cs).2.length
 |[],_,_,h=>by cases h
 | .i _::r,b,p,h=>fM r b p h
 | .b _::r,b,p,h=>fM r b p h
 | .s _::r,b,p,h=>fM r b p h
 | .l t l::r,b,p,h=>by
  obtain⟨x,h⟩:∃x,p∈(b,x)::(bu k (b+1) r).2:=⟨_,h⟩
  show b<=p.1/\p.1<b+((bu k (b+1) r).2.length+1)
  rcases List.mem_cons.1 h with rfl|h
  .simp
  have:=fM r (b+1) p h;omega
 | .p t l::r,b,p,h=>by
  obtain⟨x,h⟩:∃x,p∈(b,x)::(bu k (b+1) r).2:=⟨_,h⟩
  show b<=p.1/\p.1<b+((bu k (b+1) r).2.length+1)
  rcases List.mem_cons.1 h with rfl|h
  .simp
  have:=fM r (b+1) p h;omega
 | .m q t l::r,b,p,h=>by
  obtain⟨x,h⟩:∃x,p∈(b,x)::(bu k (b+1) r).2:=⟨_,h⟩
  show b<=p.1/\p.1<b+((bu k (b+1) r).2.length+1)
  rcases List.mem_cons.1 h with rfl|h
  .simp
  have:=fM r (b+1) p h;omega
theorem jv.agree (hA:cV F A A'):∀ {re:List (Nat×Option R2)} {b:Nat},(∀p∈re,F p.1)->jv o S w A b re->jv o S w A' b re
 |[],_,_,_=>trivial
 |p::re,b,hk,h=>by
  obtain⟨h1,⟨x,hx,hr⟩,h3⟩:=h
  have e:=hA p.1 (hk p (by simp))
  refine⟨h1,⟨x,hx,?_⟩,jv.agree hA (fun q hq=>hk q (List.mem_cons_of_mem _ hq)) h3⟩
  have hF:=hk p (by simp)
  cases x<;>first|(show Rd _ _ _ _;rw[<-e.1];exact hr)|(show Rd _ _ _ _;rw[<-e.2.2.2];exact hr)|exact hr|skip
  rename_i z
  cases z<;>first|exact hr|(show Rd _ _ _ _;rw[<-hA.p hF];exact hr)|(show gA _ _ _ _;rw[<-e.2.1];exact hr)
theorem jv.append:∀ {re XR:List (Nat×Option R2)} {b b':Nat},jv o S w A b re->(∀p∈re,p.1<b')->b<=b'->jv o S w A b' XR->jv o S w A b (re++XR)
 |[],_,_,_,_,_,hb,k=>k.aaG hb
 |p::re,XR,b,b',h,hl,hb,k=>⟨h.1,h.2.1,jv.append h.2.2 (fun q hq=>hl q (List.mem_cons_of_mem _ hq)) (by have:=hl p (by simp);omega) k⟩
theorem jx {t:Ty}{v:Value}{x:El t}(h:Rd S w v x):∃vs,bU S w vs (bg t x)/\v=(if cI t then .agg vs.toArray else vs.headD undef):=by
 obtain⟨cs,h1,h2⟩:=h
 exact⟨cs,gK t h1,by rw[<-wJ];exact h2⟩
theorem rE {B:Nat}:∀(ts:List Ty) (y:iI ts) (vs:List Value) (b:Nat) (A:bF) (F:Nat->Prop),tQ S w ts vs y->(∀j,b<=j->j<B->¬F j)->(∀p∈(dN ts y b).2,p.1<B)->
  ∃A',cV F A A'/\(dN ts y b).1.map (eX A')=vs/\jv o S w A' b (dN ts y b).2/\∀p∈(dN ts y b).1,∀c∈p.2,c.all (FU F (dN ts y b).2)/\c.b9 A'
 |[],_,[],b,A,F,_,_,_=>⟨A,cV.refl _ _,rfl,tv,fun _ h=>by cases h⟩
 |[],_,_::_,_,_,_,h,_,_=>h.elim
 |_::_,_,[],_,_,_,h,_,_=>h.elim
 |t::ts,y,v::vs,b,A,F,h,hF,hB=>by
  obtain⟨cs,cH,hv⟩:=jx h.1
  obtain⟨A1,h1,h2,h3,h4⟩:=fq (o:=o) (S:=S) (w:=w) (k:=true) _ cs b A F cH hF fun p hp=>hB p (List.mem_append_left _ hp)
  have oe:=fM (k:=true) (bg t y.1) b
  obtain⟨A2,k1,k2,k3,k4⟩:=rE ts y.2 vs (b+(bu true b (bg t y.1)).2.length) A1 (FU F (bu true b (bg t y.1)).2) h.2 (fun j hj hjB hn=>by
   rcases hn with hn|⟨x,hx⟩
   .exact hF j (by omega) hjB hn
   have:=oe _ hx
   omega) fun p hp=>hB p (List.mem_append_right _ hp)
  have ec:∀c∈(bu true b (bg t y.1)).1,c.all (FU F (bu true b (bg t y.1)).2):=fun c hc=>(h4 c hc).1
  have Q5:∀j,FU F (bu true b (bg t y.1)).2 j->FU F (dN (t::ts) y b).2 j:=fun j hj=>by
   rcases hj with hj|⟨x,hx⟩
   .exact .inl hj
   exact .inr ⟨x,List.mem_append_left _ hx⟩
  refine⟨A2,h1.trans (k1.mono fun j hj=>.inl hj),?_,?_,fun p hp c hc=>?_⟩
  .show eX A2 (cI t,(bu true b (bg t y.1)).1)::(dN ts y.2 _).1.map (eX A2)=_
   rw[k2]
   congr 1
   unfold eX
   rw[<-jf k1 ec,h2,hv]
  .exact jv.append (jv.agree k1 (fun p hp=>.inr ⟨p.2,hp⟩) h3) (fun p hp=>(oe p hp).2) (by omega) k3
  have hp:p=(cI t,(bu true b (bg t y.1)).1)\/p∈(dN ts y.2 (b+(bu true b (bg t y.1)).2.length)).1:=List.mem_cons.1 hp
  rcases hp with rfl|hp
  .exact⟨Sc.mono Q5 (ec c hc),Sc.dG k1 (ec c hc) (h4 c hc).2⟩
  refine⟨Sc.mono (fun j hj=>?_) (k4 p hp c hc).1,(k4 p hp c hc).2⟩
  rcases hj with hj|⟨x,hx⟩
  .exact Q5 j hj
  exact .inr ⟨x,List.mem_append_right _ hx⟩
theorem uP:∀(ts:List Ty) (y:iI ts) (b:Nat),(dN ts y b).1.length=ts.length
 |[],_,_=>rfl
 |t::ts,y,b=>by
  show(dN ts y.2 _).1.length+1=ts.length+1
  rw[uP ts y.2]
theorem Dl (rs:List Ty)(y:iI rs)(b:Nat):(gV rs y b).2=(dN rs y b).2:=by
 unfold gV
 split<;>(rename_i q;rw[q])
theorem Mq {B:Nat}{rs:List Ty}{y:iI rs}{v:Value}(h:jS S w rs v y)(hF:∀j,b<=j->j<B->¬F j)(hB:∀p∈(gV rs y b).2,p.1<B):
  ∃A',cV F A A'/\(gV rs y b).1.den A'=v/\jv o S w A' b (gV rs y b).2/\(gV rs y b).1.all (FU F (gV rs y b).2)/\(gV rs y b).1.b9 A':=by
 have many:∀vs:List Value,(∀x,rs≠[x])->v= .tuple vs.toArray->tQ S w rs vs y->∃A',cV F A A'/\(gV rs y b).1.den A'=v/\jv o S w A' b (gV rs y b).2/\(gV rs y b).1.all (FU F (gV rs y b).2)/\(gV rs y b).1.b9 A':=by
  intro vs dL hv hr
  obtain⟨A',h1,h2,h3,h4⟩:=rE rs y vs b A F hr hF (by rw[<-Dl];exact hB)
  have hl:∀q,(dN rs y b).1≠[q]:=by
   intro q hq
   have hl:=uP rs y b
   rw[hq] at hl
   match rs,hl,dL with
   |[t],_,dL=>exact dL t rfl
  have e:gV rs y b=(.lY (dN rs y b).1,(dN rs y b).2):=by
   unfold gV
   split
   .rename_i q;exact(hl _ (by rw[q])).elim
   .rename_i q;exact(hl _ (by rw[q])).elim
   rename_i q;rw[q]
  rw[e]
  exact⟨A',h1,by simp only[Sy.den,h2,hv],h3,fun p hp c hc=>(h4 p hp c hc).1,fun p hp c hc=>(h4 p hp c hc).2⟩
 match rs,y,h with
 |[],y,h=>obtain⟨vs,h1,h2⟩:=h;exact many vs (fun _ q=>by cases q) h1 h2
 |t::u::ts,y,h=>obtain⟨vs,h1,h2⟩:=h;exact many vs (fun _ q=>by cases q) h1 h2
 |[t],y,h=>
  have h:Rd S w v y.1:=h
  obtain⟨A',h1,h2,h3,h4⟩:=rE [t] y [v] b A F ⟨h,tv⟩ hF (by rw[<-Dl];exact hB)
  obtain⟨cs,cH,hv⟩:=jx h
  have hlen:∀c∈(dN [t] y b).1,c.1=false->∃q,c.2=[q]:=by
   intro c hc zT
   have hc:c=(cI t,(bu true b (bg t y.1)).1):=by simpa[dN] using hc
   subst hc
   have zT:cI t=false:=zT
   cases t<;>first|exact⟨_,rfl⟩|cases zT
  have HK:(∃cs re,dN [t] y b=([(true,cs)],re))\/∃c re,dN [t] y b=([(false,[c])],re):=by
   cases hp:cI t with
   |true=>exact .inl ⟨_,_,by show([(cI t,_)],_)=_;rw[hp]⟩
   |false=>
    obtain⟨q,hq⟩:=hlen (cI t,(bu true b (bg t y.1)).1) (by simp[dN]) hp
    have hq:(bu true b (bg t y.1)).1=[q]:=hq
    exact .inr ⟨q,_,by show([(cI t,(bu true b (bg t y.1)).1)],_)=_;rw[hp,hq]⟩
  rcases HK with⟨sk,re,hq⟩|⟨c,re,hq⟩
  .have e:gV [t] y b=(.agg sk,re):=by unfold gV;rw[hq]
   rw[hq] at h2 h3 h4
   rw[e]
   exact⟨A',h1,(List.cons.inj h2).1,h3,fun c hc=>(h4 (true,sk) (List.mem_singleton.2 rfl) c hc).1,fun c hc=>(h4 (true,sk) (List.mem_singleton.2 rfl) c hc).2⟩
  have e:gV [t] y b=(.one c,re):=by unfold gV;rw[hq]
  rw[hq] at h2 h3 h4
  rw[e]
  exact⟨A',h1,(List.cons.inj h2).1,h3,(h4 (false,[c]) (List.mem_singleton.2 rfl) c (List.mem_singleton.2 rfl)).1,(h4 (false,[c]) (List.mem_singleton.2 rfl) c (List.mem_singleton.2 rfl)).2⟩
end
def Mr:(de:List (Bool×Ty))->List Sy->(ji de->Tr Out)->Tr Out
 |[],[],k=>k ()
 |p::de,y::ys,k=>jg p.2 y fun x=>Mr de ys fun xs=>k (x,xs)
 |_,_,_=>.fail
def Bu:List (Bool×Ty)->List Sy->List Sc
 |(true,_)::de,y::ys=>aJ y++Bu de ys
 |(false,_)::de,_::ys=>Bu de ys
 |_,_=>[]
def Ms {de:List (Bool×Ty)}{rs:List Ty}(oQ:ji de->Prop)(fn:ji de->iI rs)(b:Nat)(cF:List (Nat×Nat))(ys:List Sy):Tr Out:=
 match cF with
 |[]=>Mn (Bu de ys) fun re=>Mr de ys fun x=>.ret ⟨[oQ x],[],(gV rs (fn x) b).1,(gV rs (fn x) b).2++re⟩
 |_=>.fail
section
variable {P:Program}{o:bD}{n:Nat}
def eO (o:bD)(n:Nat)(F:Nat->Prop)(s:Nat->Option E2)(r:Nat->Option R2)(a:Act)(out:Out)(v:Value)(w':World):Prop:=
 ∃A' S',cz o n A' S' (FU F out.re) s (aT r out.re) a w'/\v=out.sy.den A'/\out.sy.all (FU F out.re)/\out.sy.b9 A'
end
def Dm (P:Program)(f:FuncId)(tr:Nat->List (Nat×Nat)->List Sy->Tr Out):Prop:=
 ∀(o:bD) (n:Nat) (A:bF) (S:aL) (F:Nat->Prop) (s:Nat->Option E2) (r:Nat->Option R2) (a:Act) (w:World) (b B:Nat) (cF:List (Nat×Nat)) (ys:List Sy) (out:Out),
  cz o n A S F s r a w->(∀j,b<=j->j<B->¬F j)->(∀y∈ys,y.all F/\y.b9 A)->(∀c∈cF,F c.1)->(tr b cF ys).run s r=some out->(∀p∈out.cs,p)->(∀h∈out.hs,∀A w,h.lhs A w=h.rhs A w)->(∀p∈out.re,p.1<B)->
  Calls P f (ys.map (Sy.den A)++cF.map (fun c=>Value.pointer (some ⟨A.b c.1,c.2,none⟩))).toArray w (fun e w'=> ∃v,e= .returned v/\eO o n F s r a out v w')
structure cE (P:Program) where
 f:FuncId
 tr:Nat->List (Nat×Nat)->List Sy->Tr Out
 ok:Dm P f tr
def Mt (P:Program)(t:TypeId)(y:Sy)(cs:List Sc):Hid:=
 ⟨fun A w=>(Instr.box t (y.den A)).run P w,fun A w=>.ok (.pointer (some ⟨w.heap.size,0,none⟩)) (w.alloc (.cells (cs.map (Sc.den A)).toArray t))⟩
def Dn (P:Program)(t:TypeId)(cs:List Sc):Hid:=
 ⟨fun _ w=>(Instr.alloc t true (.tuple #[])).run P w,fun A w=>.ok (.pointer (some ⟨w.heap.size,0,none⟩)) (w.alloc (.cells (cs.map (Sc.den A)).toArray t))⟩
def wX (P:Program)(t len:Nat)(e:TypeId)(ys:List (Nat×Sy))(cs:List Sc):Hid:=
 ⟨fun A w=>(Instr.buildSlice t len (ys.map fun y=>(y.1,y.2.den A)).toArray).run P w,fun A w=>.ok (.slice (some ⟨w.heap.size,0,none⟩) len len) (w.alloc (.cells (cs.map (Sc.den A)).toArray e))⟩
def Dp (P:Program)(t:TypeId)(ys:List (Nat×Sy))(cs:List Sc):Hid:=
 ⟨fun A w=>(Instr.build t (ys.map fun y=>(y.1,y.2.den A)).toArray).run P w,fun A w=>.ok (.agg (cs.map (Sc.den A)).toArray) w⟩
def ku (P:Program):Nat->TypeId->Option Ty
 |0,_=>none
 |k+1,t=>match P.underlying t with
  |some (.int .i64)=>some .int
  |some .bool=>some .bool
  |some .string=>some .str
  |some (.slice e)=>(ku P k e).map .list
  |some (.map q e)=>match P.underlying q with
   |some (.int .i64)=>(ku P k e).map (.map .int)
   |some .string=>(ku P k e).map (.map .str)
   |_=>none
  |some (.struct fs)=>Ug (fs.toList.map fun f=>ku P k f.type)
  |_=>none
where Ug:List (Option Ty)->Option Ty
 |[some t]=>some t
 |some t::r=>(Ug r).map (.pair t)
 |_=>none
def gm (P:Program)(t e:TypeId)(sz:Nat):Bool:=
 match P.underlying t,P.info? e with
 |some (.slice e'),some i=>match i.zero with
  |some z=>Nat.beq e' e && Nat.beq i.size sz && Nat.beq z.cells.size sz && Nat.blt 0 sz && Nat.ble i.bytes 1000
  |none=>false
 |_,_=>false
theorem l9 {P:Program}{t e:TypeId}{sz:Nat}(h:gm P t e sz=true):∃bytes,bytes<=1000/\LK P t e sz bytes:=by
 unfold gm at h
 split at h
 .rename_i e' i hu hi
  split at h
  .rename_i z hz
   simp only[Bool.and_eq_true] at h
   obtain⟨⟨⟨⟨h1,h2⟩,h3⟩,h4⟩,h5⟩:=h
   have h1:=cr h1;have h2:=cr h2;have h3:=cr h3
   subst h1
   exact⟨i.bytes,by simpa using Nat.le_of_ble_eq_true h5,hu,⟨i,z,hi,hz,h2,rfl,h3⟩,by simpa using Nat.blt_eq▸h4⟩
  cases h
 cases h
def vH (t:Ty):List Sy->(List (El t)->Tr Out)->Tr Out
 |[],k=>k []
 |y::ys,k=>jg t y fun x=>vH t ys fun xs=>k (x::xs)
def FJ:Nat->List Nat->Bool
 |_,[]=>true
 |k,i::l=>Nat.beq i k && FJ (k+1) l
def Vp (P:Program)(b t len:Nat)(is:List Nat)(ys:List Sy):Tr Out:=
 match ku P 9 (P.elem t) with
 |some ty=>aZ (FJ 0 is && (Nat.beq is.length len && Nat.beq ys.length len && gm P t (P.elem t) (HG ty)) && Nat.ble len 1000)
  (Mn (ys.flatMap aJ) fun re=>vH ty ys fun l=>.ret ⟨[],[wX P t len (P.elem t) (is.zip ys) (ys.flatMap aJ)],.one (.own b),[(b,some (.row (P.elem t) ty l))]++re⟩)
 |none=>.fail
def Bv (fs:Array Field):List (Nat×Sy)->List Sc->Option (List Sc)
 |[],cs=>some cs
 |(i,y)::l,cs=>match fs[i]? with
  |some fd=>Bv fs l (cs.take fd.offset++aJ y++cs.drop (fd.offset+(aJ y).length))
  |none=>none
def Mu (P:Program)(t:TypeId)(ys:List (Nat×Sy)):Tr Out:=
 match P.info? t,P.underlying t with
 |some i,some (.struct fs)=>match i.zero with
  |some z=>match Bv fs ys (z.cells.toList.map kY) with
   |some cs=>.ret ⟨[],[Dp P t ys cs],.agg cs,[]⟩
   |none=>.fail
  |none=>.fail
 |_,_=>.fail
def zU:Sc->Bool
 | .v x=>x.oneCell'
 | .hd _ _ _=>false
 |_=>true
def storeT (P:Program)(t:TypeId):Sy->Sy->Tr Out
 | .one (.ptr j off),y=>.res j fun x=>match x with
  | .box bt cs=>aZ (Nat.ble (off+(aJ y).length) cs.length && Nat.beq (P.cellsOf t) (aJ y).length && (P.info? t).isSome && (aJ y).all zU && (match y with| .lY _=>false|_=>true))
   (.ret ⟨[],[],.one (.v undef),[(j,some (.box bt (cs.take off++aJ y++cs.drop (off+(aJ y).length))))]⟩)
  |_=>.fail
 |_,_=>.fail
def wY (P:Program)(b:Nat)(t:TypeId):Tr Out:=
 match P.underlying t,ku P 9 t with
 |some (.map kt _),some (.map k ty)=>aZ (lC P kt k) (.ret ⟨[],[],.one (.mp b),[(b,some (.map k ty ([]:List (bI k×El ty))))]⟩)
 |_,_=>.fail
def wM (P:Program)(t:TypeId)(p q y:Sy):Tr Out:=
 match P.underlying t,p with
 |some (.map kt et),.one (.mp j)=>.res j fun r=>match r with
  | .map k ty m=>match uM k q with
   |some x=>aZ (lC P kt k) (Mn (aJ y) fun re=>aZ (re.all fun p=>!Nat.beq p.1 j) (jg ty y fun v=>.ret ⟨[dc k x,(show List (bI k×El ty) from m).length<=2147483647],[],.one (.v undef),(j,some (.map k ty (gu m x v)))::re⟩))
   |none=>.fail
  |_=>.fail
 |_,_=>.fail
def Mv (P:Program)(t CR:TypeId)(p q:Sy):Tr Out:=
 match P.underlying t,p with
 |some (.map kt et),.one (.mp j)=>.res j fun r=>match r with
  | .map k ty m=>match uM k q with
   |some x=>aZ (lC P kt k && Nat.beq kt CR) (.ret ⟨[dc k x],[],.lY [],[(j,some (.map k ty (kS m x)))]⟩)
   |none=>.fail
  |_=>.fail
 |_,_=>.fail
def Mw (P:Program)(t:TypeId)(p:Sy):Tr Out:=
 match P.underlying t,p with
 |some (.map kt et),.one (.mp j)=>.res j fun r=>match zP r with
  |some ⟨k,t',m⟩=>aZ (lC P kt k) (one (num ((show List (bI k×El t') from m).length:Int)))
  |none=>.fail
 |_,_=>.fail
def Vq (P:Program)(t:Option TypeId):Bool:=match t.bind P.underlying with
 |some (.map _ _)=>true
 |_=>false
section
variable {P:Program}{o:bD}{n:Nat}{A A':bF}{S S' T:aL}{F G:Nat->Prop}{s:Nat->Option E2}{r:Nat->Option R2}{a:Act}{w w':World}{C:List (Nat×Bool)}{b:Nat}
theorem dz (r:Nat->Option R2):∀x y:List (Nat×Option R2),aT r (x++y)=aT (aT r y) x
 |[],_=>rfl
 |p::x,y=>by show jw (aT r (x++y)) p.1 p.2=_;rw[dz r x y];rfl
theorem oS {α:Type 1}(H:cz o n A S F s r a w)(hC:jd a C):∀ {l:List Operand} {k:List Sy->Tr α} {out:α},(JM C l k).run s r=some out->∃ys:List Sy,l.map a.eval=ys.map (Sy.den A)/\(∀y∈ys,y.all F/\y.b9 A)/\(k ys).run s r=some out
 |[],k,out,h=>⟨[],rfl,fun _ q=>(by cases q),h⟩
 |x::l,k,out,h=>by
  obtain⟨y,e1,e2,e3,h⟩:=aM H hC h
  obtain⟨ys,f1,f2,h⟩:=oS H hC h
  refine⟨y::ys,by rw[List.map_cons,List.map_cons,e1,f1],fun z hz=>?_,h⟩
  rcases List.mem_cons.1 hz with rfl|hz
  .exact⟨e2,e3⟩
  exact f2 z hz
theorem mc (H:cz o n A S F s r a w){re:List (Nat×Option R2)}(hz:XQ r re)(hS:∀k,S k->S' k)(H':cz o n A S' F s (aT r re) a w){l:List Sc}(hl:YD r re l):kq S' w A r l:=by
 intro c hc j hcj x hx
 obtain⟨ha,hf⟩:=hl c hc j hcj x hx
 cases ox:qQ x with
 |some z=>
  have h1:=Mp H' (Q3 hz (hf z ox)) ⟨x,ox⟩
  cases x with
  |row e t l=>cases ox;exact⟨(fun t l q=>by cases q;exact h1.l _ _ rfl),(fun _ _ _ q=>by cases q),(fun _ _ q=>by cases q),(fun _ _ q=>by cases q)⟩
  |map k t m=>cases ox;exact⟨(fun _ _ q=>by cases q),(fun k t m q=>by cases q;exact h1.m _ _ _ rfl),(fun _ _ q=>by cases q),(fun _ _ q=>by cases q)⟩
  |ext y=>
   cases y with
   |nest q hh e t ie l=>
    cases hh with
    |none=>cases ox;exact⟨(fun t l q=>by cases q;exact h1.l _ _ rfl),(fun _ _ _ q=>by cases q),(fun _ _ q=>by cases q),(fun _ _ q=>by cases q)⟩
    |some _=>cases ox
   |fc q k hh t ie m=>
    cases hh with
    |none=>cases ox;exact⟨(fun _ _ q=>by cases q),(fun k t m q=>by cases q;exact h1.m _ _ _ rfl),(fun _ _ q=>by cases q),(fun _ _ q=>by cases q)⟩
    |some _=>cases ox
   |vw _ _ _ _ _=>cases ox;exact⟨(fun t l q=>by cases q;exact h1.l _ _ rfl),(fun _ _ _ q=>by cases q),(fun _ _ q=>by cases q),(fun _ _ q=>by cases q)⟩
   |_=>cases ox
  |_=>cases ox
 |none=>
  have h1:=oN H hx ha
  have low:(∀k,(x.den A j).has k->S' k)->Bt S' w A j x:=fun q=>h1.up fun k hk=>hk.elim (hS k) (q k)
  cases x with
  |ro t' l'=>exact low fun k q=>by cases q
  |nA k' t' l'=>exact low fun k q=>by cases q
  |box _ _=>exact⟨(fun _ _ q=>by cases q),(fun _ _ _ q=>by cases q),(fun _ _ q=>by cases q),(fun _ _ q=>by cases q)⟩
  |ar _ _=>cases ha
  |vF _ _ _=>cases ha
  |row _ _ _=>cases ox
  |map _ _ _=>cases ox
  |iter _ _ _ _ _ _=>exact⟨(fun _ _ q=>by cases q),(fun _ _ _ q=>by cases q),(fun _ _ q=>by cases q),(fun _ _ q=>by cases q)⟩
  |ext y=>
   cases y with
   |nest q hh e t ie l=>
    cases hh with
    |none=>cases ox
    |some _=>exact⟨(fun _ _ q=>by cases q),(fun _ _ _ q=>by cases q),(fun _ _ q=>by cases q),(fun _ _ q=>by cases q)⟩
   |fc q k hh t ie m=>
    cases hh with
    |none=>cases ox
    |some _=>exact⟨(fun _ _ q=>by cases q),(fun _ _ _ q=>by cases q),(fun _ _ q=>by cases q),(fun _ _ q=>by cases q)⟩
   |uK t x=>exact low fun k q=>by cases q
   |Dd t x=>exact low fun k q=>q.elim
   |par _ _=>cases ha
   |yQ _ _=>cases ha
   |De _ _ _ _ _=>exact⟨(fun _ _ q=>by cases q),(fun _ _ _ q=>by cases q),(fun _ _ q=>by cases q),(fun _ _ q=>by cases q)⟩
   |Df _=>exact⟨(fun _ _ q=>by cases q),(fun _ _ _ q=>by cases q),(fun _ _ q=>by cases q),(fun _ _ q=>by cases q)⟩
   |vw _ _ _ _ _=>cases ox
   |fwd _=>exact⟨(fun _ _ q=>by cases q),(fun _ _ _ q=>by cases q),(fun _ _ q=>by cases q),(fun _ _ q=>by cases q)⟩
theorem tR (hr:Reads T w A r):∀ {de:List (Bool×Ty)} {ys:List Sy} {k:ji de->Tr Out} {out:Out},kq S' w A r (Bu de ys)->(Mr de ys k).run s r=some out->∃x:ji de,uO S' T w de (ys.map (Sy.den A)) x/\(k x).run s r=some out
 |[],[],k,out,_,h=>⟨(),tv,h⟩
 |[],_::_,_,_,_,h=>by cases h
 |_::_,[],_,_,_,h=>by cases h
 |(true,t)::de,y::ys,k,out,hk,h=>by
  obtain⟨x,h1,h⟩:=iz (T:=S') (fun c hc=>hk c (List.mem_append_left _ hc)) h
  obtain⟨xs,h2,h⟩:=tR hr (fun c hc=>hk c (List.mem_append_right _ hc)) h
  exact⟨(x,xs),⟨h1,h2⟩,h⟩
 |(false,t)::de,y::ys,k,out,hk,h=>by
  obtain⟨x,h1,h⟩:=iz (T:=T) (fun c _ j _=>hr j) h
  obtain⟨xs,h2,h⟩:=tR (de:=de) (ys:=ys) hr hk h
  exact⟨(x,xs),⟨h1,h2⟩,h⟩
theorem bG {op:Oper}{v:Value}{K:Act->World->Prop}{Q:Exit->Act->World->Prop}(e:(execOp a.eval op).run P w= .ok (.value v) w')(k:K (a.put op.dst v) w'):op.wp P a w K Q:=by
 unfold Oper.wp;rw[e];exact k
theorem cz.new (H:cz o n A S F s r a w)(hF:¬F b){p:Option Addr}{m c:Nat}{x:Obj}{y:R2}(eE:(y.den (A.set b p m c w.heap.size) b).ok S (w.alloc x))(hb:∀k,(y.den (A.set b p m c w.heap.size) b).has k->k=w.heap.size)(ec:y.all (FU F [(b,some y)]))(dL:jV y=false)(hg:y.b9 (A.set b p m c w.heap.size)):
  cz o n (A.set b p m c w.heap.size) S (FU F [(b,some y)]) s (aT r [(b,some y)]) a (w.alloc x):=by
 have H1:=H.agree (cV.set (A:=A) hF p m c w.heap.size) (G:=FU F [(b,some y)]) fun j h=>.inl h
 refine cz.lZ H1 b (some y) (fun z hz=>?_) (fun z e=>by cases e;exact gB dL) (H1.bB.L5 b x _ eE hb)
 cases hz
 exact⟨.inr ⟨_,List.mem_singleton.2 rfl⟩,ec,hg⟩
theorem JW {f:FuncId}{de:List (Bool×Ty)}{rs:List Ty}{oQ:ji de->Prop}{fn:ji de->iI rs}(ok:aS P f de rs oQ fn):Dm P f (Ms oQ fn):=by
 intro o n A S F s r a w b B cF ys out H hF XS _ h cH _ hB0
 unfold Ms at h
 cases cF with
 |cons _ _=>cases h
 |nil=>
  obtain⟨re,hz,hl,h⟩:=lE _ _ h
  obtain⟨S',hS,H'⟩:=H.freeze hz
  obtain⟨xs,QV,h⟩:=tR (T:=(· <w.heap.size)) (S':=S') (zS H) (mc H hz hS H' hl) h
  have e:=aW h
  subst e
  have Bw:oQ xs:=cH _ (List.mem_singleton.2 rfl)
  have QC:=ok H'.bB.at (ys.map (Sy.den A)) xs QV Bw
  rw[List.map_nil,List.append_nil]
  refine QC.mono fun e w' ⟨v,he,hR,hB⟩=>⟨v,he,?_⟩
  obtain⟨A',k1,k2,k3,k4,k5⟩:=Mq (o:=o) (S:=qN H'.bB.at w') (w:=w') (b:=b) (A:=A) (F:=F) hR hF fun p hp=>hB0 p (List.mem_append_left _ hp)
  have H2:cz o n A (qN H'.bB.at w') F s (aT r re) a w':=⟨H'.size,H'.eY,H'.env,H'.kZ,H'.dD,H'.bB.call hB,H'.args,H'.wO⟩
  have H3:=H2.ro k1 k3
  rw[<-dz] at H3
  refine⟨A',_,⟨H3.size,H3.eY,H3.env,fun t e he hc=>⟨Sy.mono ?_ (H3.kZ t e he hc).1,(H3.kZ t e he hc).2⟩,fun j x hj=>⟨?_,R2.mono ?_ (H3.dD j x hj).2.1,(H3.dD j x hj).2.2⟩,H3.bB,H3.args,⟨fun j hj=>(H3.wO.1 j hj).imp id fun⟨z,hz⟩=>⟨z,List.mem_append_left _ hz⟩,H3.wO.2⟩⟩,k2.symm,Sy.mono ?_ k4,k5⟩
  all_goals first
   |(intro j hj;rcases hj with hj|⟨z,hz⟩;exact .inl hj;exact .inr ⟨z,List.mem_append_left _ hz⟩)
   |(rcases(H3.dD j x hj).1 with hj|⟨z,hz⟩;exact .inl hj;exact .inr ⟨z,List.mem_append_left _ hz⟩)
theorem FK {B:Nat}{T:List (cE P)}(H:cz o n A S F s r a w)(hF:∀j,b<=j->j<B->¬F j){op:Oper}{c:Call}{x:Operand}{f:FuncId}{cF:List (Nat×Nat)}{Vr:cE P}{out:Out}(ho:op.op= .call c)(iW:c.callee= .value x)(hx:a.eval x=(Sc.nh f cF).den A)(hf:Vr.f=f)
  (zC:((P.funcs[f]?).map (fun fn=>((fn.name== "runtime.NumGoroutine")||fn.body.isNone)))=some false) {ys:List Sy} (dB:c.args.toList.map a.eval=ys.map (Sy.den A)) (XS:∀y∈ys,y.all F/\y.b9 A) (HL:∀c∈cF,F c.1) (h:(Vr.tr b cF ys).run s r=some out) (cH:∀p∈out.cs,p) (mg:∀h∈out.hs,∀A w,h.lhs A w=h.rhs A w) (hB0:∀p∈out.re,p.1<B)
  {K:Act->World->Prop} {Q:Exit->Act->World->Prop} (k:∀v w',eO o n F s r a out v w'->K (a.put op.dst v) w'):op.wp P a w K Q:=by
 have QC:=Vr.ok o n A S F s r a w b B cF ys out H hF XS HL h cH mg hB0
 obtain⟨fn,hfn,hb⟩:=Option.map_eq_some_iff.1 zC
 simp only[Bool.or_eq_false_iff] at hb
 have Yp:fn.name≠ "runtime.NumGoroutine" :=by simpa using hb.1
 have ng:fn.body≠none:=by intro e;rw[e] at hb;cases hb.2
 have hx:a.eval x= .func (.func f) #[] (cF.map fun c=>.pointer (some ⟨A.b c.1,c.2,none⟩)).toArray:=hx
 have Vs:c.args.map a.eval=(ys.map (Sy.den A)).toArray:=by rw[<-dB];apply Array.ext';rw[Array.toList_map]
 have e:(execOp a.eval op).run P w= .ok (.enter f (ys.map (Sy.den A)++cF.map (fun c=>Value.pointer (some ⟨A.b c.1,c.2,none⟩))).toArray) w:=by
  simp[execOp,ho,resolve,iW,Vs,hx,Deferred.ofValue,invoke,callFunc,program,Sem.run,hfn,Yp,ng]
 unfold Oper.wp
 rw[e]
 rw[hf] at QC
 refine QC.mono fun e w' ⟨v,he,hR⟩=>?_
 subst he
 exact k v w' hR
end
theorem fT {P:Program}{kt:TypeId}{k:Kc}(h:lC P kt k=true):P.underlying kt=some (gU k):=by
 unfold lC at h
 split at h
 .split at h
  .assumption
  cases h
 split at h
 .assumption
 cases h
theorem mh {A:bF}{k:Kc}{q:Sy}{x:bI k}(h:uM k q=some x):q.den A=fJ k x:=by
 unfold uM at h
 split at h
 .cases h;rfl
 .cases h;rfl
 cases h
theorem wZ (v:Value):numOf (kY v)=none:=by unfold kY;split<;>rfl
theorem xb {P:Program}{t:TypeId}{z:Sy}(h:wN P t=some z):∀c∈aJ z,numOf c=none:=by
 unfold wN at h
 split at h
 .rename_i i _
  obtain⟨v,_,rfl⟩:=Option.map_eq_some_iff.1 h
  intro c hc
  unfold yX at hc
  split at hc
  .obtain⟨u,_,rfl⟩:=List.mem_map.1 hc;exact wZ u
  have:=List.mem_singleton.1 hc;subst this;exact wZ _
 cases h
section
variable {P:Program}{o:bD}{n:Nat}{A A':bF}{S S':aL}{F G:Nat->Prop}{s:Nat->Option E2}{r:Nat->Option R2}{a:Act}{w w':World}{C:List (Nat×Bool)}{b:Nat}
theorem JX {B:Nat}(H:cz o n A S F s r a w)(hF:∀j,b<=j->j<B->¬F j){op:Oper}{t:TypeId}{m x:Operand}{ok:Bool}{p q:Sy}{out:Out}(ho:op.op= .lookup t m x ok)(hm:a.eval m=p.den A)(hx:a.eval x=q.den A)
  (h:(zN P b t ok p q).run s r=some out) (cH:∀p∈out.cs,p) (mg:∀h∈out.hs,∀A w,h.lhs A w=h.rhs A w) (hB:∀p∈out.re,p.1<B)
  {K:Act->World->Prop} {Q:Exit->Act->World->Prop} (k:∀v w',eO o n F s r a out v w'->K (a.put op.dst v) w'):op.wp P a w K Q:=by
 unfold zN at h
 split at h
 .rename_i kt et hu
  split at h
  .rename_i j
   obtain⟨R,hR,h⟩:=aY h
   split at h
   .rename_i qf kc tn ie mm
    split at h
    .rename_i kx Mx
     obtain⟨hk,h⟩:=an h
     have hk:=fT hk
     have hq:q.den A=fJ kc kx:=mh Mx
     have hm:a.eval m= .map (A.m j):=hm
     obtain⟨Bq,Q0,_⟩:=H.dD j _ hR
     have Q0:F qf:=Q0
     obtain⟨dM,hblk,N⟩:∃dM,A.m j=some dM/\rD S w dM (A.f qf) none ie mm:=H.bB.ok j _ (show bq A r j=some _ by simp[bq,hR];rfl)
     obtain⟨zs,n1,n2,n3⟩:=N.map
     have e1:aI (zs.map fun q=>(q.1,q.2.1)) kx=(aI zs kx).map (·.1):=eR (fun y:Value×List (El tn)=>y.1) zs kx
     have e2:aI mm kx=(aI zs kx).map (·.2):=by rw[n2];exact eR (fun y:Value×List (El tn)=>y.2) zs kx
     have e3:(aI (zs.map fun q=>(q.1,q.2.1)) kx).isSome=(aI mm kx).isSome:=by rw[e1,e2];cases aI zs kx<;>rfl
     have e4:(aI (zs.map fun q=>(q.1,q.2.1)) kx).getD (.slice none 0 0)=A.f qf (cU kc kx):=by
      rw[e1]
      cases hl:aI zs kx with
      |none=>rw[N.XO kx (by rw[e2,hl];rfl) (by simp)];rfl
      |some y=>exact(n3 _ (je hl) (by simp)).1
     have main:(iN P et (.one (.v (.slice none 0 0)))).lhs A w=(iN P et (.one (.v (.slice none 0 0)))).rhs A w->dc kc kx->(execOp a.eval op).run P w= .ok (.value (if ok then .tuple #[A.f qf (cU kc kx),.bool (aI mm kx).isSome] else A.f qf (cU kc kx))) w:=by
      intro hz hw
      have hz:(zeroValue et).run P w= .ok (.slice none 0 0) w:=hz
      have bY:(Instr.lookup t (.map (A.m j)) (fJ kc kx) ok).run P w= .ok (if ok then .tuple #[A.f qf (cU kc kx),.bool (aI mm kx).isSome] else A.f qf (cU kc kx)) w:=by
       rw[hblk]
       cases ok
       .rw[n1.look hu hk hz hw,e4];rfl
       rw[n1.zN hu hk hz hw,e3,e4];rfl
      simp only[execOp,ho,Sem.run_bind,hm,hx,hq,bY]
      rfl
     cases ok with
     |true=>
      have e:=aW h
      subst e
      refine bG (main (mg _ (List.mem_singleton.2 rfl) A w) (cH _ (List.mem_singleton.2 rfl))) (k _ _ ⟨A,S,H.agree (cV.refl _ _) fun _ q=>.inl q,rfl,fun p hp c hc=>?_,fun p hp c hc=>?_⟩)
      .rcases List.mem_cons.1 hp with rfl|hp
       .have:=List.mem_singleton.1 hc;subst this;exact⟨.inl Bq,.inl Q0⟩
       have:=List.mem_singleton.1 hp;subst this
       have:=List.mem_singleton.1 hc;subst this;trivial
      rcases List.mem_cons.1 hp with rfl|hp
      .have:=List.mem_singleton.1 hc;subst this;trivial
      have:=List.mem_singleton.1 hp;subst this
      have:=List.mem_singleton.1 hc;subst this;trivial
     |false=>
      have e:=aW h
      subst e
      exact bG (main (mg _ (List.mem_singleton.2 rfl) A w) (cH _ (List.mem_singleton.2 rfl))) (k _ _ ⟨A,S,H.agree (cV.refl _ _) fun _ q=>.inl q,rfl,⟨.inl Bq,.inl Q0⟩,tv⟩)
    cases h
   split at h
   .rename_i kc ty mm Fe
    split at h
    .rename_i kx z Mx hz
     obtain⟨hk,h⟩:=an h
     have hk:=fT hk
     have hq:q.den A=fJ kc kx:=mh Mx
     have hm:a.eval m= .map (A.m j):=hm
     have hzc:=xb hz
     obtain⟨x0,JY,h⟩:∃x0:El ty,(match gb R with|true=>Rd S w (z.den A) x0|false=>Rd o.old o.w (z.den A) x0)/\_:=by
      cases gb R with
      |true=>exact iz (T:=S) (w:=w) (fun c hc j hj=>by rw[hzc c hc] at hj;cases hj) h
      |false=>exact iz (T:=o.old) (w:=o.w) (fun c hc j hj=>by rw[hzc c hc] at hj;cases hj) h
     have main:(iN P et z).lhs A w=(iN P et z).rhs A w->dc kc kx->∃v,(Instr.lookup t (.map (A.m j)) (fJ kc kx) ok).run P w= .ok (if ok then .tuple #[v,.bool (aI mm kx).isSome] else v) w/\
       (match gb R with|true=>Rd S w v ((aI mm kx).getD x0)|false=>Rd o.old o.w v ((aI mm kx).getD x0)):=by
      intro hz hw
      have hz:(zeroValue et).run P w= .ok (z.den A) w:=hz
      rcases Dj H hR Fe with⟨h1,h2⟩|⟨dM,zs,h1,h2,h3,h4⟩
      .subst h2
       refine⟨z.den A,?_,?_⟩
       .rw[h1,Maps.look_nil ok (nu hk) hu hz (nv hk hw)];rfl
       exact JY
      have e1:aI (zs.map fun q=>(q.1,q.2.1)) kx=(aI zs kx).map (·.1):=eR (fun y:Value×El ty=>y.1) zs kx
      have e2:aI mm kx=(aI zs kx).map (·.2):=by rw[h3];exact eR (fun y:Value×El ty=>y.2) zs kx
      have e3:(aI (zs.map fun q=>(q.1,q.2.1)) kx).isSome=(aI mm kx).isSome:=by rw[e1,e2];cases aI zs kx<;>rfl
      refine⟨(aI (zs.map fun q=>(q.1,q.2.1)) kx).getD (z.den A),?_,?_⟩
      .rw[h1]
       cases ok
       .exact h2.look hu hk hz hw
       rw[h2.zN hu hk hz hw,e3];rfl
      rw[e1,e2]
      cases hl:aI zs kx with
      |none=>exact JY
      |some y=>exact h4 _ (je hl)
     have fin:∀(sy:Sy),(∀v (A':bF),v=(if cI ty then .agg ((bu (gb R) b (bg ty ((aI mm kx).getD x0))).1.map (Sc.den A')).toArray else((bu (gb R) b (bg ty ((aI mm kx).getD x0))).1.map (Sc.den A')).headD undef)->(if ok then Value.tuple #[v,.bool (aI mm kx).isSome] else v)=sy.den A')->
       (∀(G:Nat->Prop) (A':bF),(∀c∈(bu (gb R) b (bg ty ((aI mm kx).getD x0))).1,c.all G/\c.b9 A')->sy.all G/\sy.b9 A')->
       out=⟨[dc kc kx],[iN P et z],sy,(bu (gb R) b (bg ty ((aI mm kx).getD x0))).2⟩->op.wp P a w K Q:=by
      intro sy tL ec e
      subst e
      obtain⟨v,bY,gz⟩:=main (mg _ (List.mem_singleton.2 rfl) A w) (cH _ (List.mem_singleton.2 rfl))
      obtain⟨vs,LO,hv⟩:∃vs,vG o S w (gb R) vs (bg ty ((aI mm kx).getD x0))/\v=(if cI ty then .agg vs.toArray else vs.headD undef):=by
       cases My:gb R with
       |true=>rw[My] at gz;exact jx gz
       |false=>rw[My] at gz;exact jx gz
      obtain⟨A',k1,k2,k3,k4⟩:=fq _ vs b A F LO hF hB
      have e2:(execOp a.eval op).run P w= .ok (.value (if ok then .tuple #[v,.bool (aI mm kx).isSome] else v)) w:=by
       simp only[execOp,ho,Sem.run_bind,hm,hx,hq,bY]
       rfl
      refine bG e2 (k _ _ ⟨A',S,H.ro k1 k3,tL v A' ?_,(ec _ _ k4).1,(ec _ _ k4).2⟩)
      rw[k2];exact hv
     cases ok with
     |true=>
      have e:=aW h
      refine fin (.lY [(cI ty,(bu (gb R) b (bg ty ((aI mm kx).getD x0))).1),(false,[.b (.raw (aI mm kx).isSome)])]) (fun v A' hv=>?_) (fun G A' hc=>⟨fun p hp c qF=>?_,fun p hp c qF=>?_⟩) e
      .show Value.tuple #[v,_]= .tuple #[eX A' (cI ty,_),_]
       rw[hv];rfl
      .rcases List.mem_cons.1 hp with rfl|hp
       .exact(hc c qF).1
       have:=List.mem_singleton.1 hp;subst this
       have:=List.mem_singleton.1 qF;subst this;trivial
      rcases List.mem_cons.1 hp with rfl|hp
      .exact(hc c qF).2
      have:=List.mem_singleton.1 hp;subst this
      have:=List.mem_singleton.1 qF;subst this;trivial
     |false=>
      dsimp only at h
      split at h
      .rename_i cs hp
       have e:=aW h
       refine fin (.agg (bu (gb R) b (bg ty ((aI mm kx).getD x0))).1) (fun v A' hv=>?_) (fun G A' hc=>⟨fun c qF=>(hc c qF).1,fun c qF=>(hc c qF).2⟩) e
       show v=_
       rw[hv,if_pos hp];rfl
      .rename_i c hp yZ
       have e:=aW h
       refine fin (.one c) (fun v A' hv=>?_) (fun G A' hc=>hc c (by rw[yZ];exact List.mem_singleton.2 rfl)) e
       show v=_
       rw[hv,if_neg (by rw[hp];decide),yZ];rfl
      cases h
    cases h
   cases h
  cases h
 cases h
theorem JZ (H:cz o n A S F s r a w){op:Oper}{c:Call}{t:TypeId}{x:Operand}{p:Sy}{out:Out}(ho:op.op= .call c)(iW:c.callee= .builtin .len)(dB:c.args.toList=[x])(wD:c.argTypes.toList=[t])(hx:a.eval x=p.den A)
  (h:(Mw P t p).run s r=some out) {K:Act->World->Prop} {Q:Exit->Act->World->Prop} (k:∀v w',eO o n F s r a out v w'->K (a.put op.dst v) w'):op.wp P a w K Q:=by
 have ha:c.args= #[x]:=by apply Array.ext';exact dB
 have hb:c.argTypes= #[t]:=by apply Array.ext';exact wD
 unfold Mw at h
 split at h
 .rename_i kt et j hu
  obtain⟨R,hR,h⟩:=aY h
  split at h
  .rename_i kc ty mm Fe
   obtain⟨hk,h⟩:=an h
   have hk:=fT hk
   have e:=bK h
   subst e
   have hx:a.eval x= .map (A.m j):=hx
   have bY:(Builtin.len_ #[t] op.type #[.map (A.m j)]).run P w= .ok (.int .i64 ((show List (bI kc×El ty) from mm).length:Int)) w:=by
    rcases Dj H hR Fe with⟨h1,h2⟩|⟨dM,zs,h1,h2,h3,h4⟩
    .subst h2;rw[h1];exact Maps.len_nil hu op.type
    have:=h2.len hu hk op.type
    rw[h1,this,h3]
    simp only[List.length_map]
   have e2:(execOp a.eval op).run P w= .ok (.value (.int .i64 ((show List (bI kc×El ty) from mm).length:Int))) w:=by
    unfold execOp
    simp only[ho,resolve,iW,ha,hb,invoke,builtin,Sem.run_bind,Sem.run_pure,Result.andThen_ok,List.map_toArray,List.map_cons,List.map_nil,hx,bY]
   exact bG e2 (k _ _ ⟨A,S,H.agree (cV.refl _ _) fun _ q=>.inl q,rfl,tv,tv⟩)
  cases h
 cases h
theorem cz.aaJ (H:cz o n A S F s r a w)(hF:¬F b){kc:Kc}{ty:Ty}{kt:TypeId}(hk:P.underlying kt=some (gU kc)):
  cz o n (A.aT b (some w.heap.size)) S (FU F [(b,some (.map kc ty ([]:List (bI kc×El ty))))]) s (aT r [(b,some (.map kc ty ([]:List (bI kc×El ty))))]) a (w.alloc (.map #[] 0)):=by
 have H1:=H.agree (cV.aT (A:=A) hF (some w.heap.size)) (G:=FU F [(b,some (.map kc ty ([]:List (bI kc×El ty))))]) fun j h=>.inl h
 refine cz.lZ H1 b _ (fun z hz=>?_) (fun z e=>by cases e;trivial) (H1.bB.L5 b _ _ ⟨w.heap.size,by rw[bF.wK],[],dg.new w hk,rfl,fun _ q=>by cases q⟩ fun q hq=>?_)
 .cases hz
  exact⟨.inr ⟨_,List.mem_singleton.2 rfl⟩,tv,tv⟩
 have hq:(A.aT b (some w.heap.size)).m b=some q:=hq
 rw[bF.wK] at hq;cases hq;rfl
theorem FL {B:Nat}(H:cz o n A S F s r a w)(hF:∀j,b<=j->j<B->¬F j){op:Oper}{t:TypeId}{x:Option Operand}{out:Out}(ho:op.op= .makeMap t x)(hx:∀y,x=some y->∃k m,a.eval y= .int k m)
  (h:(wY P b t).run s r=some out) (hB:∀p∈out.re,p.1<B) {K:Act->World->Prop} {Q:Exit->Act->World->Prop} (k:∀v w',eO o n F s r a out v w'->K (a.put op.dst v) w'):op.wp P a w K Q:=by
 unfold wY at h
 split at h
 .rename_i kt et kc ty hu hc
  obtain⟨hk,h⟩:=an h
  have hk:=fT hk
  have e:=aW h
  subst e
  have e2:(execOp a.eval op).run P w= .ok (.value (.map (some w.heap.size))) (w.alloc (.map #[] 0)):=by
   cases x with
   |none=>
    simp only[execOp,ho,Sem.run_bind,Option.map_none,run_makeMap]
    rfl
   |some y=>
    obtain⟨ik,m,hy⟩:=hx y rfl
    simp[execOp,ho,Sem.run_bind,Option.map_some,hy,Instr.makeMap,run_underlying hu,asInt,asIntOf,newObj,Result.andThen,Sem.run,Sem.run_pure]
  have H2:=H.aaJ (hF b (Nat.le_refl _) (hB _ (List.mem_singleton.2 rfl))) (ty:=ty) hk
  refine bG e2 (k _ _ ⟨_,S,H2,?_,.inr ⟨_,List.mem_singleton.2 rfl⟩,tv⟩)
  show _=Value.map ((A.aT b (some w.heap.size)).m b)
  rw[bF.wK]
 cases h
theorem cz.Uh (H:cz o n A S F s r a w){j:Nat}{kc:Kc}{ty:Ty}{m m':bl kc (El ty)}(hj:r j=some (.map kc ty m)){dM:Nat}(hb:A.m j=some dM)(hG:w.grownBy w' (some dM))(hm:lB S w' dM m'):
  cz o n A S F s (jw r j (some (.map kc ty m'))) a w':=by
 have dX:bq A r j=some (qO (A.m j) m):=by show(r j).map _=_;rw[hj];rfl
 have hg:jH w w' (qO (A.m j) m).has:=⟨hG.os,hG.tape,hG.output,hG.size,fun k hk hn=>hG.block k hk fun e=>hn (by show A.m j=some k;rw[hb,<-e])⟩
 have XT:=H.bB.mut j dX hg
 have iJ:=H.bB.own j _ dM dX hb
 have QD:=XT.put j (qO (A.m j) m') ⟨dM,hb,hm⟩ (fun b' ng=>by
  have ng:A.m j=some b':=ng
  rw[hb] at ng;cases ng
  refine⟨iJ.1,Nat.lt_of_lt_of_le iJ.2.1 hG.size,iJ.2.2,fun i ri hi Mz e=>?_⟩
  unfold eN at Mz
  rw[if_neg hi] at Mz
  exact hi (H.bB.apart i j ri _ dM Mz dX e hb))
 have Dq:eN (eN (bq A r) j none) j (some (qO (A.m j) m'))=eN (bq A r) j (some (qO (A.m j) m')):=by
  funext i;unfold eN;split<;>rfl
 rw[Dq] at QD
 exact cz.lZ H j (some (.map kc ty m')) (fun z ox=>by cases ox;exact⟨(H.dD j _ hj).1,tv,tv⟩) (fun z e=>by cases e;trivial) QD
theorem J1 (H:cz o n A S F s r a w){op:Oper}{t:TypeId}{m x y:Operand}{p q z:Sy}{out:Out}(ho:op.op= .mapUpdate t m x y\/op.op= .insert t m x y)(iX:True)(hm:a.eval m=p.den A)(hx:a.eval x=q.den A)(hy:a.eval y=z.den A)
  (h:(wM P t p q z).run s r=some out) (cH:∀p∈out.cs,p) {K:Act->World->Prop} {Q:Exit->Act->World->Prop} (k:∀v w',eO o n F s r a out v w'->K (a.put op.dst v) w'):op.wp P a w K Q:=by
 unfold wM at h
 split at h
 .rename_i kt et j hu
  obtain⟨R,hR,h⟩:=aY h
  split at h
  .rename_i kc ty mm
   split at h
   .rename_i kx Mx
    obtain⟨hk,h⟩:=an h
    have hk:=fT hk
    obtain⟨re,hz,hl,h⟩:=lE _ _ h
    obtain⟨S',hS,H'⟩:=H.freeze hz
    obtain⟨yY,h⟩:=an h
    obtain⟨d,hd,h⟩:=iz (mc H hz hS H' hl) h
    have e:=aW h
    subst e
    have hq:q.den A=fJ kc kx:=mh Mx
    have hm:a.eval m= .map (A.m j):=hm
    have hw:dc kc kx:=cH _ List.mem_cons_self
    have hlen:(show List (bI kc×El ty) from mm).length<=2147483647:=cH _ (List.mem_cons_of_mem _ List.mem_cons_self)
    have JK:aT r re j=some (.map kc ty mm):=by
     have key:∀l:List (Nat×Option R2),(l.all fun p=>!Nat.beq p.1 j)=true->aT r l j=r j:=by
      intro l
      induction l with
      |nil=>intro _;rfl
      |cons p l ih=>
       intro hl
       rw[List.all_cons,Bool.and_eq_true] at hl
       have dL:p.1≠j:=fun e=>by have:=hl.1;rw[e,Nat.beq_refl] at this;cases this
       show jw (aT r l) p.1 p.2 j=_
       rw[dR dL];exact ih hl.2
     rw[key re yY];exact hR
    have dX:bq A (aT r re) j=some (qO (A.m j) mm):=by show(aT r re j).map _=_;rw[JK];rfl
    obtain⟨dM,hb,zs,h2,h3,h4⟩:=H'.bB.ok j _ dX
    obtain⟨w',bY,Ls,hG,_⟩:=h2.put hu hk (by rw[List.length_map];rw[h3] at hlen;simpa using hlen) hw (z.den A)
    have xd:(execOp a.eval op).run P w= .ok .skip w':=by
     rcases ho with ho|ho<;>(simp only[execOp,ho,Sem.run_bind,hm,hx,hy,hq,hb,bY];rfl)
    unfold Oper.wp
    rw[xd]
    refine k undef _ ?_
    have qP:cN S' w w':=fun q hq=>hG.block q (H'.bB.ig q hq) fun e=>by cases e;exact(H'.bB.own j _ dM dX hb).2.2 hq
    have H2:=H'.Uh JK hb hG (m':=gu mm kx d) ⟨gu zs kx (z.den A,d),by rw[jr (fun y:Value×El ty=>y.1)];exact Ls,by rw[jr (fun y:Value×El ty=>y.2),h3],fun y hy=>by
     rcases oJ.1 hy with rfl|⟨hy,_⟩
     .exact hd.keep qP
     exact(h4 y hy).keep qP⟩
    exact⟨A,S',H2.agree (cV.refl _ _) fun _ q=>.inl q,rfl,tv,tv⟩
   cases h
  cases h
 cases h
theorem FM (H:cz o n A S F s r a w){op:Oper}{c:Call}{t CR:TypeId}{x y:Operand}{p q:Sy}{out:Out}(ho:op.op= .call c)(iW:c.callee= .builtin .delete)(dB:c.args.toList=[x,y])(wD:c.argTypes.toList=[t,CR])
  (hx:a.eval x=p.den A) (hy:a.eval y=q.den A) (h:(Mv P t CR p q).run s r=some out) (cH:∀p∈out.cs,p) {K:Act->World->Prop} {Q:Exit->Act->World->Prop} (k:∀v w',eO o n F s r a out v w'->K (a.put op.dst v) w'):op.wp P a w K Q:=by
 have ha:c.args= #[x,y]:=by apply Array.ext';exact dB
 have YF:c.argTypes= #[t,CR]:=by apply Array.ext';exact wD
 unfold Mv at h
 split at h
 .rename_i kt et j hu
  obtain⟨R,hR,h⟩:=aY h
  split at h
  .rename_i kc ty mm
   split at h
   .rename_i kx Mx
    obtain⟨hg,h2⟩:=an h
    clear h
    rw[Bool.and_eq_true] at hg
    have hk:=fT hg.1
    have hkt:=cr hg.2
    subst hkt
    have e:=aW h2
    subst e
    have hq:q.den A=fJ kc kx:=mh Mx
    have hx:a.eval x= .map (A.m j):=hx
    have hw:dc kc kx:=cH _ List.mem_cons_self
    have dX:bq A r j=some (qO (A.m j) mm):=by show(r j).map _=_;rw[hR];rfl
    obtain⟨dM,hb,zs,h6,h3,h4⟩:=H.bB.ok j _ dX
    obtain⟨w',bY,Ls,hG⟩:=h6.drop hu hk hw op.type
    have e2:(execOp a.eval op).run P w= .ok (.value (.tuple #[])) w':=by
     unfold execOp
     simp only[ho,resolve,iW,ha,YF,invoke,builtin,Sem.run_bind,Sem.run_pure,Result.andThen_ok,List.map_toArray,List.map_cons,List.map_nil,hx,hy,hq,hb,bY]
    have qP:cN S w w':=fun q hq=>hG.block q (H.bB.ig q hq) fun e=>by cases e;exact(H.bB.own j _ dM dX hb).2.2 hq
    have H2:=H.Uh hR hb hG (m':=kS mm kx) ⟨kS zs kx,by rw[wE (fun y:Value×El ty=>y.1)];exact Ls,by rw[wE (fun y:Value×El ty=>y.2),h3],fun y hy=>(h4 y (List.mem_filter.1 hy).1).keep qP⟩
    exact bG e2 (k _ _ ⟨A,S,H2.agree (cV.refl _ _) fun _ q=>.inl q,rfl,(fun _ q=>by cases q),(fun _ q=>by cases q)⟩)
   cases h
  cases h
 cases h
end
section
variable {P:Program}{w w':World}{t tx ty e:TypeId}{size bytes:Nat}{v:Value}{n:Nat}{xs:List Value}
theorem lQ {α:Type}(cur us:List α)(a c n:Nat)(h:a+n<=cur.length)(hc:c+us.length<=n):
  ((cur.take (a+c)++us++cur.drop (a+c+us.length)).drop a).take n=((cur.drop a).take n).take c++us++((cur.drop a).take n).drop (c+us.length):=by
 apply List.ext_getElem?
 intro j
 simp only[List.getElem?_take,List.getElem?_drop,List.getElem?_append,List.length_append,List.length_take,List.length_drop]
 repeat' split
 all_goals first|rfl|omega|(congr 1;omega)|(exfalso;omega)|(symm;apply List.getElem?_eq_none;omega)|(apply List.getElem?_eq_none;omega)
theorem HM (E:LK P t e size bytes)(hd:ga w e size v n xs){x:Value}{m:Nat}{news:List Value}(hs:Src P size tx x m news w)(h63:n+m<=maxLen)(MA:(n+m)*bytes<=140737488355328):
  ∃v' w',(Builtin.append_ #[t,tx] ty #[v,x]).run P w= .ok v' w'/\ga w' e size v' (n+m) (xs++news)/\w.grownBy w' v.ownBlock/\(∀b,v'.ownBlock=some b->v.ownBlock=some b\/(w.heap.size<=b/\b<w'.heap.size)):=by
 obtain⟨i,z,hi,hz,MB,FN,XU⟩:=E.info
 subst MB
 subst FN
 have hlen:(xs++news).length=(n+m)*i.size:=by rw[List.length_append,hd.1,hs.newsLen,Nat.add_mul]
 have abL:n+m<=9223372036854775807:=by simp only[maxLen] at h63;omega
 have grown:∀(old:Nat),old<n+m->∀row:Option Nat,
   ga (w.drew.alloc (.cells ((xs++news).toArray++Builtin.zeroCells z.cells (grownCap w (n+m) old e-(n+m))) e)) e i.size (.slice (some ⟨w.heap.size,0,none⟩) (n+m) (grownCap w (n+m) old e)) (n+m) (xs++news)/\
   w.grownBy (w.drew.alloc (.cells ((xs++news).toArray++Builtin.zeroCells z.cells (grownCap w (n+m) old e-(n+m))) e)) row:=by
  intro old ho row
  have zV:=grownCap_ge w (n+m) old e
  have qF:grownCap w (n+m) old e<=maxLen:=grownCap_le_maxLen w (n+m) old e h63
  refine⟨⟨hlen,.inr ⟨w.heap.size,0,_,_,by rw[Nat.zero_mul],heap_alloc_new w.drew _,zV,qF,?_,?_⟩⟩,⟨rfl,rfl,rfl,by simp,fun k hk _=>heap_alloc_old w.drew _ hk⟩⟩
  .rw[Array.size_append,List.size_toArray,size_zeroCells,XU,hlen,<-Nat.add_mul]
   exact Nat.mul_le_mul_right _ (by omega)
  rw[Nat.zero_mul,List.drop_zero,Array.toList_append,<-hlen]
  exact List.take_left
 rcases hd.2 with⟨rfl,rfl⟩|⟨g,d,cap,cur,rfl,hg,JB,qF,cH,jO⟩
 .have hx:xs=[]:=List.eq_nil_of_length_eq_zero (by simpa using hd.1)
  subst hx
  by_cases hm:m=0
  .subst hm
   have hn:news=[]:=List.eq_nil_of_length_eq_zero (by simpa using hs.newsLen)
   subst hn
   refine⟨.slice none 0 0,w,?_,ga.nil w e i.size,⟨rfl,rfl,rfl,Nat.le_refl _,fun _ _ _=>rfl⟩,fun b q=>by cases q⟩
   have hc:=hs.cells
   rcases hs.kind with⟨e',hk⟩|hk<;>simp[Builtin.append_,run_underlying E.under,run_underlying hk,sizeOf,typeInfo,hi,hs.len,hc]
  have hr:=run_append_grow_src (P:=P) w t tx ty e i z E.under hi hz none 0 0 [] (run_firstCells_none w.drew i.size 0 0 0) x m news hs (by omega) (by omega) (growslice_fits (by omega) MA)
  have XV:=grown 0 (by omega) none
  rw[List.nil_append] at XV ⊢
  exact⟨_,_,hr,XV.1,XV.2,fun b q=>by cases q;exact .inr ⟨Nat.le_refl _,by simp⟩⟩
 by_cases Ui:n+m<=cap
 .have Vt:d*i.size+n*i.size+news.length<=cur.size:=by
   rw[hs.newsLen,Nat.add_assoc,<-Nat.add_mul,<-Nat.add_mul]
   exact Nat.le_trans (Nat.mul_le_mul_right _ (by omega)) cH
  have tI:=run_storeCells_at P g (d*i.size+n*i.size) e news 0 cur w hg (by simpa using Vt) hs.one
  simp only[Nat.add_zero] at tI
  have hr:(Builtin.append_ #[t,tx] ty #[.slice (some ⟨g,d*i.size,none⟩) n cap,x]).run P w= .ok (.slice (some ⟨g,d*i.size,none⟩) (n+m) cap) (w.setRow g (cur.toList.take (d*i.size+n*i.size)++news++cur.toList.drop (d*i.size+n*i.size+news.length)).toArray):=by
   rcases hs.kind with⟨e',hk⟩|hk<;>simp[Builtin.append_,run_underlying E.under,run_underlying hk,sizeOf,typeInfo,hi,hs.len,Ui,hs.cells,Addr.add_lit,tI]
  refine⟨_,_,hr,⟨hlen,.inr ⟨g,d,cap,_,rfl,setRow_heap w g cur _ e _ hg,Ui,qF,?_,?_⟩⟩,⟨rfl,rfl,rfl,by simp,fun k _ hk=>setRow_other w g k _ (fun e=>hk (by simp[Value.ownBlock,e]))⟩,fun b q=>.inl q⟩
  .simp only[List.size_toArray,List.length_append,List.length_take,List.length_drop,Array.length_toList]
   omega
  have:=lQ cur.toList news (d*i.size) (n*i.size) ((n+m)*i.size) (by rw[Array.length_toList,<-Nat.add_mul];exact Nat.le_trans (Nat.mul_le_mul_right _ (by omega)) cH) (by rw[hs.newsLen,<-Nat.add_mul];exact Nat.le_refl _)
  have e1:((cur.toList.drop (d*i.size)).take ((n+m)*i.size)).drop (n*i.size+news.length)=[]:=List.drop_of_length_le (by rw[List.length_take,hs.newsLen,<-Nat.add_mul];exact Nat.min_le_left _ _)
  rw[this,e1,List.append_nil,List.take_take,Nat.min_eq_left (by rw[Nat.add_mul];omega),jO]
 have hold:(Builtin.firstCells i.size n (.slice (some ⟨g,d*i.size,none⟩) n cap)).run P w.drew= .ok xs.toArray w.drew:=by
  refine run_firstCells_some w.drew i.size n ⟨g,d*i.size,none⟩ n cap xs hd.1 fun j u hu=>?_
  have this:w.cell? ⟨g,d*i.size+j,none⟩=some u:=hd.cell hu
  have lM:(⟨g,d*i.size,none⟩:Addr).add j=⟨g,d*i.size+j,none⟩:=Addr.add_lit _ _ _
  rw[lM]
  simpa using this
 have hr:=run_append_grow_src (P:=P) w t tx ty e i z E.under hi hz (some ⟨g,d*i.size,none⟩) n cap xs hold x m news hs (by omega) (by omega) (growslice_fits (by omega) MA)
 have XV:=grown cap (by omega) (Value.ownBlock (.slice (some ⟨g,d*i.size,none⟩) n cap))
 exact⟨_,_,hr,XV.1,XV.2,fun b q=>by cases q;exact .inr ⟨Nat.le_refl _,by simp⟩⟩
theorem MC (hd:ga w e size v n xs){c:Nat}{us:List Value}{u:Value}(YG:u.cells.toList=us)(hc:c+us.length<=n*size)(hp:0<us.length)(cw:(P.info? t).map (·.size)=some us.length)(h1:∀v∈us,v.oneCell'=true):
  ∃w',(Instr.storeAt t (.pointer (some ⟨zz v,zA v+c,none⟩)) u).run P w= .ok () w'/\ga w' e size v n (xs.take c++us++xs.drop (c+us.length))/\w.grownBy w' v.ownBlock/\w'.heap.size=w.heap.size:=by
 rcases hd.2 with⟨_,rfl⟩|⟨g,d,cap,cur,rfl,hg,JB,qF,cH,jO⟩
 .rw[Nat.zero_mul] at hc;omega
 have Vt:d*size+n*size<=cur.size:=by rw[<-Nat.add_mul];exact Nat.le_trans (Nat.mul_le_mul_right _ (by omega)) cH
 have bY:=n9 (P:=P) w t e g (d*size+c) cur.toList us u (by simpa using hg) YG (by have:cur.toList.length=cur.size:=Array.length_toList;omega) cw h1
 refine⟨_,bY,⟨?_,.inr ⟨g,d,cap,_,rfl,setRow_heap w g cur _ e _ hg,JB,qF,?_,?_⟩⟩,⟨rfl,rfl,rfl,by simp,fun k _ hk=>setRow_other w g k _ (fun e=>hk (by simp[Value.ownBlock,e]))⟩,by simp⟩
 .rw[List.length_append,List.length_append,List.length_take,List.length_drop,hd.1];omega
 .simp only[List.size_toArray,List.length_append,List.length_take,List.length_drop,Array.length_toList]
  omega
 have:=lQ cur.toList us (d*size) c (n*size) (by rw[Array.length_toList];exact Vt) hc
 rw[jO] at this
 exact this
theorem Q6 (z:Array Value)(k i j:Nat)(hj:j<z.size)(hi:i<k):(madeCells z (k*z.size))[i*z.size+j]?=z[j]?:=by
 have iH:i*z.size+j<k*z.size:=by
  have:=Nat.mul_le_mul_right z.size (show i+1<=k from hi)
  rw[Nat.succ_mul] at this;omega
 unfold madeCells
 rw[Array.getElem?_map,Array.getElem?_range,if_pos iH]
 simp only[Option.map_some]
 have:(i*z.size+j)%z.size=j:=by
  rw[Nat.add_comm,Nat.add_mul_mod_self_right];exact Nat.mod_eq_of_lt hj
 rw[this,getElem!_pos z j hj,Array.getElem?_eq_getElem hj]
theorem Q7 (E:LK P t e size bytes){kl kc:IntKind}{l c:Int}(h0:0<=l)(XW:l<=c)(hb:bytes<=1000)(hc:c<=2147483647):
  ∃w' z,(P.info? e).bind (·.zero)=some z/\z.cells.size=size/\(Instr.makeSlice t (.int kl l) (.int kc c)).run P w= .ok (.slice (some ⟨w.heap.size,0,none⟩) l.toNat c.toNat) w'/\w'=w.alloc (.cells (madeCells z.cells (c.toNat*size)) e)/\
   ga w' e size (.slice (some ⟨w.heap.size,0,none⟩) l.toNat c.toNat) l.toNat ((madeCells z.cells (c.toNat*size)).toList.take (l.toNat*size)):=by
 obtain⟨i,z,hi,hz,MB,FN,XU⟩:=E.info
 subst MB
 subst FN
 have QE:(i.bytes:Int)*c<=281474976710656:=by
  have h2:(i.bytes:Int)*c<=1000*2147483647:=Int.mul_le_mul (by omega) hc (by omega) (by omega)
  omega
 have hr:=run_make (P:=P) w t e i z E.under hi hz kl kc l c h0 XW QE (by omega)
 refine⟨_,z,by rw[hi];exact hz,XU,hr,rfl,⟨?_,.inr ⟨w.heap.size,0,c.toNat,_,by rw[Nat.zero_mul],heap_alloc_new w _,by omega,by simp only[maxLen];omega,?_,by rw[Nat.zero_mul,List.drop_zero]⟩⟩⟩
 .rw[List.length_take,Array.length_toList,size_madeCells]
  exact Nat.min_eq_left (Nat.mul_le_mul_right _ (by omega))
 rw[size_madeCells,Nat.zero_add];exact Nat.le_refl _
theorem MD {S:aL}{ty:Ty}{x0:El ty}{z:Array Value}{l c:Nat}(XW:l<=c)(hz:Data.rd S w z.toList x0):cC S w ((madeCells z (c*z.size)).toList.take (l*z.size)) (List.replicate l x0):=by
 have cw:Data.size (El ty)=z.size:=by rw[<-Data.len hz,Array.length_toList]
 refine⟨?_,fun i hi=>?_⟩
 .rw[List.length_take,Array.length_toList,size_madeCells,List.length_replicate,cw]
  exact Nat.min_eq_left (Nat.mul_le_mul_right _ XW)
 rw[List.length_replicate] at hi
 have e:(((madeCells z (c*z.size)).toList.take (l*z.size)).drop (i*Data.size (El ty))).take (Data.size (El ty))=z.toList:=by
  apply List.ext_getElem?
  intro j
  rw[cw,List.getElem?_take]
  by_cases hj:j<z.size
  .have iH:i*z.size+j<l*z.size:=by
    have:=Nat.mul_le_mul_right z.size (show i+1<=l from hi)
    rw[Nat.succ_mul] at this;omega
   rw[if_pos hj,List.getElem?_drop,List.getElem?_take,if_pos iH,Array.getElem?_toList,Q6 z c i j hj (by omega),Array.getElem?_toList]
  rw[if_neg hj,List.getElem?_eq_none (by rw[Array.length_toList];omega)]
 rw[e,List.getElem_replicate]
 exact hz
theorem Bx {p:Option Addr}{cap:Nat}(hd:ga w e size (.slice p n cap) n xs){lo hi m:Nat}(h1:lo<=hi)(h2:hi<=n)(h3:hi<=m)(h4:m<=cap):
  ga w e size (sliced p lo hi m size) (hi-lo) ((xs.drop (lo*size)).take ((hi-lo)*size))/\∀b,(sliced p lo hi m size).ownBlock=some b->(Value.slice p n cap).ownBlock=some b:=by
 have hlen:((xs.drop (lo*size)).take ((hi-lo)*size)).length=(hi-lo)*size:=by
  rw[List.length_take,List.length_drop,hd.1,<-Nat.sub_mul]
  exact Nat.min_eq_left (Nat.mul_le_mul_right _ (by omega))
 rcases hd.2 with⟨hv,rfl⟩|⟨g,d,abM,cur,hv,hg,JB,qF,cH,jO⟩
 .cases hv
  have e1:lo=0:=by omega
  have e2:hi=0:=by omega
  have e3:m=0:=by omega
  subst e1;subst e2;subst e3
  exact⟨⟨hlen,.inl ⟨rfl,rfl⟩⟩,fun b q=>by cases q⟩
 cases hv
 by_cases q:m=lo
 .subst q
  have e2:hi=m:=by omega
  subst e2
  refine⟨⟨hlen,.inr ⟨g,d,0,cur,by simp[sliced],hg,by omega,by simp[maxLen],?_,?_⟩⟩,fun b q=>by simpa[sliced,Value.ownBlock] using q⟩
  .exact Nat.le_trans (Nat.mul_le_mul_right _ (by omega)) cH
  simp
 refine⟨⟨hlen,.inr ⟨g,d+lo,m-lo,cur,by simp[sliced,q,Addr.add_lit,Nat.add_mul],hg,by omega,by omega,?_,?_⟩⟩,fun b z=>by simpa[sliced,q,Addr.add_lit,Value.ownBlock] using z⟩
 .exact Nat.le_trans (Nat.mul_le_mul_right _ (by omega)) cH
 rw[<-jO,List.drop_take,List.take_take,List.drop_drop,Nat.add_mul,Nat.min_eq_left ?_]
 rw[<-Nat.sub_mul]
 exact Nat.mul_le_mul_right _ (by omega)
end
def nC:Ty->Bool
 | .int=>true
 | .bool=>true
 | .str=>true
 | .pair a b=>nC a && nC b
 |_=>false
structure HdI where
 t:Ty
 ie:TypeId
 l:List (El t)
 p:List Prop
 z:R2
def YH (q:Nat):Hx->R2->Option HdI
 | .el i sz off,.ext (.nest q' none e t ie l)=>match Nat.beq q' q && Nat.beq (aH t) sz with
  |true=>match(bg t (l.getD i.toNat (rC t)))[off]? with
   |some (.l t' l')=>some ⟨t',ie,l',[aV i l.length],.ext (.nest q (some (i.toNat*sz+off)) e t ie l)⟩
   |_=>none
  |false=>none
 | .ky .int x,.ext (.fc q' .int none t ie m)=>match Nat.beq q' q with
  |true=>some ⟨t,ie,(aI (show List (bI .int×List (El t)) from m) x).getD [],[],.ext (.fc q .int (some x) t ie m)⟩
  |false=>none
 | .ky .str x,.ext (.fc q' .str none t ie m)=>match Nat.beq q' q with
  |true=>some ⟨t,ie,(aI (show List (bI .str×List (El t)) from m) x).getD [],[],.ext (.fc q .str (some x) t ie m)⟩
  |false=>none
 |_,_=>none
def J2 (ty:Ty)(k:List Prop->List (El ty)->Tr Out):Sy->Tr Out
 | .one (.own q)=>.res q fun y=>match gP y with
  |some ⟨t',m⟩=>match iw (t:=.list t') (s:=.list ty) m with
   |some m'=>aZ (gb y||nC ty) (k [] m')
   |none=>.fail
  |none=>.fail
 | .one (.hd p q x)=>.res p fun y=>match YH q x y with
  |some I=>match iw (t:=.list I.t) (s:=.list ty) I.l with
   |some m'=>aZ (nC ty) (k I.p m')
   |none=>.fail
  |none=>.fail
 | .one (.v (.slice none 0 0))=>k [] []
 |_=>.fail
def HN (k:Ty->Tr Out):Sy->Tr Out
 | .one (.own q)=>.res q fun y=>match gP y with
  |some ⟨t',_⟩=>k t'
  |none=>.fail
 | .one (.hd p q x)=>.res p fun y=>match YH q x y with
  |some I=>k I.t
  |none=>.fail
 |_=>.fail
def aaK:R2->Bool
 | .ext (.nest _ none _ _ _ _)=>true
 |_=>false
def FO (P:Program)(b t:Nat)(ty:Ty)(e:TypeId)(l:List (El ty))(ps:List Prop)(old:List (Nat×Option R2))(q:Sy):Tr Out:=
 J2 ty (fun qs m=>aZ (gm P t e (HG ty)) (.ret ⟨(l.length+m.length<=2147483647)::(ps++qs),[],.one (.own b),(b,some (.row e ty (l++m)))::old⟩)) q
def Vu (P:Program)(b t:Nat)(p q:Sy):Tr Out:=
 match p with
 | .one (.v (.slice none 0 0))=>match q with
  | .one (.own i)=>.res i fun y=>match y with
   | .ext (.nest _ none e ty ie m)=>aZ (gm P t e (HG ty)) (.ret ⟨[m.length<=2147483647],[],.one (.own b),[(b,some (.ext (.nest b none e ty ie m))),(i,none)]⟩)
   |_=>HN (fun ty=>FO P b t ty (P.elem t) [] [] [] q) q
  |q=>HN (fun ty=>FO P b t ty (P.elem t) [] [] [] q) q
 | .one (.own j)=>.res j fun x=>match x with
  | .row e ty l=>FO P b t ty e l [] [(j,none)] q
  | .ext (.nest _ none e ty ie l)=>match q with
   | .one (.own i)=>.res i fun y=>match y with
    | .ext (.nest _ none _ zW FP m)=>match iw (t:=.list zW) (s:=.list ty) m with
     |some m'=>aZ (gm P t e (HG ty) && (Nat.beq FP ie && !Nat.beq j i)) (.ret ⟨[l.length+(show List (El ty) from m').length<=2147483647],[],.one (.own b),[(b,some (.ext (.nest b none e ty ie (l++(show List (El ty) from m'))))),(j,none),(i,none)]⟩)
     |none=>.fail
    |_=>.fail
   |_=>.fail
  |_=>.fail
 | .one (.hd j qf hx)=>.res j fun y=>match YH qf hx y with
  |some I=>FO P b t I.t I.ie I.l I.p [(j,some I.z)] q
  |none=>.fail
 |_=>.fail
def By {t':Ty}(t:Ty)(off:Nat)(v:El t'):Option (El t):=match off with
 |0=>iw (t:=t') (s:=t) v
 |_=>none
def setAt:(t:Ty)->Nat->(t':Ty)->El t'->El t->Option (El t)
 | .pair a b,off,t',v,x=>match By (.pair a b) off v with
  |some y=>some y
  |none=>match Nat.blt off (aH a) with
   |true=>(setAt a off t' v x.1).map fun y=>(y,x.2)
   |false=>(setAt b (off-aH a) t' v x.2).map fun y=>(x.1,y)
 |t,off,t',v,_=>By t off v
def HO (P:Program)(cell:Option kX)(ie:TypeId)(k:(t':Ty)->El t'->List Nat->Tr Out):Sy->Tr Out
 | .one (.own i)=>.res i fun z=>match z with
  | .row FP ty m=>aZ (Nat.beq FP ie) (k (.list ty) m [i])
  |_=>.fail
 | .one (.v (.slice none 0 0))=>match cell with
  |some (.l ty _)=>k (.list ty) ([]:List (El ty)) []
  |_=>.fail
 | .one (.v (.int .i64 n))=>k .int (show Int from n) []
 | .one (.b e)=>k .bool (show Bool from e.den) []
 | .one (.v (.string s))=>k .str (show ByteArray from s) []
 |_=>.fail
def zX (h:Option Nat)(c:Nat):Prop:=match h with
 |none=>True
 |some c'=>c'=c
def Dr (P:Program)(b:Nat)(t:TypeId)(j:Nat)(i:Int)(sz off:Nat)(y:Sy):Tr Out:=
 .res j fun x=>match x with
 | .row e ty l=>match ku P 9 t with
  |some zW=>aZ (Nat.beq (aH ty) sz && (Nat.beq (P.cellsOf t) (aH zW) && ((P.info? t).isSome && (aJ y).all zU)) && Nat.blt 0 (aH zW)) (Mn (aJ y) fun re=>aZ (re.all fun p=>!Nat.beq p.1 j) (jg zW y fun v=>
   match setAt ty off zW v (l.getD i.toNat (rC ty)) with
   |some u=>.ret ⟨[aV i l.length],[],.one (.v undef),(j,some (.row e ty (l.set i.toNat u)))::re⟩
   |none=>.fail))
  |none=>.fail
 | .ext (.nest q h e ty ie l)=>HO P ((bg ty (l.getD i.toNat (rC ty)))[off]?) ie (fun t' v ks=>match setAt ty off t' v (l.getD i.toNat (rC ty)) with
  |some u=>aZ (Nat.beq (aH ty) sz && (Nat.beq (P.cellsOf t) 1 && (Nat.beq (aH t') 1 && ((P.info? t).isSome && ks.all fun k=>!Nat.beq k j))))
   (.ret ⟨[aV i l.length,zX h (i.toNat*sz+off)],[],.one (.v undef),(j,some (.ext (.nest b none e ty ie (l.set i.toNat u))))::(b,none)::ks.map fun k=>(k,none)⟩)
  |none=>.fail) y
 |_=>.fail
def Bz (P:Program)(b:Nat)(t:TypeId)(p y:Sy):Tr Out:=match p with
 | .one (.el j i sz off)=>Dr P b t j i sz off y
 |p=>storeT P t p y
def zY {k:Kc}(h:Option (bI k))(x:bI k):Prop:=match h with
 |none=>True
 |some y=>y=x
def HP (P:Program)(b:Nat)(t:TypeId)(p q y:Sy):Tr Out:=
 match P.underlying t,p with
 |some (.map kt et),.one (.mp j)=>.res j fun r=>match r with
  | .ext (.fc _ k h ty ie m)=>match uM k q with
   |some x=>aZ (lC P kt k) (match y with
    | .one (.own i)=>.res i fun z=>match z with
     | .row FP zW l=>match iw (t:=.list zW) (s:=.list ty) l with
      |some l'=>aZ (Nat.beq FP ie && !Nat.beq i j) (.ret ⟨[dc k x,zY h x,(show List (bI k×List (El ty)) from m).length<=2147483647],[],.one (.v undef),[(j,some (.ext (.fc b k none ty ie (gu (show List (bI k×List (El ty)) from m) x (show List (El ty) from l'))))),(b,none),(i,none)]⟩)
      |none=>.fail
     |_=>.fail
    | .one (.v (.slice none 0 0))=>.ret ⟨[dc k x,zY h x,(show List (bI k×List (El ty)) from m).length<=2147483647],[],.one (.v undef),[(j,some (.ext (.fc b k none ty ie (gu (show List (bI k×List (El ty)) from m) x [])))),(b,none)]⟩
    |_=>.fail)
   |none=>.fail
  |_=>wM P t p q y
 |_,_=>.fail
def YI (P:Program):Nat->TypeId->Option TypeId
 |0,_=>none
 |k+1,t=>match P.underlying t with
  |some (.slice e)=>some e
  |some (.struct fs)=>fs.toList.findSome? fun f=>YI P k f.type
  |_=>none
def pU (P:Program)(md:Bool)(b:Nat)(t:TypeId):Tr Out:=match md with
 |false=>wY P b t
 |true=>match P.underlying t,ku P 9 t with
  |some (.map kt et),some (.map k (.list ty))=>match P.underlying et with
   |some (.slice ie)=>aZ (lC P kt k) (.ret ⟨[],[],.one (.mp b),[(b,some (.ext (.fc b k none ty ie ([]:List (bI k×List (El ty))))))]⟩)
   |_=>.fail
  |_,_=>.fail
def ME:kX->Sc->Bool
 | .l _ _,.v (.slice none 0 0)=>true
 | .i _,.v (.int .i64 _)=>true
 | .b _,.b _=>true
 | .s _,.v (.string _)=>true
 |_,_=>false
def Dt (ie:TypeId):List kX->List Sc->(List Prop->List Nat->Tr Out)->Tr Out
 |[],[],k=>k [] []
 |x::cs,c::l,k=>match c with
  | .own i=>match x with
   | .l t l'=>.res i fun z=>match z with
    | .row FP ty m=>match iw (t:=.list ty) (s:=.list t) m with
     |some m'=>aZ (Nat.beq FP ie) (Dt ie cs l fun ps ks=>aZ (ks.all fun q=>!Nat.beq i q) (k (((show List (El t) from m')=l')::ps) (i::ks)))
     |none=>.fail
    |_=>.fail
   |_=>.fail
  |c=>aZ (ME x c) (Dt ie cs l k)
 |_,_,_=>.fail
def MF (P:Program)(md:Bool)(b t len:Nat)(is:List Nat)(ys:List Sy):Tr Out:=match md with
 |false=>Vp P b t len is ys
 |true=>match ku P 9 (P.elem t),YI P 9 (P.elem t) with
  |some ty,some ie=>aZ (FJ 0 is && (Nat.beq is.length len && Nat.beq ys.length len && gm P t (P.elem t) (HG ty)) && Nat.ble len 1000)
   (vH ty ys fun l=>Dt ie (gl ty l) (ys.flatMap aJ) fun ps ks=>.ret ⟨ps,[wX P t len (P.elem t) (is.zip ys) (ys.flatMap aJ)],.one (.own b),(b,some (.ext (.nest b none (P.elem t) ty ie l)))::ks.map fun k=>(k,none)⟩)
  |_,_=>.fail
def tS:List Sy->Option (List (Nat×Nat))
 |[]=>some []
 | .one (.ptr j off)::l=>(tS l).map ((j,off):: ·)
 |_=>none
def xe {α:Type 1}(C:List (Nat×Bool)):Option Operand->(Option Int->Tr α)->Tr α
 |none,k=>k none
 |some x,k=>gG C x fun s=>match s with
  | .one (.v (.int .i64 n))=>k (some n)
  |_=>.fail
def J3 {α:Type}(l:List α):Option Int->Option Int->List α
 |none,none=>l
 |some lo,none=>l.drop lo.toNat
 |none,some hi=>l.take hi.toNat
 |some lo,some hi=>(l.take hi.toNat).drop lo.toNat
def rF (n:Nat):Option Int->Option Int->Prop
 |none,none=>True
 |some lo,none=>0<=lo/\lo<=(n:Int)
 |none,some hi=>0<=hi/\hi<=(n:Int)
 |some lo,some hi=>0<=lo/\lo<=hi/\hi<=(n:Int)
def xg (P:Program)(b:Nat)(t:TypeId)(lo hi:Option Int):Sy->Tr Out
 | .one (.own j)=>match P.underlying t with
  |some (.slice e)=>.res j fun x=>match x with
   | .row e' ty l=>aZ (gm P t e' (aH ty)) (.ret ⟨[rF l.length lo hi],[],.one (.own b),[(b,some (.row e' ty (J3 l lo hi))),(j,none)]⟩)
   | .ro ty l=>aZ (gm P t e (aH ty)) (.ret ⟨[rF l.length lo hi],[],.one (.own b),[(b,some (.ro ty (J3 l lo hi)))]⟩)
   | .ar ty l=>aZ (gm P t e (aH ty)) (.ret ⟨[rF l.length lo hi],[],.one (.own b),[(b,some (.ar ty (J3 l lo hi)))]⟩)
   |_=>.fail
  |_=>.fail
 | .one (.v (.string s))=>match P.underlying t with
  |some .string=>.ret ⟨[rF s.size lo hi],[],.one (.v (.string (s.extract (lo.getD 0).toNat (hi.getD s.size).toNat))),[]⟩
  |_=>.fail
 | .one (.v (.slice none 0 0))=>match P.underlying t with
  |some (.slice e)=>aZ (P.info? e).isSome (.ret ⟨[rF 0 lo hi],[],.one (.v (.slice none 0 0)),[]⟩)
  |_=>.fail
 |_=>.fail
def Vv (P:Program)(b:Nat)(t:TypeId)(p q:Sy):Tr Out:=match P.underlying t,p with
 |some (.map kt et),.one (.mp j)=>.res j fun R=>match R with
  | .map k .int m=>match uM k q with
   |some kx=>aZ (lC P kt k) (.ret ⟨[dc k kx,(show List (bI k×Int) from m).length<=2147483647],[iN P et (.one (.v (.int .i64 0)))],.lY [(false,[.v (.int .i64 ((aI (show List (bI k×Int) from m) kx).getD 0))]),(false,[.hd j b (.ky k kx)])],[(j,some (.ext (.De b k .int (gu (show List (bI k×Int) from m) kx ((aI (show List (bI k×Int) from m) kx).getD 0)) kx))),(b,none)]⟩)
   |none=>.fail
  |_=>.fail
 |_,_=>.fail
def FQ (P:Program)(t:TypeId)(p s v:Sy):Tr Out:=match P.underlying t,p,s,v with
 |some (.map kt et),.one (.mp j),.one (.hd _ q (.ky k kx)),.one (.v (.int .i64 n))=>.res j fun R=>match R with
  | .ext (.De q' k' .int m QF)=>aZ (lC P kt k' && Nat.beq q q') (.ret ⟨[cU k kx=cU k' QF,dc k' QF,(show List (bI k'×Int) from m).length<=2147483647],[],.one (.v undef),[(j,some (.map k' .int (gu (show List (bI k'×Int) from m) QF (show Int from n))))]⟩)
  |_=>.fail
 |_,_,_,_=>.fail
def MG (P:Program)(b:Nat)(t:TypeId)(lo:Int):Sy->Tr Out
 | .one (.own j)=>match P.underlying t with
  |some (.slice _)=>.res j fun x=>match x with
   | .row e' ty l=>aZ (gm P t e' (aH ty)) (.ret ⟨[0<=lo/\lo<=(l.length:Int)],[],.one (.own b),[(b,some (.ext (.vw j lo.toNat e' ty l))),(j,some (.ext (.fwd b)))]⟩)
   |_=>.fail
  |_=>.fail
 |_=>.fail
def BA (P:Program)(b:Nat)(t:TypeId)(h m:Int):Sy->Tr Out
 | .one (.own j)=>match P.underlying t with
  |some (.slice e)=>.res j fun x=>match x with
   | .row e' ty l=>aZ (gm P t e' (aH ty)) (.ret ⟨[0<=h/\h<=m/\m<=(l.length:Int)],[],.one (.own b),[(b,some (.row e' ty (l.take h.toNat))),(j,none)]⟩)
   | .ro ty l=>aZ (gm P t e (aH ty)) (.ret ⟨[0<=h/\h<=m/\m<=(l.length:Int)],[],.one (.own b),[(b,some (.ro ty (l.take h.toNat)))]⟩)
   | .ar ty l=>aZ (gm P t e (aH ty)) (.ret ⟨[0<=h/\h<=m/\m<=(l.length:Int)],[],.one (.own b),[(b,some (.ar ty (l.take h.toNat)))]⟩)
   | .ext (.fwd b')=>.res b' fun y=>match y with
    | .ext (.vw q _ e' ty l)=>aZ (Nat.beq q j && gm P t e' (aH ty)) (.ret ⟨[0<=h/\h<=m/\m<=(l.length:Int)],[],.one (.own b),[(b,some (.row e' ty (l.take h.toNat))),(b',none),(j,none)]⟩)
    |_=>.fail
   |_=>.fail
  |_=>.fail
 |_=>.fail
def rG (P:Program)(b:Nat)(t:TypeId):Sy->Sy->Tr Out
 | .one (.v (.int .i64 l)),.one (.v (.int .i64 c))=>match ku P 9 (P.elem t),wN P (P.elem t) with
  |some ty,some z=>aZ (gm P t (P.elem t) (HG ty)) (jg ty z fun x0=>.ret ⟨[0<=l/\l<=c/\c<=2147483647],[],.one (.own b),[(b,some (.row (P.elem t) ty (List.replicate l.toNat x0)))]⟩)
  |_,_=>.fail
 |_,_=>.fail
def FR (P:Program)(b:Nat)(t:TypeId):Sy->Tr Out
 | .one (.mp j)=>match P.underlying t with
  |some (.map kt et)=>Mn [.mp j] fun re=>.res j fun x=>match zP x with
   |some ⟨k,ty,m⟩=>aZ (lC P kt k && gb x && (re.all fun p=>Nat.beq p.1 j)) (.ret ⟨[],[],.one (.ptr b 0),(b,some (.iter k ty m (fun x=>(aI (show List (bI k×El ty) from m) x).isSome) (show List (bI k×El ty) from m).length none))::re⟩)
   |none=>.fail
  |_=>.fail
 | .one (.v (.map none))=>match P.underlying t,ku P 9 t with
  |some (.map kt et),some (.map k ty)=>.ret ⟨[],[],.one (.ptr b 0),[(b,some (.iter k ty ([]:List (bI k×El ty)) (fun _=>false) 0 none))]⟩
  |_,_=>.fail
 |_=>.fail
def uQ:(k:Kc)->bI k->Sc
 | .int,x=>.v (.int .i64 (show Int from x))
 | .str,x=>.v (.string (show ByteArray from x))
def FT (b:Nat):Sy->Tr Out
 | .one (.ptr j 0)=>.res j fun x=>match x with
  | .iter k ty _ _ _ (some e)=>.ret ⟨[],[],.lY [(false,[uQ k e.1]),(cI ty,(bu true b (bg ty e.2)).1)],(bu true b (bg ty e.2)).2⟩
  |_=>.fail
 |_=>.fail
def Uj:Sy->Sy->Tr Out
 | .one (.v (.int .i64 a)),.one (.v (.int .i64 b))=>od (0<b/\aX .i64 a) (.v (.int .i64 (a.tdiv b)))
 |_,_=>.fail
def XX (P:Program)(T:List (cE P))(C:List (Nat×Bool))(md:Bool)(b:Nat):Op->Tr Out
 | .box t x=>gG C x fun y=>.ret ⟨[],[Mt P t y (aJ y)],.one (.ptr b 0),[(b,some (.box t (aJ y)))]⟩
 | .alloc t=>match P.info? t with
  |some i=>match i.zero with
   |some z=>.ret ⟨[],[Dn P t (z.cells.toList.map kY)],.one (.ptr b 0),[(b,some (.box t (z.cells.toList.map kY)))]⟩
   |none=>.fail
  |none=>.fail
 | .buildSlice t len parts=>JM C (parts.toList.map (·.2)) fun ys=>MF P md b t len (parts.toList.map (·.1)) ys
 | .store t x y=>gG C x fun p=>gG C y fun q=>Bz P b t p q
 | .build t parts=>JM C (parts.toList.map (·.2)) fun ys=>Mu P t ((parts.toList.map (·.1)).zip ys)
 | .call c=>match c.callee with
  | .value x=>gG C x fun p=>match p with
   | .one (.nh f cF)=>match T.find? (fun c=>Nat.beq c.f f) with
    |some Vr=>aZ (((P.funcs[f]?).map (fun fn=>((fn.name== "runtime.NumGoroutine")||fn.body.isNone)))==some false) (JM C c.args.toList fun ys=>Vr.tr b cF ys)
    |none=>.fail
   |_=>.fail
  | .builtin .append=>match c.args.toList,c.argTypes.toList with
   |[x,y],[t,t']=>aZ (Nat.beq t t') (gG C x fun p=>gG C y fun q=>Vu P b t p q)
   |_,_=>.fail
  | .builtin .len=>match c.args.toList,c.argTypes.toList,Vq P c.argTypes[0]? with
   |[x],[t],true=>gG C x fun p=>Mw P t p
   |_,_,_=>jh P C b (.call c)
  | .builtin .delete=>match c.args.toList,c.argTypes.toList with
   |[x,y],[t,kt]=>gG C x fun p=>gG C y fun q=>Mv P t kt p q
   |_,_=>.fail
  |_=>jh P C b (.call c)
 | .makeMap t none=>pU P md b t
 | .makeMap t (some x)=>gG C x fun p=>match p with
  | .one (.v (.int _ _))=>pU P md b t
  |_=>.fail
 | .mapEntry t m x=>gG C m fun p=>gG C x fun q=>Vv P b t p q
 | .entryStore t m x y=>gG C m fun p=>gG C x fun q=>gG C y fun z=>FQ P t p q z
 | .mapUpdate t m x y=>gG C m fun p=>gG C x fun q=>gG C y fun z=>HP P b t p q z
 | .insert t m x y=>gG C m fun p=>gG C x fun q=>gG C y fun z=>HP P b t p q z
 | .lookup t m x ok=>gG C m fun p=>gG C x fun q=>zN P b t ok p q
 | .makeFunc f first cF=>match f,first.toList with
  | .func f,[]=>JM C cF.toList fun ys=>match tS ys with
   |some cs=>one (.nh f cs)
   |none=>.fail
  |_,_=>.fail
 | .slice t x (some lo) none none=>match md with
  |true=>gG C x fun p=>gG C lo fun q=>match q with
   | .one (.v (.int .i64 i))=>MG P b t i p
   |_=>.fail
  |false=>gG C x fun p=>xe C (some lo) fun i=>xe C none fun k=>xg P b t i k p
 | .slice t x lo hi none=>gG C x fun p=>xe C lo fun i=>xe C hi fun k=>xg P b t i k p
 | .slice t x none (some hi) (some mx)=>gG C x fun p=>gG C hi fun q=>match q with
  | .one (.v (.int .i64 h))=>gG C mx fun q'=>match q' with
   | .one (.v (.int .i64 m))=>BA P b t h m p
   |_=>.fail
  |_=>.fail
 | .makeSlice t l c=>gG C l fun p=>gG C c fun q=>rG P b t p q
 | .range t x=>gG C x fun p=>FR P b t p
 | .entry x=>gG C x fun p=>FT b p
 | .binOp op t x y t'=>match md,op with
  |true,.quo=>gG C x fun p=>gG C y fun q=>Uj p q
  |_,_=>jh P C b (.binOp op t x y t')
 |op=>jh P C b op
section
variable {P:Program}{o:bD}{n:Nat}{A A':bF}{S S' T:aL}{F G:Nat->Prop}{s:Nat->Option E2}{r:Nat->Option R2}{a:Act}{w w':World}{C:List (Nat×Bool)}{b:Nat}
theorem BB {re:List (Nat×Option R2)}{j:Nat}(h:∃x,(j,x)∈re)(r1 r2:Nat->Option R2):aT r1 re j=aT r2 re j:=by
 induction re with
 |nil=>obtain⟨x,hx⟩:=h;cases hx
 |cons p re ih=>
  show jw (aT r1 re) p.1 p.2 j=jw (aT r2 re) p.1 p.2 j
  by_cases q:p.1=j
  .subst q;rw[dy,dy]
  rw[dR q,dR q]
  refine ih ?_
  obtain⟨x,hx⟩:=h
  rcases List.mem_cons.1 hx with e|e
  .rw[<-e] at q;exact(q rfl).elim
  exact⟨x,e⟩
theorem gW {re:List (Nat×Option R2)}{j:Nat}(h:¬ ∃x,(j,x)∈re)(r1:Nat->Option R2):aT r1 re j=r1 j:=by
 induction re with
 |nil=>rfl
 |cons p re ih=>
  show jw (aT r1 re) p.1 p.2 j=_
  rw[dR fun q=>h ⟨p.2,by rw[<-q];exact List.mem_cons_self⟩]
  exact ih fun⟨x,hx⟩=>h ⟨x,List.mem_cons_of_mem _ hx⟩
theorem kz {re:List (Nat×Option R2)}{j:Nat}{z:R2}(h:∃x,(j,x)∈re)(hz:aT r re j=some z):(j,some z)∈re:=by
 induction re with
 |nil=>obtain⟨x,hx⟩:=h;cases hx
 |cons p re ih=>
  have hz:jw (aT r re) p.1 p.2 j=some z:=hz
  by_cases q:p.1=j
  .subst q;rw[dy] at hz;rw[<-hz];exact List.mem_cons_self
  rw[dR q] at hz
  refine List.mem_cons_of_mem _ (ih ?_ hz)
  obtain⟨x,hx⟩:=h
  rcases List.mem_cons.1 hx with e|e
  .rw[<-e] at q;exact(q rfl).elim
  exact⟨x,e⟩
def gC (A:bF)(r:Nat->Option R2)(K:Nat->Prop)(c:Nat):Prop:=∃j x,K j/\r j=some x/\(x.den A j).has c
theorem jH.mono {w w':World}{H H':Nat->Prop}(h:jH w w' H)(k:∀c,H c->H' c):jH w w' H':=⟨h.os,h.tape,h.output,h.size,fun c hc hn=>h.block c hc fun q=>hn (k c q)⟩
theorem cz.kA (H:cz o n A S F s r a w){K:Nat->Prop}{c:Nat}(h:gC A r K c):o.new c/\c<w.heap.size/\¬S c:=by
 obtain⟨j,x,_,h2,h3⟩:=h
 exact H.bB.own j _ c (show bq A r j=some _ by simp[bq,h2]) h3
theorem cz.swap (H:cz o n A S F s r a w)(hA:cV F A A'){re:List (Nat×Option R2)}(K:Nat->Prop)(hK:∀j,K j->∃x,(j,x)∈re)
  (hc:jH w w' (gC A r K)) (hS:∀k,S k->S' k)
  (XP:∀k,S' k->S k\/((gC A r K k\/w.heap.size<=k)/\k<w'.heap.size/\∀j z,(j,some z)∈re->¬(z.den A' j).has k))
  (hz:∀j z,(j,some z)∈re->z.all (FU F re)/\z.b9 A'/\jV z=false/\(z.den A' j).ok S' w'/\∀c,(z.den A' j).has c->(gC A r K c\/w.heap.size<=c)/\c<w'.heap.size)
  (ha:∀i j zi zj c,(i,some zi)∈re->(j,some zj)∈re->(zi.den A' i).has c->(zj.den A' j).has c->i=j):
  cz o n A' S' (FU F re) s (aT r re) a w':=by
 have H1:=H.agree hA (G:=FU F re) fun j h=>.inl h
 have Q2:∀j x,r j=some x->x.den A j=x.den A' j:=fun j x hx=>R2.congr hA (H.dD j x hx).1 (H.dD j x hx).2.1
 have hH:∀c,gC A r K c↔∃j rr,K j/\bq A' r j=some rr/\rr.has c:=fun c=>by
  constructor
  .rintro⟨j,x,h1,h2,h3⟩
   exact⟨j,_,h1,by simp[bq,h2];rfl,by rw[<-Q2 j x h2];exact h3⟩
  rintro⟨j,rr,h1,h2,h3⟩
  obtain⟨x,hx,rfl⟩:=Option.map_eq_some_iff.1 h2
  exact⟨j,x,h1,hx,by rw[Q2 j x hx];exact h3⟩
 refine⟨H1.size,H1.eY,H1.env,H1.kZ,fun j x hx=>?_,H1.bB.swap (N:=fun j=> ∃x,(j,x)∈re) (K:=K) (hc.mono fun c q=>(hH c).1 q) hS (fun k hk=>?_) (fun j rr hj hr=>?_) (fun j rr hj hr=>?_) (fun j rr c hj hr BC=>?_) (fun i j ri rj c hi hj ei ej q1 q2=>?_),fun j x hx=>?_,H1.wO⟩
 .by_cases q:∃x,(j,x)∈re
  .have h2:=hz j x (kz q hx)
   obtain⟨y,hy⟩:=q
   exact⟨.inr ⟨y,hy⟩,h2.1,h2.2.1⟩
  rw[gW q] at hx;exact H1.dD j x hx
 .rcases XP k hk with q|⟨q1,q2,q3⟩
  .exact .inl q
  refine .inr ⟨q1.imp (hH k).1 id,q2,fun j rr hj hr=>?_⟩
  obtain⟨x,hx,rfl⟩:=Option.map_eq_some_iff.1 hr
  exact q3 j x (kz hj hx)
 .refine⟨fun q=>hj (hK j q),?_⟩
  have hr:(aT r re j).map (R2.den A' j)=some rr:=hr
  rw[gW hj] at hr;exact hr
 .obtain⟨x,hx,rfl⟩:=Option.map_eq_some_iff.1 hr
  exact(hz j x (kz hj hx)).2.2.2.1
 .obtain⟨x,hx,rfl⟩:=Option.map_eq_some_iff.1 hr
  obtain⟨q1,q2⟩:=(hz j x (kz hj hx)).2.2.2.2 c BC
  exact⟨q1.imp (hH c).1 id,q2⟩
 .obtain⟨x,hx,rfl⟩:=Option.map_eq_some_iff.1 ei
  obtain⟨y,hy,rfl⟩:=Option.map_eq_some_iff.1 ej
  exact ha i j x y c (kz hi hx) (kz hj hy) q1 q2
 by_cases q:∃x,(j,x)∈re
 .exact gB (hz j x (kz q hx)).2.2.1
 rw[gW q] at hx;exact H1.args j x hx
theorem BD:∀ {t:Ty} {cs:List Value} {x:El t},nC t=true->Data.rd T w cs x->Data.rd S w' cs x
 | .int,_,_,_,h=>h
 | .bool,_,_,_,h=>h
 | .str,_,_,_,h=>h
 | .pair p q,cs,x,hf,h=>by
  have hf:(nC p && nC q)=true:=hf
  rw[Bool.and_eq_true] at hf
  obtain⟨c1,c2,rfl,h1,h2⟩:=h
  exact⟨c1,c2,rfl,BD hf.1 h1,BD hf.2 h2⟩
 | .list _,_,_,hf,_=>by cases hf
 | .map _ _,_,_,hf,_=>by cases hf
 | .ptr _,_,_,hf,_=>by cases hf
theorem MH {t:Ty}{xs:List Value}{l:List (El t)}(hf:nC t=true)(h:cC T w xs l):cC S w' xs l:=⟨h.1,fun i hi=>BD hf (h.2 i hi)⟩
theorem zZ {α:Type}[Data α]{tx e':TypeId}(hk:P.underlying tx=some (.slice e')){v:Value}{l:List α}(h:ic T w v l):∃news,Src P (Data.size α) tx v l.length news w/\cC T w news l:=by
 obtain⟨p,c,rfl,h1,h2,h3⟩:=h
 rcases h3 with rfl|⟨g,off,cur,t,fz,rfl,hg,hw,hc⟩
 .refine⟨[],?_,cC.nil _ _⟩
  cases p with
  |none=>exact Src.ofNil w hk c
  |some a=>exact Src.ofSlice w hk a 0 c [] (by simp) (fun j u q=>by cases q) fun u q=>by cases q
 have hlen:0<l.length*Data.size α->off+l.length*Data.size α<=cur.size:=fun hp=>by
  have hl:0<l.length:=Nat.pos_of_ne_zero fun q=>by rw[q,Nat.zero_mul] at hp;omega
  have hs:0<Data.size α:=Nat.pos_of_ne_zero fun q=>by rw[q,Nat.mul_zero] at hp;omega
  obtain⟨cs,k1,k2⟩:=hc (l.length-1) (by omega)
  have:=k2 (Data.size α-1) (by omega)
  rw[List.getElem?_eq_getElem (by rw[Data.len k1];omega)] at this
  have:=(Array.getElem?_eq_some_iff.1 this).1
  have e:l.length*Data.size α=(l.length-1)*Data.size α+Data.size α:=by rw[<-Nat.succ_mul];congr 1;omega
  omega
 have hR:cC T w ((cur.toList.drop off).take (l.length*Data.size α)) l:=by
  refine⟨?_,fun i hi=>?_⟩
  .have zH:cur.toList.length=cur.size:=Array.length_toList
   rw[List.length_take,List.length_drop,zH]
   by_cases q:0<l.length*Data.size α
   .have:=hlen q;omega
   omega
  obtain⟨cs,k1,k2⟩:=hc i hi
  have e:((((cur.toList.drop off).take (l.length*Data.size α)).drop (i*Data.size α)).take (Data.size α))=cs:=by
   apply List.ext_getElem?
   intro j
   rw[List.getElem?_take]
   split
   .rename_i hj
    have:=Nat.mul_le_mul_right (Data.size α) (show i+1<=l.length from hi)
    rw[Nat.succ_mul] at this
    rw[List.getElem?_drop,List.getElem?_take,if_pos (by omega),List.getElem?_drop,Array.getElem?_toList,<-k2 j hj,Nat.add_assoc]
   rename_i hj
   rw[List.getElem?_eq_none (by rw[Data.len k1];omega)]
  rw[e];exact k1
 refine⟨_,Src.ofSlice w hk ⟨g,off,none⟩ l.length c _ hR.1 (fun j u hu=>?_) hR.one,hR⟩
 rw[Addr.add_lit,cell_of_row w g _ cur t fz hw]
 rw[List.getElem?_take] at hu
 split at hu
 .rw[List.getElem?_drop,Array.getElem?_toList] at hu;exact hu
 cases hu
theorem BF {tx e' e:TypeId}(hk:P.underlying tx=some (.slice e')){size:Nat}{v:Value}{m:Nat}{xs:List Value}(hd:ga w e size v m xs)(h1:∀u∈xs,u.oneCell'=true):Src P size tx v m xs w:=by
 rcases hd.2 with⟨rfl,rfl⟩|⟨g,d,cap,cur,rfl,hg,JB,qF,cH,jO⟩
 .have:xs=[]:=List.eq_nil_of_length_eq_zero (by simpa using hd.1)
  subst this
  exact Src.ofNil w hk 0
 refine Src.ofSlice w hk _ _ _ _ hd.1 (fun j u hu=>?_) h1
 rw[Addr.add_lit]
 exact hd.cell hu
theorem MI (H:cz o n A S F s r a w){tx e':TypeId}(hk:P.underlying tx=some (.slice e')){j:Nat}{y:R2}(hj:r j=some y){t:Ty}{m:List (El t)}(hy:gP y=some ⟨t,m⟩)(hf:gb y=true\/nC t=true):
  ∃news,Src P (Data.size (El t)) tx (A.v j) m.length news w/\cC S w news m:=by
 have eE:(y.den A j).ok S w:=H.bB.ok j _ (show bq A r j=some _ by simp[bq,hj])
 cases y with
 |ro t' l'=>cases hy;exact zZ hk (cn eE)
 |ar t' l'=>
  cases hy
  obtain⟨news,h1,h2⟩:=zZ hk (cn (pT H hj rfl))
  rcases hf with hf|hf
  .cases hf
  exact⟨news,h1,MH hf h2⟩
 |row e t' l'=>
  cases hy
  obtain⟨xs,h1,h2⟩:=eE
  exact⟨xs,BF hk h1 h2.one,h2⟩
 |ext z=>
  cases z with
  |vw q lo e t' l'=>
   cases hy
   obtain⟨⟨xs,hd,k9⟩,pp,n,c,hv,h1,h2,hu⟩:di S w e (A.v q) l'/\lN (A.v j) (A.v q) lo (Data.size (El t)):=eE
   rw[hv] at hd
   obtain⟨p',c',e',_⟩:=hd.slice
   cases e'
   obtain⟨d1,d2⟩:=Bx hd h1 (Nat.le_refl _) h2 (Nat.le_refl _)
   have hr:=vD k9 h1 (Nat.le_refl _)
   have e9:(l'.drop lo).take (l'.length-lo)=l'.drop lo:=List.take_of_length_le (by rw[List.length_drop];exact Nat.le_refl _)
   rw[e9] at hr
   rw[<-hu] at d1
   exact⟨_,BF hk (by rw[List.length_drop];exact d1) hr.one,hr⟩
  |_=>cases hy
 |_=>cases hy
theorem Uk (H:cz o n A S F s r a w){j q:Nat}{y:R2}{x:Hx}{I:HdI}(hj:r j=some y)(h:YH q x y=some I)(hp:∀p∈I.p,p):
  (∃xs,ga w I.ie (Data.size (El I.t)) (A.f q x.lit) I.l.length xs/\cC S w xs I.l)/\(∀c,(A.f q x.lit).ownBlock=some c->(y.den A j).has c)/\
   I.z.all F/\I.z.b9 A/\jV I.z=false/\(I.z.den A j).ok S w/\∀c,(I.z.den A j).has c->(y.den A j).has c/\(A.f q x.lit).ownBlock≠some c:=by
 have eE:(y.den A j).ok S w:=H.bB.ok j _ (show bq A r j=some _ by simp[bq,hj])
 have ec:=(H.dD j y hj).2.1
 have nm:∀ {k:Kc} {t:Ty} {ie:TypeId} {m:bl k (List (El t))} {x:bI k},y= .ext (.fc q k none t ie m)->(∃xs,ga w ie (Data.size (El t)) (A.f q (cU k x)) ((aI (show List (bI k×List (El t)) from m) x).getD []).length xs/\cC S w xs ((aI (show List (bI k×List (El t)) from m) x).getD []))/\(∀c,(A.f q (cU k x)).ownBlock=some c->(y.den A j).has c)/\
   F q/\((R2.ext (.fc q k (some x) t ie m)).den A j).ok S w/\∀c,((R2.ext (.fc q k (some x) t ie m)).den A j).has c->(y.den A j).has c/\(A.f q (cU k x)).ownBlock≠some c:=by
  intro k t ie m x e
  subst e
  obtain⟨dM,hb,N⟩:∃dM,A.m j=some dM/\rD S w dM (A.f q) none ie m:=eE
  obtain⟨zs,n1,n2,n3⟩:=N.map
  have e2:aI (show List (bI k×List (El t)) from m) x=(aI zs x).map (·.2):=by rw[n2];exact eR (fun y:Value×List (El t)=>y.2) zs x
  have hO:di S w ie (A.f q (cU k x)) ((aI (show List (bI k×List (El t)) from m) x).getD []):=by
   rw[e2]
   cases hl:aI zs x with
   |none=>
    rw[N.XO x (by rw[e2,hl];rfl) (by simp)]
    exact di.nil
   |some z=>
    obtain⟨q1,q2⟩:=n3 _ (je hl) (by simp)
    rw[<-q1];exact q2
  refine⟨hO,fun c hc=>.inr ⟨x,by simp,hc⟩,ec,⟨dM,hb,⟨zs,n1,n2,fun z hz _=>n3 z hz (by simp)⟩,fun z hz _=>N.XO z hz (by simp),fun u v c _ _=>N.inj u v c (by simp) (by simp),fun u c _=>N.out u c (by simp)⟩,fun c hc=>?_⟩
  rcases hc with hc|⟨u,hu,hc⟩
  .refine⟨.inl hc,fun q=>?_⟩
   have hc:A.m j=some c:=hc
   rw[hb] at hc;cases hc
   exact N.out x _ (by simp) q rfl
  refine⟨.inr ⟨u,by simp,hc⟩,fun q=>hu ?_⟩
  rw[N.inj u x c (by simp) (by simp) hc q]
 unfold YH at h
 split at h
 .rename_i i sz off q' e t ie l
  split at h
  .rename_i hg
   rw[Bool.and_eq_true] at hg
   have h1:=cr hg.1;have h2:=cr hg.2
   subst h1;subst h2
   split at h
   .rename_i t' l' hc
    cases h
    obtain⟨h0,h1⟩:aV i l.length:=hp _ (List.mem_singleton.2 rfl)
    have hN:iy S w (A.v j) (A.f q') none e t ie l:=eE
    have hi:i.toNat<l.length:=by omega
    have Du:off<aH t:=by have:=(List.getElem?_eq_some_iff.1 hc).1;rwa[dx] at this
    have HJ:=sw (t:=t) (l:=l) hi Du
    rw[hc] at HJ
    have iH:i.toNat*aH t+off<l.length*aH t:=by
     have:=(List.getElem?_eq_some_iff.1 HJ).1
     rwa[dQ] at this
    obtain⟨xs,k1,k2,k3⟩:=hN.row
    obtain⟨k4,k5⟩:=k3 _ _ HJ (by simp)
    refine⟨k5,fun c BC=>.inr ⟨_,iH,by simp,BC⟩,ec,tv,rfl,⟨⟨xs,k1,k2,fun c x hx _=>k3 c x hx (by simp)⟩,fun c d bb h1 h2 _ _=>hN.inj c d bb h1 h2 (by simp) (by simp),fun c bb h1 _=>hN.out c bb h1 (by simp)⟩,fun c BC=>?_⟩
    rcases BC with BC|⟨d,U9,Lp,hd3⟩
    .exact⟨.inl BC,fun q=>hN.out _ c iH (by simp) q BC⟩
    refine⟨.inr ⟨d,U9,by simp,hd3⟩,fun q=>Lp ?_⟩
    rw[hN.inj _ d c iH U9 (by simp) (by simp) q hd3]
   cases h
  cases h
 .rename_i x q' t ie m
  split at h
  .rename_i hg
   have h1:=cr hg
   subst h1
   cases h
   obtain⟨k1,k2,k3,k4,k5⟩:=nm (k:=.int) (x:=x) rfl
   exact⟨k1,k2,k3,tv,rfl,k4,k5⟩
  cases h
 .rename_i x q' t ie m
  split at h
  .rename_i hg
   have h1:=cr hg
   subst h1
   cases h
   obtain⟨k1,k2,k3,k4,k5⟩:=nm (k:=.str) (x:=x) rfl
   exact⟨k1,k2,k3,tv,rfl,k4,k5⟩
  cases h
 cases h
theorem MJ (H:cz o n A S F s r a w){tx e':TypeId}(hk:P.underlying tx=some (.slice e')){ty:Ty}{k:List Prop->List (El ty)->Tr Out}{q:Sy}{out:Out}(h:(J2 ty k q).run s r=some out):
  ∃qs m,(k qs m).run s r=some out/\((∀p∈qs,p)->∃news,Src P (Data.size (El ty)) tx (q.den A) m.length news w/\cC S w news m):=by
 unfold J2 at h
 split at h
 .obtain⟨y,hy,h⟩:=aY h
  split at h
  .rename_i t' m ha
   split at h
   .rename_i m' hm
    obtain⟨hg,h⟩:=an h
    obtain⟨e,oT⟩:=dZ hm
    cases e
    have oT:m=m':=oT
    subst oT
    rw[Bool.or_eq_true] at hg
    exact⟨[],m,h,fun _=>MI H hk hy ha hg⟩
   cases h
  cases h
 .obtain⟨y,hy,h⟩:=aY h
  split at h
  .rename_i I hI
   split at h
   .rename_i m' hm
    obtain⟨hg,h⟩:=an h
    obtain⟨t,ie,l,ps,z⟩:=I
    obtain⟨e,oT⟩:=dZ hm
    have e:t=ty:=by injection e
    subst e
    have oT:l=m':=oT
    subst oT
    refine⟨ps,l,h,fun hp=>?_⟩
    obtain⟨⟨xs,k1,k2⟩,_⟩:=Uk H hy hI hp
    exact⟨xs,BF hk k1 k2.one,k2⟩
   cases h
  cases h
 .exact⟨[],[],h,fun _=>⟨[],Src.ofNil w hk 0,cC.nil _ _⟩⟩
 cases h
def Dv (A:bF)(S:aL)(F:Nat->Prop)(w:World)(r:Nat->Option R2)(v:Value):Option (Nat×Option R2)->Prop
 |none=>v.ownBlock=none
 |some (j,y)=> ∃x,r j=some x/\(∀c,v.ownBlock=some c->(x.den A j).has c)/\∀z,y=some z->z.all F/\z.b9 A/\jV z=false/\(z.den A j).ok S w/\∀c,(z.den A j).has c->(x.den A j).has c/\v.ownBlock≠some c
theorem Dv.has {v:Value}{old:Option (Nat×Option R2)}(h:Dv A S F w r v old){c:Nat}(hc:v.ownBlock=some c):gC A r (fun i=> ∃y,old=some (i,y)) c:=by
 cases old with
 |none=>have h:v.ownBlock=none:=h;rw[h] at hc;cases hc
 |some p=>obtain⟨x,h1,h2,_⟩:=h;exact⟨p.1,x,⟨p.2,rfl⟩,h1,h2 c hc⟩
theorem cz.z8 (H:cz o n A S F s r a w){K:Nat->Prop}(hc:jH w w' (gC A r K)):cN S w w':=fun k hk=>hc.block k (H.bB.ig k hk) fun q=>(H.kA q).2.2 hk
theorem cz.Dw (H:cz o n A S F s r a w)(hF:¬F b){e:TypeId}{ty:Ty}{m:List (El ty)}{v v':Value}{xs:List Value}{old:Option (Nat×Option R2)}(hold:Dv A S F w r v old)
  (hc:w.grownBy w' v.ownBlock) (hv:ga w' e (Data.size (El ty)) v' m.length xs) (hR:cN S w w'->cC S w' xs m) (hb:∀c,v'.ownBlock=some c->v.ownBlock=some c\/(w.heap.size<=c/\c<w'.heap.size)):
  ∃A',cz o n A' S (FU F ((b,some (.row e ty m))::old.toList)) s (aT r ((b,some (.row e ty m))::old.toList)) a w'/\v'=A'.v b:=by
 obtain⟨p',c',Vw,_⟩:=hv.slice
 have uJ:=cV.set (A:=A) hF p' m.length c' 0
 have jR:jH w w' (gC A r fun i=> ∃y,old=some (i,y)):=(jH.of hc).mono fun c q=>hold.has q
 have hS:=H.z8 jR
 have oy:∀p,p∈old.toList->old=some p:=fun p hp=>by simpa using hp
 refine⟨A.set b p' m.length c' 0,H.swap uJ (fun i=> ∃y,old=some (i,y)) (fun j ⟨y,hy⟩=>⟨y,List.mem_cons_of_mem _ (by rw[hy];simp)⟩) jR (fun _ h=>h) (fun _ h=>.inl h) (fun j z hj=>?_) (fun i j zi zj c hi hj h1 h2=>?_),by rw[bF.jQ];exact Vw⟩
 .rcases List.mem_cons.1 hj with hj|hj
  .cases hj
   refine⟨tv,tv,rfl,?_,fun c BC=>?_⟩
   .show di S w' e (bF.v _ b) m
    rw[bF.jQ,<-Vw];exact⟨xs,hv,hR hS⟩
   have BC:(bF.v _ b).ownBlock=some c:=BC
   rw[bF.jQ,<-Vw] at BC
   rcases hb c BC with q|q
   .exact⟨.inl (hold.has q),Nat.lt_of_lt_of_le (H.kA (hold.has q)).2.1 hc.size⟩
   exact⟨.inr q.1,q.2⟩
  have ho:=oy _ hj
  subst ho
  obtain⟨x,h1,h2,h3⟩:=hold
  obtain⟨k1,k2,k3,k4,k5⟩:=h3 z rfl
  have Bq:=(H.dD j x h1).1
  have hd:z.den A j=z.den (A.set b p' m.length c' 0) j:=R2.congr uJ Bq k1
  rw[<-hd]
  refine⟨R2.mono (fun _ q=>.inl q) k1,R2.dG uJ k1 k2,k3,(z.den A j).keep S w w' k4 hS fun c BC=>?_,fun c BC=>?_⟩
  .obtain⟨q1,q2⟩:=k5 c BC
   exact hc.block c (H.kA (K:=fun i=>i=j) ⟨j,x,rfl,h1,q1⟩).2.1 fun z=>q2 z.symm
  obtain⟨q1,q2⟩:=k5 c BC
  have hk:gC A r (fun i=> ∃y,some (j,some z)=some (i,y)) c:=⟨j,x,⟨_,rfl⟩,h1,q1⟩
  exact⟨.inl hk,Nat.lt_of_lt_of_le (H.kA hk).2.1 hc.size⟩
 have key:∀j z c,(j,some z)∈old.toList->(z.den (A.set b p' m.length c' 0) j).has c->v'.ownBlock=some c->False:=fun j z c hj h1 h2=>by
  have ho:=oy _ hj
  subst ho
  obtain⟨x,q1,q2,q3⟩:=hold
  obtain⟨k1,k2,k3,k4,k5⟩:=q3 z rfl
  rw[<-R2.congr uJ (H.dD j x q1).1 k1] at h1
  obtain⟨k6,k7⟩:=k5 c h1
  rcases hb c h2 with q|q
  .exact k7 q
  have:=(H.kA (K:=fun i=>i=j) ⟨j,x,rfl,q1,k6⟩).2.1
  omega
 rcases List.mem_cons.1 hi with hi|hi<;>rcases List.mem_cons.1 hj with hj|hj
 .cases hi;cases hj;rfl
 .cases hi
  have h1:(bF.v _ b).ownBlock=some c:=h1
  rw[bF.jQ,<-Vw] at h1
  exact(key j zj c hj h2 h1).elim
 .cases hj
  have h2:(bF.v _ b).ownBlock=some c:=h2
  rw[bF.jQ,<-Vw] at h2
  exact(key i zi c hi h1 h2).elim
 have e1:=oy _ hi
 rw[oy _ hj] at e1
 cases e1;rfl
theorem Q8 (H:cz o n A S F s r a w)(hF:¬F b){t tx e:TypeId}{ty:Ty}{bytes:Nat}(E:LK P t e (Data.size (El ty)) bytes)(FN:bytes<=1000){l m:List (El ty)}{v x:Value}(hd:∃xs,ga w e (Data.size (El ty)) v l.length xs/\cC S w xs l)
  {old:Option (Nat×Option R2)} (hold:Dv A S F w r v old) (hs:∃news,Src P (Data.size (El ty)) tx x m.length news w/\cC S w news m) (hlen:l.length+m.length<=2147483647) (YJ:TypeId):
  ∃v' w',(Builtin.append_ #[t,tx] YJ #[v,x]).run P w= .ok v' w'/\∃A',cz o n A' S (FU F ((b,some (.row e ty (l++m)))::old.toList)) s (aT r ((b,some (.row e ty (l++m)))::old.toList)) a w'/\v'=A'.v b:=by
 obtain⟨xs,Q9,MK⟩:=hd
 obtain⟨news,zB,CQ⟩:=hs
 obtain⟨v',w',hr,k1,k2,k3⟩:=HM (ty:=YJ) E Q9 zB (by simp only[maxLen];omega) (by have:=Nat.mul_le_mul hlen FN;omega)
 refine⟨v',w',hr,H.Dw hF hold k2 (xs:=xs++news) (by rw[List.length_append];exact k1) (fun hS=>(MK.keep hS).append (CQ.keep hS)) k3⟩
end
section
variable {P:Program}{o:bD}{n:Nat}{A A':bF}{S S' T:aL}{F G:Nat->Prop}{s:Nat->Option E2}{r:Nat->Option R2}{a:Act}{w w':World}{C:List (Nat×Bool)}{b:Nat}
theorem ML {op:Oper}{v:Value}{K:Act->World->Prop}{Q:Exit->Act->World->Prop}(h:Oper.quietUpon P (· =w) w v ((execOp a.eval op).run P w))(k:K (a.put op.dst v) w):op.wp P a w K Q:=by
 unfold Oper.wp
 generalize (execOp a.eval op).run P w=res at h
 cases res with
 |ok x w'=>
  cases x<;>first|(exact h.elim)|skip
  .obtain⟨rfl,rfl⟩:=h;exact k
  .obtain⟨rfl,rfl⟩:=h;exact k
  obtain⟨rfl,h⟩:=h
  refine h.mono fun e w2 ⟨he,hw⟩=>?_
  subst he;subst hw;exact k
 |halt x w'=>exact h.elim
theorem nD {α:Type 1}{t:Ty}{y:Sy}{k:El t->Tr α}{out:α}(hR:kq T w A r (aJ y))(h:(jg t y k).run s r=some out):∃x:El t,Data.rd T w ((aJ y).map (Sc.den A)) x/\(∀ps,y≠.lY ps)/\(k x).run s r=some out:=by
 unfold jg at h
 split at h
 .obtain⟨x,u,rest,hu,h1,h⟩:=kr t _ _ hR h
  split at h
  .rw[List.append_nil] at hu;subst hu;exact⟨x,h1,(fun _ q=>by cases q),h⟩
  cases h
 .obtain⟨x,u,rest,hu,h1,h⟩:=kr t _ _ hR h
  split at h
  .rw[List.append_nil] at hu;subst hu;exact⟨x,h1,(fun _ q=>by cases q),h⟩
  cases h
 cases h
theorem oU {t:Ty}:∀ {ys:List Sy} {k:List (El t)->Tr Out} {out:Out},kq T w A r (ys.flatMap aJ)->(vH t ys k).run s r=some out->∃l:List (El t),l.length=ys.length/\cC T w ((ys.flatMap aJ).map (Sc.den A)) l/\bU T w ((ys.flatMap aJ).map (Sc.den A)) (gl t l)/\(k l).run s r=some out
 |[],k,out,_,h=>⟨[],rfl,cC.nil _ _,tv,h⟩
 |y::ys,k,out,hR,h=>by
  have YK:kq T w A r (aJ y):=fun c hc=>hR c (by rw[List.flatMap_cons];exact List.mem_append_left _ hc)
  have Ul:kq T w A r (ys.flatMap aJ):=fun c hc=>hR c (by rw[List.flatMap_cons];exact List.mem_append_right _ hc)
  obtain⟨x,hx,_,h⟩:=nD YK h
  obtain⟨l,h1,h2,h3,h⟩:=oU Ul h
  refine⟨x::l,by simp[h1],?_,?_,h⟩
  .rw[List.flatMap_cons,List.map_append]
   exact(cC.single hx).append h2
  rw[List.flatMap_cons,List.map_append]
  exact(gK t hx).append h3
theorem Ra {w:World}{S:aL}{t:Ty}{e:TypeId}{cs:List Value}{l:List (El t)}(h:cC S w cs l)(hS:∀k,S k->k<w.heap.size)(hl:l.length<=2147483647):
  Own S (w.alloc (.cells cs.toArray e)) e (.slice (some ⟨w.heap.size,0,none⟩) l.length l.length) l:=by
 refine⟨cs,⟨h.1,.inr ⟨w.heap.size,l.length,_,rfl,Nat.zero_le _,heap_alloc_new w _,Nat.le_refl _,by simp only[maxLen];omega,by simpa using h.1,?_⟩⟩,h.keep fun k hk=>(j6 w _).block k (hS k hk)⟩
 simp only[List.toList_toArray]
 rw[<-h.1,List.take_length]
theorem MM {B:Nat}(H:cz o n A S F s r a w)(hF:∀j,b<=j->j<B->¬F j){op:Oper}{t len:Nat}{parts:Array (Nat×Operand)}{ys:List Sy}{out:Out}(ho:op.op= .buildSlice t len parts)(dB:parts.toList.map (fun p=>a.eval p.2)=ys.map (Sy.den A))
  (h:(Vp P b t len (parts.toList.map (·.1)) ys).run s r=some out) (mg:∀h∈out.hs,∀A w,h.lhs A w=h.rhs A w) (hB:∀p∈out.re,p.1<B)
  {K:Act->World->Prop} {Q:Exit->Act->World->Prop} (k:∀v w',eO o n F s r a out v w'->K (a.put op.dst v) w'):op.wp P a w K Q:=by
 unfold Vp at h
 split at h
 .rename_i ty hty
  obtain⟨hg,h⟩:=an h
  simp only[Bool.and_eq_true] at hg
  obtain⟨⟨hr,⟨eZ,fS⟩,QW⟩,hle⟩:=hg
  have eZ:=cr eZ;have fS:=cr fS;have hle:=Nat.le_of_ble_eq_true hle
  obtain⟨re,hz,hlz,h⟩:=lE _ _ h
  obtain⟨S',hS,H'⟩:=H.freeze hz
  obtain⟨l,MN,k9,_,h⟩:=oU (T:=S') (mc H hz hS H' hlz) h
  have e:=aW h
  subst e
  have bY:=mg _ (List.mem_singleton.2 rfl) A w
  simp only[wX] at bY
  have ep:parts.map (fun x=>(x.1,a.eval x.2))=(((parts.toList.map (·.1)).zip ys).map fun y=>(y.1,y.2.den A)).toArray:=by
   apply Array.ext'
   rw[Array.toList_map]
   show _=((parts.toList.map (·.1)).zip ys).map fun y=>(y.1,y.2.den A)
   have:(((parts.toList.map (·.1)).zip ys).map fun y=>(y.1,y.2.den A))=(parts.toList.map (·.1)).zip (ys.map (Sy.den A)):=by
    rw[List.zip_map_right]
    rfl
   rw[this,<-dB,List.zip_map']
  have e2:(execOp a.eval op).run P w= .ok (.value (.slice (some ⟨w.heap.size,0,none⟩) len len)) (w.alloc (.cells (((ys.flatMap aJ).map (Sc.den A))).toArray (P.elem t))):=by
   rw[<-ep] at bY
   simp only[execOp,ho,Sem.run_bind]
   rw[show(Array.map (fun x=>match x with|(i,x)=>(i,a.eval x)) parts)=parts.map (fun x=>(x.1,a.eval x.2)) from rfl,bY]
   rfl
  refine bG e2 (k _ _ ?_)
  have hlen:l.length=len:=by rw[MN,fS]
  have iJ:=Ra (e:=P.elem t) k9 H'.bB.ig (by omega)
  rw[hlen] at iJ
  have nB:¬F b:=hF b (Nat.le_refl _) (hB (b,some (.row (P.elem t) ty l)) (List.mem_append_left _ (List.mem_singleton.2 rfl)))
  have H2:=H'.new (p:=some ⟨w.heap.size,0,none⟩) (m:=len) (c:=len) (x:=.cells (((ys.flatMap aJ).map (Sc.den A))).toArray (P.elem t)) (y:=.row (P.elem t) ty l) nB (by show di _ _ _ (bF.v _ b) l;rw[bF.jQ];exact di.of iJ) (fun k hk=>by have hk:(bF.v _ b).ownBlock=some k:=hk;rw[bF.jQ] at hk;cases hk;rfl) tv rfl tv
  rw[<-dz] at H2
  refine⟨_,S',H2.agree (cV.refl _ _) fun j hj=>?_,by show _=bF.v _ b;rw[bF.jQ],.inr ⟨_,List.mem_append_left _ (List.mem_singleton.2 rfl)⟩,tv⟩
  rcases hj with hj|⟨z,hz⟩
  .exact .inl hj
  exact .inr ⟨z,List.mem_append_left _ hz⟩
 cases h
theorem Dx (H:cz o n A S F s r a w)(hF:¬F b){op:Oper}{t:TypeId}{cs:List Sc}(ec:∀c∈cs,c.all F)(Dy:∀c∈cs,c.b9 A)
  (e2:(execOp a.eval op).run P w= .ok (.value (.pointer (some ⟨w.heap.size,0,none⟩))) (w.alloc (.cells (cs.map (Sc.den A)).toArray t))) {hs:List Hid}
  {K:Act->World->Prop} {Q:Exit->Act->World->Prop} (k:∀v w',eO o n F s r a ⟨[],hs,.one (.ptr b 0),[(b,some (.box t cs))]⟩ v w'->K (a.put op.dst v) w'):op.wp P a w K Q:=by
 refine bG e2 (k _ _ ?_)
 have nB:¬F b:=hF
 have uJ:=cV.set (A:=A) nB none 0 0 w.heap.size
 have H2:=H.new (p:=none) (m:=0) (c:=0) (x:=.cells (cs.map (Sc.den A)).toArray t) (y:=.box t cs) nB (by
  show(w.alloc _).heap[(A.set b none 0 0 w.heap.size).b b]?=_
  rw[bF.wL,<-jf uJ ec]
  exact heap_alloc_new w _) (fun k hk=>by have hk:some ((A.set b none 0 0 w.heap.size).b b)=some k:=hk;rw[bF.wL] at hk;cases hk;rfl) (fun c hc=>Sc.mono (fun j hj=>.inl hj) (ec c hc)) rfl (fun c hc=>Sc.dG uJ (ec c hc) (Dy c hc))
 refine⟨_,S,H2,?_,.inr ⟨_,List.mem_singleton.2 rfl⟩,tv⟩
 show _=Value.pointer (some ⟨(A.set b none 0 0 w.heap.size).b b,0,none⟩)
 rw[bF.wL]
theorem tT {q:Sy}(h4:(aJ q).all zU=true)(h5:∀ps,q≠.lY ps):(q.den A).cells.toList=(aJ q).map (Sc.den A)/\∀u∈(aJ q).map (Sc.den A),u.oneCell'=true:=by
 refine⟨?_,fun u hu=>?_⟩
 .cases q with
  |one c=>
   have h4:zU c=true:=by simpa[aJ] using h4
   show(Sc.den A c).cells.toList=[Sc.den A c]
   cases c with
   |v u=>
    have h4:u.oneCell'=true:=h4
    show u.cells.toList=[u]
    cases u<;>first|rfl|(simp[Value.oneCell'] at h4)
   |hd p q x=>cases h4
   |_=>rfl
  |agg ds=>rfl
  |lY ps=>exact(h5 ps rfl).elim
 obtain⟨c,hc,rfl⟩:=List.mem_map.1 hu
 have:=List.all_eq_true.1 h4 c hc
 cases c<;>first|exact this|rfl|cases this
theorem FV (H:cz o n A S F s r a w){op:Oper}{t:TypeId}{x y:Operand}{p q:Sy}{out:Out}(ho:op.op= .store t x y)(hx:a.eval x=p.den A)(hy:a.eval y=q.den A)(hq:q.all F/\q.b9 A)
  (h:(storeT P t p q).run s r=some out) {K:Act->World->Prop} {Q:Exit->Act->World->Prop} (k:∀v w',eO o n F s r a out v w'->K (a.put op.dst v) w'):op.wp P a w K Q:=by
 unfold storeT at h
 split at h
 .rename_i j off
  obtain⟨z,hz,h⟩:=aY h
  split at h
  .rename_i bt cs
   obtain⟨hg,h⟩:=an h
   simp only[Bool.and_eq_true] at hg
   obtain⟨⟨⟨⟨h1,h2⟩,h3⟩,h4⟩,h5⟩:=hg
   have h1:=Nat.le_of_ble_eq_true h1;have h2:=cr h2
   have e:=aW h
   subst e
   have hm:bq A r j=some (Rs.of (.box (A.b j) bt (cs.map (Sc.den A)))):=by show(r j).map _=_;rw[hz];rfl
   have hb:w.heap[A.b j]?=some (.cells (cs.map (Sc.den A)).toArray bt (0,0)):=H.bB.ok j _ hm
   obtain⟨inf,tU⟩:=Option.isSome_iff_exists.1 h3
   obtain⟨xh,MO⟩:=tT (A:=A) h4 (fun ps e=>by subst e;cases h5)
   have bY:=n9 (P:=P) w t bt (A.b j) off (cs.map (Sc.den A)) ((aJ q).map (Sc.den A)) (q.den A) hb xh (by simpa using h1) (by rw[tU];simp only[Option.map_some,List.length_map];simp only[Program.cellsOf,tU,Option.map_some,Option.getD_some] at h2;rw[h2]) MO
   have hx:a.eval x= .pointer (some ⟨A.b j,off,none⟩):=hx
   have e2:(execOp a.eval op).run P w= .ok .skip (w.setRow (A.b j) ((cs.map (Sc.den A)).take off++(aJ q).map (Sc.den A)++(cs.map (Sc.den A)).drop (off+((aJ q).map (Sc.den A)).length)).toArray):=by
    simp only[execOp,ho,Sem.run_bind,hx,hy,bY]
    rfl
   have tO:((cs.map (Sc.den A)).take off++(aJ q).map (Sc.den A)++(cs.map (Sc.den A)).drop (off+((aJ q).map (Sc.den A)).length))=(cs.take off++aJ q++cs.drop (off+(aJ q).length)).map (Sc.den A):=by
    rw[List.map_append,List.map_append,List.map_take,List.map_drop,List.length_map]
   rw[tO] at e2
   unfold Oper.wp
   rw[e2]
   refine k undef _ ?_
   have hr:=H.dD j _ hz
   have hgb:w.grownBy (w.setRow (A.b j) ((cs.take off++aJ q++cs.drop (off+(aJ q).length)).map (Sc.den A)).toArray) (some (A.b j)):=⟨rfl,rfl,rfl,by simp,fun k _ hk=>setRow_other w (A.b j) k _ (fun e=>hk (by rw[e]))⟩
   have XT:=H.bB.mut j hm (jH.of hgb)
   have iJ:=H.bB.own j _ (A.b j) hm rfl
   have QD:=XT.put j (Rs.of (.box (A.b j) bt ((cs.take off++aJ q++cs.drop (off+(aJ q).length)).map (Sc.den A)))) (setRow_heap w (A.b j) _ _ bt _ hb) (fun b' ng=>by
    cases ng
    refine⟨iJ.1,by simpa using iJ.2.1,iJ.2.2,fun i ri hi Mz e=>?_⟩
    unfold eN at Mz
    rw[if_neg hi] at Mz
    exact hi (H.bB.apart i j ri _ (A.b j) Mz hm e rfl))
   have Dq:eN (eN (bq A r) j none) j (some (Rs.of (.box (A.b j) bt ((cs.take off++aJ q++cs.drop (off+(aJ q).length)).map (Sc.den A)))))=eN (bq A r) j (some (Rs.of (.box (A.b j) bt ((cs.take off++aJ q++cs.drop (off+(aJ q).length)).map (Sc.den A))))):=by
    funext i;unfold eN;split<;>rfl
   rw[Dq] at QD
   have gp:∀c∈cs.take off++aJ q++cs.drop (off+(aJ q).length),c.all F/\c.b9 A:=by
    intro c hc
    rcases List.mem_append.1 hc with hc|hc
    .rcases List.mem_append.1 hc with hc|hc
     .exact⟨hr.2.1 c (List.mem_of_mem_take hc),hr.2.2 c (List.mem_of_mem_take hc)⟩
     cases q with
     |one c'=>have:=List.mem_singleton.1 hc;subst this;exact hq
     |agg ds=>exact⟨hq.1 c hc,hq.2 c hc⟩
     |lY ps=>cases hc
    exact⟨hr.2.1 c (List.mem_of_mem_drop hc),hr.2.2 c (List.mem_of_mem_drop hc)⟩
   have H2:=cz.lZ H j (some (.box bt (cs.take off++aJ q++cs.drop (off+(aJ q).length)))) (fun z ox=>by cases ox;exact⟨hr.1,fun c hc=>(gp c hc).1,fun c hc=>(gp c hc).2⟩) (fun z e=>by cases e;trivial) QD
   exact⟨A,S,H2.agree (cV.refl _ _) fun _ h=>.inl h,rfl,tv,tv⟩
  cases h
 cases h
end
section
variable {P:Program}{o:bD}{n:Nat}{A A':bF}{S S' T:aL}{F G:Nat->Prop}{s:Nat->Option E2}{r:Nat->Option R2}{a:Act}{w w':World}{C:List (Nat×Bool)}{b:Nat}
theorem MP {α:Type}{u v a b:List α}{off k:Nat}(h:off+k<=a.length)(e:u=a.take off++v++a.drop (off+k)):u++b=(a++b).take off++v++(a++b).drop (off+k):=by
 rw[e,List.take_append_of_le_length (by omega),List.drop_append_of_le_length (by omega)]
 simp only[List.append_assoc]
theorem J4 {α:Type}{u v a b:List α}{off m k:Nat}(h:a.length+m=off)(e:u=b.take m++v++b.drop (m+k)):a++u=(a++b).take off++v++(a++b).drop (off+k):=by
 subst h
 rw[e,List.take_append,List.drop_append,List.take_of_length_le (l:=a) (i:=a.length+m) (by omega),List.drop_of_length_le (l:=a) (i:=a.length+m+k) (by omega),List.nil_append]
 have e1:a.length+m-a.length=m:=by omega
 have e2:a.length+m+k-a.length=m+k:=by omega
 rw[e1,e2]
 simp only[List.append_assoc]
theorem tV:∀ {t:Ty} {off:Nat} {t':Ty} {v:El t'} {x u:El t},setAt t off t' v x=some u->off+aH t'<=aH t/\bg t u=(bg t x).take off++bg t' v++(bg t x).drop (off+aH t'):=by
 have whole:∀ {t t':Ty} {off:Nat} {v:El t'} {x u:El t},By t off v=some u->off+aH t'<=aH t/\bg t u=(bg t x).take off++bg t' v++(bg t x).drop (off+aH t'):=fun {t t' off v x u} h=>by
  cases off with
  |succ _=>cases h
  |zero=>
  obtain⟨e,h⟩:=dZ h
  subst e
  have h:v=u:=h
  subst h
  exact⟨by omega,by rw[List.take_zero,List.nil_append,Nat.zero_add,<-dx t' x,List.drop_length,List.append_nil]⟩
 intro t
 induction t with
 |pair p q ihp ihq=>
  intro off t' v x u h
  simp only[setAt] at h
  split at h
  .rename_i y hy;cases h;exact whole hy
  split at h
  .rename_i iH
   have iH:off<aH p:=by simpa using Nat.blt_eq▸iH
   obtain⟨y,hy,rfl⟩:=Option.map_eq_some_iff.1 h
   obtain⟨k1,k2⟩:=ihp hy
   refine⟨by show _<=aH p+aH q;omega,?_⟩
   show bg p y++bg q x.2=(bg p x.1++bg q x.2).take off++bg t' v++(bg p x.1++bg q x.2).drop (off+aH t')
   exact MP (by rw[dx];omega) k2
  rename_i iH
  have iH:¬off<aH p:=fun q=>by rw[<-Nat.blt_eq] at q;rw[q] at iH;cases iH
  obtain⟨y,hy,rfl⟩:=Option.map_eq_some_iff.1 h
  obtain⟨k1,k2⟩:=ihq hy
  refine⟨by show _<=aH p+aH q;omega,?_⟩
  show bg p x.1++bg q y=(bg p x.1++bg q x.2).take off++bg t' v++(bg p x.1++bg q x.2).drop (off+aH t')
  exact J4 (by rw[dx];omega) k2
 |int=>intro off t' v x u h;exact whole h
 |bool=>intro off t' v x u h;exact whole h
 |str=>intro off t' v x u h;exact whole h
 |list _ _=>intro off t' v x u h;exact whole h
 |map _ _ _=>intro off t' v x u h;exact whole h
 |ptr _ _=>intro off t' v x u h;exact whole h
theorem Rb {ty t':Ty}{xs us:List Value}{l:List (El ty)}{i off:Nat}{v:El t'}{u:El ty}(h:cC S w xs l)(hi:i<l.length)(hu:bU S w us (bg t' v))(hs:setAt ty off t' v (l.getD i (rC ty))=some u):
  cC S w (xs.take (i*aH ty+off)++us++xs.drop (i*aH ty+off+us.length)) (l.set i u):=by
 obtain⟨k1,k2⟩:=tV hs
 have MQ:us.length=aH t':=by rw[hu.len,dx]
 have Rc:xs.length=l.length*aH ty:=by rw[h.1,<-b7]
 have J5:(i+1)*aH ty<=xs.length:=by rw[Rc];exact Nat.mul_le_mul_right _ hi
 rw[Nat.succ_mul] at J5
 refine⟨by rw[List.length_append,List.length_append,List.length_take,List.length_drop,List.length_set,<-b7,<-Rc];omega,fun j hj=>?_⟩
 rw[List.length_set] at hj
 rw[<-b7]
 have hold:=h.2 j hj
 rw[<-b7] at hold
 have aaL:(j+1)*aH ty<=xs.length:=by rw[Rc];exact Nat.mul_le_mul_right _ hj
 rw[Nat.succ_mul] at aaL
 by_cases e:j=i
 .subst e
  rw[List.getElem_set_self]
  have:=lQ xs us (j*aH ty) off (aH ty) J5 (by omega)
  rw[this]
  have hx:l.getD j (rC ty)=l[j]'hi:=by rw[List.getD_eq_getElem?_getD,List.getElem?_eq_getElem hi];rfl
  rw[hx] at k2
  refine vC ty ?_
  rw[k2,MQ]
  have hc:=gK ty hold
  exact((hc.take off).append hu).append (hc.drop _)
 rw[List.getElem_set_ne (fun q=>e q.symm)]
 have he:((xs.take (i*aH ty+off)++us++xs.drop (i*aH ty+off+us.length)).drop (j*aH ty)).take (aH ty)=(xs.drop (j*aH ty)).take (aH ty):=by
  apply List.ext_getElem?
  intro q
  rw[List.getElem?_take,List.getElem?_take]
  split
  .rename_i hq
   rw[List.getElem?_drop,List.getElem?_drop]
   rcases Nat.lt_or_gt_of_ne e with iH|hgt
   .have:=Nat.mul_le_mul_right (aH ty) (show j+1<=i from iH)
    rw[Nat.succ_mul] at this
    rw[List.append_assoc,List.getElem?_append_left (by rw[List.length_take];omega),List.getElem?_take,if_pos (by omega)]
   have:=Nat.mul_le_mul_right (aH ty) (show i+1<=j from hgt)
   rw[Nat.succ_mul] at this
   rw[List.getElem?_append_right (by rw[List.length_append,List.length_take];omega),List.getElem?_drop]
   congr 1
   rw[List.length_append,List.length_take];omega
  rfl
 rw[he];exact hold
theorem bU.keep {w w':World}(hk:cN S w w'):∀ {vs:List Value} {cs:List kX},bU S w vs cs->bU S w' vs cs
 |[],[],_=>trivial
 |_::_,_::_,h=>⟨h.1.keep hk,h.2.keep hk⟩
 |[],_::_,h=>h.elim
 |_::_,[],h=>h.elim
theorem ga.as {e:TypeId}{k k' m m':Nat}{v:Value}{xs:List Value}(h:ga w e k v m xs)(e1:k=k')(e2:m=m'):ga w e k' v m' xs:=by subst e1;subst e2;exact h
theorem aaM {re:List (Nat×Option R2)}{j:Nat}(h:(re.all fun p=>!Nat.beq p.1 j)=true):¬ ∃x,(j,x)∈re:=fun⟨x,hx⟩=>by
 have:=List.all_eq_true.1 h _ hx
 simp at this
theorem FU.mono {re XR:List (Nat×Option R2)}(h:∀p∈re,p∈XR){j:Nat}(q:FU F re j):FU F XR j:=q.imp id fun⟨x,hx⟩=>⟨x,h _ hx⟩
theorem xk {t:TypeId}{x y:Operand}{op:Oper}(ho:op.op= .store t x y){g d:Nat}{u:Value}(hx:a.eval x= .pointer (some ⟨g,d,none⟩))(hy:a.eval y=u)(hr:(Instr.storeAt t (.pointer (some ⟨g,d,none⟩)) u).run P w= .ok () w'):(execOp a.eval op).run P w= .ok .skip w':=by
 simp only[execOp,ho,Sem.run_bind,hx,hy,hr];rfl
theorem uR {t:TypeId}{k:Nat}(h1:P.cellsOf t=k)(h2:(P.info? t).isSome=true):(P.info? t).map (·.size)=some k:=by
 obtain⟨inf,tU⟩:=Option.isSome_iff_exists.1 h2
 rw[tU];simp only[Option.map_some]
 simp only[Program.cellsOf,tU,Option.map_some,Option.getD_some] at h1;rw[h1]
theorem Dz (H:cz o n A S F s r a w){op:Oper}{t:TypeId}{x y:Operand}{j:Nat}{i:Int}{sz off:Nat}{q:Sy}{e:TypeId}{ty zW:Ty}{l:List (El ty)}{out:Out}(ho:op.op= .store t x y)(hx:a.eval x=(Sc.el j i sz off).den A)(hy:a.eval y=q.den A)(hj:r j=some (.row e ty l))
  (hg:(Nat.beq (aH ty) sz && (Nat.beq (P.cellsOf t) (aH zW) && ((P.info? t).isSome && (aJ q).all zU)) && Nat.blt 0 (aH zW))=true)
  (h:(Mn (aJ q) fun re=>aZ (re.all fun p=>!Nat.beq p.1 j) (jg zW q fun v=>
   match setAt ty off zW v (l.getD i.toNat (rC ty)) with
   |some u=>.ret ⟨[aV i l.length],[],.one (.v undef),(j,some (.row e ty (l.set i.toNat u)))::re⟩
   |none=>.fail)).run s r=some out) (cH:∀p∈out.cs,p) {K:Act->World->Prop} {Q:Exit->Act->World->Prop} (k:∀v w',eO o n F s r a out v w'->K (a.put op.dst v) w'):op.wp P a w K Q:=by
 simp only[Bool.and_eq_true] at hg
 obtain⟨⟨g1,g2,g3,g4⟩,g5⟩:=hg
 have g1:=cr g1;have g2:=cr g2
 have g5:0<aH zW:=by simpa using Nat.blt_eq▸g5
 obtain⟨re,hz,hl,h⟩:=lE _ _ h
 obtain⟨S',hS,H'⟩:=H.freeze hz
 obtain⟨yY,h⟩:=an h
 obtain⟨v,hv,YL,h⟩:=nD (mc H hz hS H' hl) h
 split at h
 .rename_i u hu
  have e:=aW h
  subst e
  obtain⟨h0,h1⟩:aV i l.length:=cH _ (List.mem_singleton.2 rfl)
  have hi:i.toNat<l.length:=by omega
  have Hw:aT r re j=some (.row e ty l):=by rw[gW (aaM yY)];exact hj
  have hm:bq A (aT r re) j=some (ob e (A.v j) l):=by show(aT r re j).map _=_;rw[Hw];rfl
  obtain⟨xs,hd,hR⟩:di S' w e (A.v j) l:=H'.bB.ok j _ hm
  obtain⟨FG,Ue⟩:=tT (A:=A) g4 YL
  have hlen:((aJ q).map (Sc.den A)).length=aH zW:=by rw[Data.len hv,b7]
  obtain⟨k1,_⟩:=tV hu
  have J5:(i.toNat+1)*aH ty<=l.length*aH ty:=Nat.mul_le_mul_right _ hi
  rw[Nat.succ_mul] at J5
  rw[<-b7] at hd
  obtain⟨w',bY,qR,hG,cw⟩:=MC (P:=P) (t:=t) (c:=i.toNat*aH ty+off) hd FG (by omega) (by omega) (by rw[hlen];exact uR g2 g3) Ue
  have hx:a.eval x= .pointer (some ⟨zz (A.v j),zA (A.v j)+(i.toNat*aH ty+off),none⟩):=by
   rw[hx,<-Nat.add_assoc,g1];rfl
  have e2:=xk (P:=P) ho hx hy bY
  unfold Oper.wp
  rw[e2]
  refine k undef _ ?_
  have jR:jH w w' (gC A (aT r re) fun c=>c=j):=(jH.of hG).mono fun c hc=>⟨j,_,rfl,Hw,hc⟩
  have hk:=H'.z8 jR
  have H2:=H'.swap (cV.refl _ _) (re:=[(j,some (.row e ty (l.set i.toNat u)))]) (S':=S') (fun c=>c=j) (fun c hc=>by rw[show c=j from hc];exact⟨_,List.mem_singleton.2 rfl⟩) jR (fun _ q=>q) (fun _ q=>.inl q) (fun c z hz=>by
   cases List.mem_singleton.1 hz
   refine⟨tv,tv,rfl,⟨_,qR.as (b7 ty) List.length_set.symm,Rb (hR.keep hk) hi ((gK zW hv).keep hk) hu⟩,fun c hc=>?_⟩
   have hk:gC A (aT r re) (fun i=>i=j) c:=⟨j,_,rfl,Hw,hc⟩
   exact⟨.inl hk,by rw[cw];exact(H'.kA hk).2.1⟩) (fun c d zc zd b h1 h2 _ _=>by
   cases List.mem_singleton.1 h1;cases List.mem_singleton.1 h2;rfl)
  refine⟨A,S',H2.agree (cV.refl _ _) fun c hc=>?_,rfl,tv,tv⟩
  exact FU.mono (fun p hp=>by rw[List.mem_singleton.1 hp];exact List.mem_cons_self) hc
 cases h
theorem Aa {t:Ty}{x0:kX}:∀ {l:List (El t)} {i off:Nat} {u:El t},i<l.length->off<aH t->bg t u=(bg t (l.getD i (rC t))).set off x0->gl t (l.set i u)=(gl t l).set (i*aH t+off) x0
 |y::l,0,off,u,_,ho,h=>by
  show bg t u++gl t l=(bg t y++gl t l).set (0*aH t+off) x0
  have h:bg t u=(bg t y).set off x0:=h
  rw[Nat.zero_mul,Nat.zero_add,List.set_append_left _ _ (by rw[dx];exact ho),h]
 |y::l,i+1,off,u,hi,ho,h=>by
  show bg t y++gl t (l.set i u)=(bg t y++gl t l).set ((i+1)*aH t+off) x0
  have ih:=Aa (l:=l) (i:=i) (u:=u) (by simpa using hi) ho h
  rw[ih,Nat.succ_mul,List.set_append_right _ _ (by rw[dx];omega),dx]
  congr 2;omega
theorem HQ {α:Type}{xs:List α}{c:Nat}{u:α}(h:c<xs.length):xs.take c++[u]++xs.drop (c+1)=xs.set c u:=by
 rw[List.set_eq_take_append_cons_drop,if_pos h,List.append_assoc];rfl
theorem J6 (H:cz o n A S F s r a w){cell:Option kX}{ie:TypeId}{k:(t':Ty)->El t'->List Nat->Tr Out}{q:Sy}{out:Out}(h:(HO P cell ie k q).run s r=some out):
  ∃t' v ks x0 c,(k t' v ks).run s r=some out/\q= .one c/\zU c=true/\(aH t'=1->bg t' v=[x0])/\qH S w ie (c.den A) x0/\(∀i∈ks,∃x,r i=some x)/\(∀b,(c.den A).ownBlock=some b->gC A r (fun i=>i∈ks) b)/\(∀i∈ks,∀x,r i=some x->∀b,(x.den A i).has b->(c.den A).ownBlock=some b):=by
 unfold HO at h
 split at h
 .rename_i i
  obtain⟨z,hz,h⟩:=aY h
  split at h
  .rename_i FP ty m
   obtain⟨hg,h2⟩:=an h
   clear h
   have:=cr hg;subst this
   have hm:bq A r i=some (ob FP (A.v i) m):=by show(r i).map _=_;rw[hz];rfl
   refine⟨_,_,_,.l ty m,.own i,h2,rfl,rfl,fun _=>rfl,H.bB.ok i _ hm,fun i' hi=>?_,fun b hb=>⟨i,_,List.mem_singleton.2 rfl,hz,hb⟩,fun i' hi x hx b hb=>?_⟩
   .rw[List.mem_singleton.1 hi];exact⟨_,hz⟩
   have:=List.mem_singleton.1 hi;subst this
   rw[hz] at hx;cases hx;exact hb
  cases h
 .split at h
  .rename_i ty _
   exact⟨_,_,_,.l ty ([]:List (El ty)),.v (.slice none 0 0),h,rfl,rfl,fun _=>rfl,di.nil,fun _ q=>(by cases q),fun b q=>(by cases q),fun _ q=>(by cases q)⟩
  cases h
 .rename_i m
  exact⟨_,_,_,.i m,_,h,rfl,rfl,fun _=>rfl,⟨rfl,rfl⟩,fun _ q=>(by cases q),fun b q=>(by cases q),fun _ q=>(by cases q)⟩
 .rename_i m
  exact⟨_,_,_,.b m.den,_,h,rfl,rfl,fun _=>rfl,⟨rfl,rfl⟩,fun _ q=>(by cases q),fun b q=>(by cases q),fun _ q=>(by cases q)⟩
 .rename_i m
  exact⟨_,_,_,.s m,_,h,rfl,rfl,fun _=>rfl,⟨rfl,rfl⟩,fun _ q=>(by cases q),fun b q=>(by cases q),fun _ q=>(by cases q)⟩
 cases h
theorem BG {B:Nat}(H:cz o n A S F s r a w)(hF:∀j,b<=j->j<B->¬F j){op:Oper}{t:TypeId}{x y:Operand}{j:Nat}{i:Int}{sz off:Nat}{q:Sy}{qf:Nat}{hh:Option Nat}{e ie:TypeId}{ty:Ty}{l:List (El ty)}{out:Out}(ho:op.op= .store t x y)(hx:a.eval x=(Sc.el j i sz off).den A)(hy:a.eval y=q.den A)(hj:r j=some (.ext (.nest qf hh e ty ie l)))
  (h:(HO P ((bg ty (l.getD i.toNat (rC ty)))[off]?) ie (fun t' v ks=>match setAt ty off t' v (l.getD i.toNat (rC ty)) with
   |some u=>aZ (Nat.beq (aH ty) sz && (Nat.beq (P.cellsOf t) 1 && (Nat.beq (aH t') 1 && ((P.info? t).isSome && ks.all fun k=>!Nat.beq k j))))
    (.ret ⟨[aV i l.length,zX hh (i.toNat*sz+off)],[],.one (.v undef),(j,some (.ext (.nest b none e ty ie (l.set i.toNat u))))::(b,none)::ks.map fun k=>(k,none)⟩)
   |none=>.fail) q).run s r=some out) (cH:∀p∈out.cs,p) (hB:∀p∈out.re,p.1<B) {K:Act->World->Prop} {Q:Exit->Act->World->Prop} (k:∀v w',eO o n F s r a out v w'->K (a.put op.dst v) w'):op.wp P a w K Q:=by
 classical
 obtain⟨t',v,ks,x0,c,h2,hq,MO,aaN,hO,MR,My,abN⟩:=J6 H h
 clear h
 subst hq
 split at h2
 .rename_i u hu
  obtain⟨hg,h⟩:=an h2
  clear h2
  simp only[Bool.and_eq_true] at hg
  obtain⟨g1,g2,g3,g4,g5⟩:=hg
  have g1:=cr g1;have g2:=cr g2;have g3:=cr g3
  have e0:=aW h
  subst e0
  obtain⟨h0,h1⟩:aV i l.length:=cH _ List.mem_cons_self
  have YM:zX hh (i.toNat*sz+off):=cH _ (List.mem_cons_of_mem _ List.mem_cons_self)
  have nB:¬F b:=hF b (Nat.le_refl _) (hB (b,none) (List.mem_cons_of_mem _ List.mem_cons_self))
  subst g1
  have hi:i.toNat<l.length:=by omega
  obtain⟨k1,k2⟩:=tV hu
  rw[g3] at k1 k2
  rw[aaN g3] at k2
  have Du:off<aH ty:=by omega
  rw[HQ (by rw[dx];exact Du)] at k2
  have HJ:=Aa (t:=ty) hi Du k2
  generalize BC:i.toNat*aH ty+off=cc at YM HJ
  have J5:(i.toNat+1)*aH ty<=l.length*aH ty:=Nat.mul_le_mul_right _ hi
  rw[Nat.succ_mul] at J5
  have MT:cc<l.length*aH ty:=by omega
  have hm:bq A r j=some ((X2.nest qf hh e ty ie l).den A j):=by show(r j).map _=_;rw[hj];rfl
  have hN:iy S w (A.v j) (A.f qf) hh e ty ie l:=H.bB.ok j _ hm
  obtain⟨xs,n1,n2,n3⟩:=hN.row
  have MU:((c.den A).cells.toList=[c.den A])/\(c.den A).oneCell'=true:=by
   obtain⟨z1,z2⟩:=tT (A:=A) (q:=.one c) (by simp[aJ,MO]) (fun ps q=>by cases q)
   exact⟨z1,z2 _ (by simp[aJ])⟩
  obtain⟨w',bY,qR,hG,cw⟩:=MC (P:=P) (t:=t) (c:=cc) n1 MU.1 (by simp;omega) (by simp) (by simpa using uR g2 g4) (by simpa using MU.2)
  have hx:a.eval x= .pointer (some ⟨zz (A.v j),zA (A.v j)+cc,none⟩):=by
   rw[hx,<-BC,<-Nat.add_assoc];rfl
  have e2:=xk (P:=P) ho hx hy bY
  unfold Oper.wp
  rw[show(execOp a.eval op).run P w=_ from e2]
  refine k undef _ ?_
  have Rc:xs.length=l.length*aH ty:=n1.1
  simp only[List.length_singleton] at qR
  rw[HQ (by omega)] at qR
  let g:Lit->Value:=fun x=>if x=ix cc then c.den A else A.f qf x
  have gc:g (ix cc)=c.den A:=if_pos rfl
  have gn:∀d,d≠cc->g (ix d)=A.f qf (ix d):=fun d hd=>if_neg fun q=>hd (Vg q)
  have uJ:cV F A (A.dF b g):=cV.dF nB g
  have hjF:=(H.dD j _ hj).1
  have hvj:(A.dF b g).v j=A.v j:=((uJ j hjF).1).symm
  let K:Nat->Prop:=fun c=>c=j\/c∈ks
  have hjK:∀bb,(A.v j).ownBlock=some bb->gC A r K bb:=fun bb hb=>⟨j,_,.inl rfl,hj,.inl hb⟩
  have hnh:∀d bb,d<l.length*aH ty->d≠cc->(A.f qf (ix d)).ownBlock=some bb->((R2.ext (.nest qf hh e ty ie l)).den A j).has bb:=fun d bb hd dL hb=>by
   refine .inr ⟨d,hd,fun q=>?_,hb⟩
   subst q;exact dL YM
  have dL:∀d,d≠cc->hh≠some d:=fun d hd q=>by subst q;exact hd YM
  have hkK:∀bb,(c.den A).ownBlock=some bb->gC A r K bb:=fun bb hb=>let⟨i,x,h1,h2,h3⟩:=My bb hb;⟨i,x,.inr h1,h2,h3⟩
  have L6:∀bb,(c.den A).ownBlock=some bb->((R2.ext (.nest qf hh e ty ie l)).den A j).has bb->False:=fun bb hb LZ=>by
   obtain⟨i,x,h1,h2,h3⟩:=My bb hb
   have:=H.bB.apart i j _ _ bb (show bq A r i=some (x.den A i) by simp[bq,h2]) hm h3 LZ
   subst this
   have:=List.all_eq_true.1 g5 _ h1
   simp at this
  have jR:jH w w' (gC A r K):=(jH.of hG).mono fun bb hb=>hjK bb hb
  have hk:=H.z8 jR
  have jP:∀bb,((R2.ext (.nest qf hh e ty ie l)).den A j).has bb->(A.v j).ownBlock≠some bb->w'.heap[bb]?=w.heap[bb]?:=fun bb hb dL=>hG.block bb (H.bB.own j _ bb hm hb).2.1 fun z=>dL z.symm
  have hH2:=H.swap uJ (re:=(j,some (.ext (.nest b none e ty ie (l.set i.toNat u))))::(b,none)::ks.map fun k=>(k,none)) (S':=S) K (fun d hd=>by
   rcases hd with rfl|hd
   .exact⟨_,List.mem_cons_self⟩
   exact⟨none,List.mem_cons_of_mem _ (List.mem_cons_of_mem _ (List.mem_map.2 ⟨d,hd,rfl⟩))⟩) jR (fun _ q=>q) (fun _ q=>.inl q) (fun d z hz=>?_) (fun d d' z z' bb h1 h2 _ _=>?_)
  .refine⟨_,S,hH2,rfl,tv,tv⟩
  .have hz:(d,some z)=(j,some (.ext (.nest b none e ty ie (l.set i.toNat u)))):=by
    rcases List.mem_cons.1 hz with hz|hz
    .exact hz
    rcases List.mem_cons.1 hz with hz|hz
    .cases hz
    obtain⟨_,_,q⟩:=List.mem_map.1 hz;cases q
   cases hz
   have hlen:(l.set i.toNat u).length=l.length:=List.length_set
   refine⟨.inr ⟨none,List.mem_cons_of_mem _ List.mem_cons_self⟩,tv,rfl,?_,fun bb hb=>?_⟩
   .show iy S w' ((A.dF b g).v j) ((A.dF b g).f b) none e ty ie (l.set i.toNat u)
    rw[hvj,bF.jJ]
    refine⟨⟨xs.set cc (c.den A),by rw[hlen];exact qR,fun u' T8=>?_,fun d x XY _=>?_⟩,fun d1 d2 bb h1 h2 _ _ h3 h4=>?_,fun d bb h1 _ h3=>?_⟩
    .rcases List.mem_or_eq_of_mem_set T8 with q|rfl
     .exact n2 u' q
     exact MU.2
    .rw[HJ] at XY
     by_cases q:d=cc
     .subst q
      rw[List.getElem?_set_self (by rw[dQ];exact MT)] at XY
      cases XY
      rw[gc,List.getElem?_set_self (by omega)]
      refine⟨rfl,hO.keep hk fun bb hb=>?_⟩
      exact hG.block bb (H.kA (hkK bb hb)).2.1 fun q=>L6 bb hb (.inl q.symm)
     rw[List.getElem?_set_ne (fun z=>q z.symm)] at XY
     rw[gn d q,List.getElem?_set_ne (fun z=>q z.symm)]
     obtain⟨m1,m2⟩:=n3 d x XY (dL d q)
     refine⟨m1,m2.keep hk fun bb hb=>?_⟩
     have vj:=(List.getElem?_eq_some_iff.1 XY).1
     rw[dQ] at vj
     exact jP bb (hnh d bb vj q hb) fun z=>hN.out d bb vj (dL d q) hb z
    .rw[hlen] at h1 h2
     by_cases q1:d1=cc<;>by_cases q2:d2=cc
     .rw[q1,q2]
     .subst q1;rw[gc] at h3;rw[gn d2 q2] at h4
      exact(L6 bb h3 (hnh d2 bb h2 q2 h4)).elim
     .subst q2;rw[gc] at h4;rw[gn d1 q1] at h3
      exact(L6 bb h4 (hnh d1 bb h1 q1 h3)).elim
     rw[gn d1 q1] at h3;rw[gn d2 q2] at h4
     exact hN.inj d1 d2 bb h1 h2 (dL d1 q1) (dL d2 q2) h3 h4
    rw[hlen] at h1
    by_cases q:d=cc
    .subst q;rw[gc] at h3;exact fun z=>L6 bb h3 (.inl z)
    rw[gn d q] at h3;exact hN.out d bb h1 (dL d q) h3
   have hb:(((A.dF b g).v j).ownBlock=some bb)\/∃d,d<(l.set i.toNat u).length*aH ty/\none≠some d/\(((A.dF b g).f b) (ix d)).ownBlock=some bb:=hb
   have nt:gC A r K bb:=by
    rcases hb with hb|⟨d,hd,_,hb⟩
    .rw[hvj] at hb;exact hjK bb hb
    rw[bF.jJ] at hb
    rw[hlen] at hd
    by_cases q:d=cc
    .subst q;rw[gc] at hb;exact hkK bb hb
    rw[gn d q] at hb;exact⟨j,_,.inl rfl,hj,hnh d bb hd q hb⟩
   exact⟨.inl nt,by rw[cw];exact(H.kA nt).2.1⟩
  have key:∀ {d:Nat} {z:R2},(d,some z)∈(j,some (.ext (.nest b none e ty ie (l.set i.toNat u))))::(b,none)::(ks.map fun k=>(k,(none:Option R2)))->d=j:=fun hz=>by
   rcases List.mem_cons.1 hz with hz|hz
   .cases hz;rfl
   rcases List.mem_cons.1 hz with hz|hz
   .cases hz
   obtain⟨_,_,q⟩:=List.mem_map.1 hz;cases q
  rw[key h1,key h2]
 cases h2
theorem BH {B:Nat}(H:cz o n A S F s r a w)(hF:∀j,b<=j->j<B->¬F j){op:Oper}{t:TypeId}{x y:Operand}{p q:Sy}{out:Out}(ho:op.op= .store t x y)(hx:a.eval x=p.den A)(hy:a.eval y=q.den A)(hq:q.all F/\q.b9 A)
  (h:(Bz P b t p q).run s r=some out) (cH:∀p∈out.cs,p) (hB:∀p∈out.re,p.1<B) {K:Act->World->Prop} {Q:Exit->Act->World->Prop} (k:∀v w',eO o n F s r a out v w'->K (a.put op.dst v) w'):op.wp P a w K Q:=by
 unfold Bz at h
 split at h
 .unfold Dr at h
  obtain⟨R,hR,h⟩:=aY h
  split at h
  .split at h
   .obtain⟨hg,h⟩:=an h
    exact Dz H ho hx hy hR hg h cH k
   cases h
  .exact BG H hF ho hx hy hR h cH hB k
  cases h
 exact FV H ho hx hy hq h k
end
section
variable {P:Program}{o:bD}{n:Nat}{A A':bF}{S S' T:aL}{F G:Nat->Prop}{s:Nat->Option E2}{r:Nat->Option R2}{a:Act}{w w':World}{C:List (Nat×Bool)}{b:Nat}
theorem DA (H:cz o n A S F s r a w){j qf:Nat}{hh:Option Nat}{e ie:TypeId}{ty:Ty}{l:List (El ty)}(hj:r j=some (.ext (.nest qf hh e ty ie l))):iy S w (A.v j) (A.f qf) hh e ty ie l:=
 H.bB.ok j ((X2.nest qf hh e ty ie l).den A j) (by show(r j).map _=_;rw[hj];rfl)
theorem J7 (t:Ty)(l m:List (El t)):gl t (l++m)=gl t l++gl t m:=List.flatMap_append
theorem Re (H:cz o n A S F s r a w)(hF:¬F b){t e:TypeId}{ty:Ty}{bytes:Nat}(E:LK P t e (aH ty) bytes)(FN:bytes<=1000){ie:TypeId}{l m:List (El ty)}{v:Value}{old:Option Nat}
  (hold:match old with
   |some j=>v=A.v j/\∃qf,r j=some (.ext (.nest qf none e ty ie l))
   |none=>v= .slice none 0 0/\l=[])
  {i qi:Nat} {e':TypeId} (hi:r i=some (.ext (.nest qi none e' ty ie m))) (dL:old≠some i) (hlen:l.length+m.length<=2147483647) (YJ:TypeId):
  ∃v' w',(Builtin.append_ #[t,t] YJ #[v,A.v i]).run P w= .ok v' w'/\∃A',cz o n A' S (FU F ((b,some (.ext (.nest b none e ty ie (l++m))))::(old.toList.map (fun j=>(j,none))++[(i,none)]))) s (aT r ((b,some (.ext (.nest b none e ty ie (l++m))))::(old.toList.map (fun j=>(j,none))++[(i,none)]))) a w'/\v'=A'.v b:=by
 have Vi:=DA H hi
 obtain⟨ys,i1,i2,i3⟩:=Vi.row
 obtain⟨f0,xs,x1,x2,x3,MV,aaO,hKl⟩:∃f0:Lit->Value,∃xs,ga w e (aH ty) v l.length xs/\(∀u∈xs,u.oneCell'=true)/\(∀c x,(gl ty l)[c]?=some x->xs[c]?=some (f0 (ix c))/\qH S w ie (f0 (ix c)) x)/\
   (∀c d bb,c<l.length*aH ty->d<l.length*aH ty->(f0 (ix c)).ownBlock=some bb->(f0 (ix d)).ownBlock=some bb->c=d)/\(∀c bb,c<l.length*aH ty->(f0 (ix c)).ownBlock=some bb->v.ownBlock≠some bb)/\
   (∀bb,(v.ownBlock=some bb\/∃c,c<l.length*aH ty/\(f0 (ix c)).ownBlock=some bb)->∃j x,old=some j/\r j=some x/\(x.den A j).has bb):=by
  cases old with
  |some j=>
   obtain⟨rfl,qf,hj⟩:=hold
   have hN:=DA H hj
   obtain⟨xs,n1,n2,n3⟩:=hN.row
   refine⟨A.f qf,xs,n1,n2,fun c x hc=>n3 c x hc (by simp),fun c d bb h1 h2=>hN.inj c d bb h1 h2 (by simp) (by simp),fun c bb h1=>hN.out c bb h1 (by simp),fun bb hb=>⟨j,_,rfl,hj,?_⟩⟩
   rcases hb with hb|⟨c,h1,h2⟩
   .exact .inl hb
   exact .inr ⟨c,h1,by simp,h2⟩
  |none=>
   obtain⟨rfl,rfl⟩:=hold
   refine⟨fun _=>undef,[],ga.nil w e _,fun _ q=>(by cases q),fun c x hc=>by simp[gl] at hc,fun c d bb h1=>by simp at h1,fun c bb h1=>by simp at h1,fun bb hb=>?_⟩
   rcases hb with hb|⟨c,h1,_⟩
   .cases hb
   simp at h1
 have FW:∀bb,(v.ownBlock=some bb\/∃c,c<l.length*aH ty/\(f0 (ix c)).ownBlock=some bb)->∀c,c<m.length*aH ty->(A.f qi (ix c)).ownBlock=some bb->False:=fun bb hb c hc h2=>by
  obtain⟨j,x,q1,q2,q3⟩:=hKl bb hb
  have:=H.bB.apart j i _ _ bb (show bq A r j=some (x.den A j) by simp[bq,q2]) (show bq A r i=some ((R2.ext (.nest qi none e' ty ie m)).den A i) by simp[bq,hi]) q3 (.inr ⟨c,hc,by simp,h2⟩)
  subst this;exact dL q1
 obtain⟨v',w',hr,k1,k2,k3⟩:=HM (ty:=YJ) E x1 (BF E.under i1 i2) (by simp only[maxLen];omega) (by have:=Nat.mul_le_mul hlen FN;omega)
 refine⟨v',w',hr,?_⟩
 obtain⟨p',c',Vw,_⟩:=k1.slice
 let g:Lit->Value:=fun x=>match x with
  | .int _ z=>if z<(l.length*aH ty:Nat) then f0 x else A.f qi (ix (z-(l.length*aH ty:Nat)).toNat)
  |_=>undef
 have g1:∀c,c<l.length*aH ty->g (ix c)=f0 (ix c):=fun c hc=>by
  show(if((c:Int)<(l.length*aH ty:Nat)) then _ else _)=_
  rw[if_pos (by omega)]
 have g2:∀c,l.length*aH ty<=c->g (ix c)=A.f qi (ix (c-l.length*aH ty)):=fun c hc=>by
  show(if((c:Int)<(l.length*aH ty:Nat)) then _ else _)=_
  rw[if_neg (by omega)]
  congr 2;omega
 have uJ:cV F A ((A.set b p' (l.length+m.length) c' 0).dF b g):=(cV.set hF _ _ _ _).trans (cV.dF hF g)
 have Fg:((A.set b p' (l.length+m.length) c' 0).dF b g).v b=v':=by rw[Vw];exact bF.jQ A b p' (l.length+m.length) c' 0
 let K:Nat->Prop:=fun c=>old=some c\/c=i
 have hl:∀bb,(v.ownBlock=some bb\/∃c,c<l.length*aH ty/\(f0 (ix c)).ownBlock=some bb)->gC A r K bb:=fun bb hb=>let⟨j,x,q1,q2,q3⟩:=hKl bb hb;⟨j,x,.inl q1,q2,q3⟩
 have hm:∀bb c,c<m.length*aH ty->(A.f qi (ix c)).ownBlock=some bb->gC A r K bb:=fun bb c h1 h2=>⟨i,_,.inr rfl,hi,.inr ⟨c,h1,by simp,h2⟩⟩
 have jR:jH w w' (gC A r K):=(jH.of k2).mono fun bb hb=>hl bb (.inl hb)
 have hk:=H.z8 jR
 have oy:∀ {d:Nat} {z:R2},(d,some z)∈(b,some (.ext (.nest b none e ty ie (l++m))))::(old.toList.map (fun j=>(j,(none:Option R2)))++[(i,none)])->(d,some z)=(b,some (.ext (.nest b none e ty ie (l++m)))):=fun hz=>by
  rcases List.mem_cons.1 hz with hz|hz
  .exact hz
  rcases List.mem_append.1 hz with hz|hz
  .obtain⟨_,_,q⟩:=List.mem_map.1 hz;cases q
  cases List.mem_singleton.1 hz
 have MN:(l++m).length*aH ty=l.length*aH ty+m.length*aH ty:=by rw[List.length_append,Nat.add_mul]
 have zH:∀c bb,c<(l++m).length*aH ty->(g (ix c)).ownBlock=some bb->gC A r K bb/\v.ownBlock≠some bb:=fun c bb hc hb=>by
  rw[MN] at hc
  by_cases q:c<l.length*aH ty
  .rw[g1 c q] at hb;exact⟨hl bb (.inr ⟨c,q,hb⟩),aaO c bb q hb⟩
  rw[g2 c (by omega)] at hb
  exact⟨hm bb _ (by omega) hb,fun z=>FW bb (.inl z) _ (by omega) hb⟩
 have hstay:∀c bb,c<(l++m).length*aH ty->(g (ix c)).ownBlock=some bb->w'.heap[bb]?=w.heap[bb]?:=fun c bb hc hb=>by
  obtain⟨q1,q2⟩:=zH c bb hc hb
  exact k2.block bb (H.kA q1).2.1 fun z=>q2 z.symm
 refine⟨(A.set b p' (l.length+m.length) c' 0).dF b g,H.swap uJ (S':=S) K (fun d hd=>⟨none,?_⟩) jR (fun _ q=>q) (fun _ q=>.inl q) (fun d z hz=>?_) (fun d d' z z' bb h1 h2 _ _=>?_),Fg.symm⟩
 .rcases hd with hd|rfl
  .exact List.mem_cons_of_mem _ (List.mem_append_left _ (List.mem_map.2 ⟨d,by rw[hd];simp,rfl⟩))
  exact List.mem_cons_of_mem _ (List.mem_append_right _ (List.mem_singleton.2 rfl))
 .cases oy hz
  refine⟨.inr ⟨_,List.mem_cons_self⟩,tv,rfl,?_,fun bb hb=>?_⟩
  .show iy S w' (((A.set b p' (l.length+m.length) c' 0).dF b g).v b) (((A.set b p' (l.length+m.length) c' 0).dF b g).f b) none e ty ie (l++m)
   rw[Fg,bF.jJ]
   refine⟨⟨xs++ys,by rw[List.length_append];exact k1,fun u hu=>(List.mem_append.1 hu).elim (x2 u) (i2 u),fun c x hc _=>?_⟩,fun c d bb h1 h2 _ _ h3 h4=>?_,fun c bb h1 _ h3 h4=>?_⟩
   .have MT:=(List.getElem?_eq_some_iff.1 hc).1
    rw[dQ] at MT
    rw[J7] at hc
    have tI:=hstay c
    by_cases q:c<l.length*aH ty
    .rw[List.getElem?_append_left (by rw[dQ];exact q)] at hc
     obtain⟨m1,m2⟩:=x3 c x hc
     rw[List.getElem?_append_left (by rw[x1.1];exact q)]
     rw[g1 c q] at tI ⊢
     exact⟨m1,m2.keep hk fun bb hb=>tI bb MT hb⟩
    rw[List.getElem?_append_right (by rw[dQ];omega),dQ] at hc
    obtain⟨m1,m2⟩:=i3 _ x hc (by simp)
    rw[List.getElem?_append_right (by rw[x1.1];omega),x1.1]
    rw[g2 c (by omega)] at tI ⊢
    exact⟨m1,m2.keep hk fun bb hb=>tI bb MT hb⟩
   .rw[MN] at h1 h2
    by_cases q1:c<l.length*aH ty<;>by_cases q2:d<l.length*aH ty
    .rw[g1 c q1] at h3;rw[g1 d q2] at h4;exact MV c d bb q1 q2 h3 h4
    .rw[g1 c q1] at h3;rw[g2 d (by omega)] at h4;exact(FW bb (.inr ⟨c,q1,h3⟩) _ (by omega) h4).elim
    .rw[g2 c (by omega)] at h3;rw[g1 d q2] at h4;exact(FW bb (.inr ⟨d,q2,h4⟩) _ (by omega) h3).elim
    rw[g2 c (by omega)] at h3;rw[g2 d (by omega)] at h4
    have:=Vi.inj _ _ bb (by omega) (by omega) (by simp) (by simp) h3 h4
    omega
   obtain⟨q1,q2⟩:=zH c bb h1 h3
   rcases k3 bb h4 with q|q
   .exact q2 q
   have:=(H.kA q1).2.1;omega
  have hb:(((A.set b p' (l.length+m.length) c' 0).dF b g).v b).ownBlock=some bb\/∃d,d<(l++m).length*aH ty/\none≠some d/\((((A.set b p' (l.length+m.length) c' 0).dF b g).f b) (ix d)).ownBlock=some bb:=hb
  rcases hb with hb|⟨d,hd,_,hb⟩
  .rw[Fg] at hb
   rcases k3 bb hb with q|q
   .have:=hl bb (.inl q)
    exact⟨.inl this,Nat.lt_of_lt_of_le (H.kA this).2.1 k2.size⟩
   exact⟨.inr q.1,q.2⟩
  rw[bF.jJ] at hb
  have:=(zH d bb hd hb).1
  exact⟨.inl this,Nat.lt_of_lt_of_le (H.kA this).2.1 k2.size⟩
 cases oy h1;cases oy h2;rfl
theorem MW {ie:TypeId}{x:kX}{c:Sc}(h:ME x c=true)(hc:kg T w (c.den A) x):(∀i,c≠.own i)/\qH S w ie (c.den A) x/\(c.den A).oneCell'=true/\∀bb,(c.den A).ownBlock≠some bb:=by
 unfold ME at h
 split at h
 .rename_i t l
  have hl:l=[]:=by
   obtain⟨p,cc,e,_⟩:=eW (cn (show Rd T w (.slice none 0 0) l from hc))
   injection e with _ e2 _
   exact List.eq_nil_of_length_eq_zero e2.symm
  subst hl
  exact⟨(fun i q=>by cases q),di.nil,rfl,fun bb q=>by cases q⟩
 .exact⟨(fun i q=>by cases q),⟨hc,rfl⟩,rfl,fun bb q=>by cases q⟩
 .exact⟨(fun i q=>by cases q),⟨hc,rfl⟩,rfl,fun bb q=>by cases q⟩
 .exact⟨(fun i q=>by cases q),⟨hc,rfl⟩,rfl,fun bb q=>by cases q⟩
 cases h
theorem J8 (H:cz o n A S F s r a w){ie:TypeId}:∀ {cs:List kX} {l:List Sc} {k:List Prop->List Nat->Tr Out} {out:Out},(Dt ie cs l k).run s r=some out->bU T w (l.map (Sc.den A)) cs->
  ∃ps ks,(k ps ks).run s r=some out/\((∀p∈ps,p)->(∀i∈ks,∃x,r i=some x)/\(∀(d:Nat) (x:kX) (c:Sc),cs[d]?=some x->l[d]?=some c->qH S w ie (c.den A) x/\(c.den A).oneCell'=true/\∀bb,(c.den A).ownBlock=some bb->∃i x,c= .own i/\i∈ks/\r i=some x/\(x.den A i).has bb))/\
   (∀(d i:Nat),l[d]?=some (Sc.own i)->i∈ks)/\∀(d d' i:Nat),l[d]?=some (Sc.own i)->l[d']?=some (Sc.own i)->d=d':=by
 intro cs
 induction cs with
 |nil=>
  intro l k out h hc
  cases l with
  |nil=>exact⟨[],[],h,fun _=>⟨fun _ q=>(by cases q),fun d x c q=>by simp at q⟩,fun d i q=>by simp at q,fun d d' i q=>by simp at q⟩
  |cons _ _=>cases h
 |cons x cs ih=>
  intro l k out h hc
  cases l with
  |nil=>cases h
  |cons c l=>
   have zT:kg T w (c.den A) x:=hc.1
   simp only[Dt] at h
   split at h
   .rename_i i
    split at h
    .rename_i t' l'
     obtain⟨z,hz,h⟩:=aY h
     split at h
     .rename_i FP ty m
      split at h
      .rename_i m' hm
       obtain⟨hg,h⟩:=an h
       have:=cr hg;subst this
       obtain⟨e,oT⟩:=dZ hm
       have e:ty=t':=by injection e
       subst e
       have oT:m=m':=oT
       subst oT
       obtain⟨ps,ks,q1,q2,q5,q4⟩:=ih h hc.2
       obtain⟨Yn,q1⟩:=an q1
       have hO:di S w FP (A.v i) m:=H.bB.ok i (ob FP (A.v i) m) (by show(r i).map _=_;rw[hz];rfl)
       have y5:∀(d:Nat),l[d]?=some (Sc.own i)->False:=fun d hd=>by
        have:=List.all_eq_true.1 Yn _ (q5 d i hd)
        simp at this
       refine⟨_,i::ks,q1,fun hp=>?_,fun d i' e1=>?_,fun d d' i' e1 e2=>?_⟩
       .have uS:m=l':=hp _ List.mem_cons_self
        subst uS
        obtain⟨q2,q3⟩:=q2 fun p hpp=>hp p (List.mem_cons_of_mem _ hpp)
        refine⟨fun i' Lt=>?_,fun d x' c' e1 e2=>?_⟩
        .rcases List.mem_cons.1 Lt with rfl|Lt
         .exact⟨_,hz⟩
         exact q2 i' Lt
        cases d with
        |zero=>
         simp only[List.getElem?_cons_zero,Option.some.injEq] at e1 e2
         subst e1;subst e2
         exact⟨hO,rfl,fun bb hb=>⟨i,_,rfl,List.mem_cons_self,hz,hb⟩⟩
        |succ d=>
         simp only[List.getElem?_cons_succ] at e1 e2
         obtain⟨z1,z2,z3⟩:=q3 d x' c' e1 e2
         exact⟨z1,z2,fun bb hb=>let⟨i',x,y1,y2,y3⟩:=z3 bb hb;⟨i',x,y1,List.mem_cons_of_mem _ y2,y3⟩⟩
       .cases d with
        |zero=>simp only[List.getElem?_cons_zero,Option.some.injEq,Sc.own.injEq] at e1;subst e1;exact List.mem_cons_self
        |succ d=>simp only[List.getElem?_cons_succ] at e1;exact List.mem_cons_of_mem _ (q5 d i' e1)
       cases d with
       |zero=>
        cases d' with
        |zero=>rfl
        |succ d'=>
         simp only[List.getElem?_cons_zero,List.getElem?_cons_succ,Option.some.injEq,Sc.own.injEq] at e1 e2
         subst e1;exact(y5 d' e2).elim
       |succ d=>
        cases d' with
        |zero=>
         simp only[List.getElem?_cons_zero,List.getElem?_cons_succ,Option.some.injEq,Sc.own.injEq] at e1 e2
         subst e2;exact(y5 d e1).elim
        |succ d'=>simp only[List.getElem?_cons_succ] at e1 e2;rw[q4 d d' i' e1 e2]
      cases h
     cases h
    cases h
   obtain⟨hf,h⟩:=an h
   obtain⟨dL,hO,h1,y5⟩:=MW (ie:=ie) (S:=S) hf zT
   obtain⟨ps,ks,q1,q2,q5,q4⟩:=ih h hc.2
   refine⟨ps,ks,q1,fun hp=>?_,fun d i e1=>?_,fun d d' i e1 e2=>?_⟩
   .obtain⟨q2,q3⟩:=q2 hp
    refine⟨q2,fun d x' c' e1 e2=>?_⟩
    cases d with
    |zero=>
     simp only[List.getElem?_cons_zero,Option.some.injEq] at e1 e2
     subst e1;subst e2
     exact⟨hO,h1,fun bb hb=>(y5 bb hb).elim⟩
    |succ d=>simp only[List.getElem?_cons_succ] at e1 e2;exact q3 d x' c' e1 e2
   .cases d with
    |zero=>simp only[List.getElem?_cons_zero,Option.some.injEq] at e1;exact(dL i e1).elim
    |succ d=>simp only[List.getElem?_cons_succ] at e1;exact q5 d i e1
   cases d with
   |zero=>simp only[List.getElem?_cons_zero,Option.some.injEq] at e1;exact(dL i e1).elim
   |succ d=>
    cases d' with
    |zero=>simp only[List.getElem?_cons_zero,Option.some.injEq] at e2;exact(dL i e2).elim
    |succ d'=>simp only[List.getElem?_cons_succ] at e1 e2;rw[q4 d d' i e1 e2]
theorem Rf {op:Oper}{t len:Nat}{parts:Array (Nat×Operand)}{ys:List Sy}(ho:op.op= .buildSlice t len parts)(dB:parts.toList.map (fun p=>a.eval p.2)=ys.map (Sy.den A)){u:Value}
  (bY:(wX P t len (P.elem t) ((parts.toList.map (·.1)).zip ys) (ys.flatMap aJ)).lhs A w= .ok u w'):(execOp a.eval op).run P w= .ok (.value u) w':=by
 simp only[wX] at bY
 have ep:parts.map (fun x=>(x.1,a.eval x.2))=(((parts.toList.map (·.1)).zip ys).map fun y=>(y.1,y.2.den A)).toArray:=by
  apply Array.ext'
  rw[Array.toList_map]
  show _=((parts.toList.map (·.1)).zip ys).map fun y=>(y.1,y.2.den A)
  have:(((parts.toList.map (·.1)).zip ys).map fun y=>(y.1,y.2.den A))=(parts.toList.map (·.1)).zip (ys.map (Sy.den A)):=by
   rw[List.zip_map_right]
   rfl
  rw[this,<-dB,List.zip_map']
 rw[<-ep] at bY
 simp only[execOp,ho,Sem.run_bind]
 rw[show(Array.map (fun x=>match x with|(i,x)=>(i,a.eval x)) parts)=parts.map (fun x=>(x.1,a.eval x.2)) from rfl,bY]
 rfl
theorem J9 {B:Nat}(H:cz o n A S F s r a w)(hF:∀j,b<=j->j<B->¬F j){op:Oper}{t len:Nat}{parts:Array (Nat×Operand)}{ys:List Sy}{md:Bool}{out:Out}(ho:op.op= .buildSlice t len parts)(dB:parts.toList.map (fun p=>a.eval p.2)=ys.map (Sy.den A)) 
  (h:(MF P md b t len (parts.toList.map (·.1)) ys).run s r=some out) (cH:∀p∈out.cs,p) (mg:∀h∈out.hs,∀A w,h.lhs A w=h.rhs A w) (hB:∀p∈out.re,p.1<B)
  {K:Act->World->Prop} {Q:Exit->Act->World->Prop} (k:∀v w',eO o n F s r a out v w'->K (a.put op.dst v) w'):op.wp P a w K Q:=by
 classical
 cases md with
 |false=>exact MM H hF ho dB h mg hB k
 |true=>
  simp only[MF] at h
  split at h
  .rename_i ty ie hty oz
   obtain⟨hg,h⟩:=an h
   simp only[Bool.and_eq_true] at hg
   obtain⟨⟨hr,⟨eZ,fS⟩,QW⟩,hle⟩:=hg
   have eZ:=cr eZ;have fS:=cr fS;have hle:=Nat.le_of_ble_eq_true hle
   obtain⟨l,MN,k9,wW,h⟩:=oU (T:=(· <w.heap.size)) (fun c _ j _=>zS H j) h
   obtain⟨ps,ks,h,q1,q2,q3⟩:=J8 H h wW
   have e:=aW h
   subst e
   obtain⟨q4,q5⟩:=q1 cH
   have bY:=mg _ (List.mem_singleton.2 rfl) A w
   have e2:=Rf (P:=P) (w:=w) ho dB (bY.trans rfl)
   refine bG e2 (k _ _ ?_)
   have hlen:l.length=len:=by rw[MN,fS]
   have nB:¬F b:=hF b (Nat.le_refl _) (hB _ List.mem_cons_self)
   generalize abO:ys.flatMap aJ=cl at*
   let g:Lit->Value:=fun x=>match x with
    | .int _ z=>(cl.map (Sc.den A)).getD z.toNat undef
    |_=>undef
   have hg:∀d c,cl[d]?=some c->g (ix d)=c.den A:=fun d c hc=>by
    show(cl.map (Sc.den A)).getD (d:Int).toNat undef=_
    rw[Int.toNat_natCast,List.getD_eq_getElem?_getD,List.getElem?_map,hc];rfl
   have uJ:cV F A ((A.set b (some ⟨w.heap.size,0,none⟩) len len 0).dF b g):=(cV.set nB _ _ _ _).trans (cV.dF nB g)
   have Fg:((A.set b (some ⟨w.heap.size,0,none⟩) len len 0).dF b g).v b= .slice (some ⟨w.heap.size,0,none⟩) len len:=bF.jQ A b (some ⟨w.heap.size,0,none⟩) len len 0
   let K:Nat->Prop:=fun c=>c∈ks
   have FX:cl.length=l.length*aH ty:=by
    have:=wW.len
    rw[List.length_map,dQ] at this;exact this
   have rA:∀d,d<l.length*aH ty->∃c x,cl[d]?=some c/\(gl ty l)[d]?=some x:=fun d hd=>⟨cl[d],(gl ty l)[d]'(by rw[dQ];exact hd),List.getElem?_eq_getElem (by omega),List.getElem?_eq_getElem (by rw[dQ];exact hd)⟩
   have iJ:∀d bb,d<l.length*aH ty->(g (ix d)).ownBlock=some bb->∃i x,cl[d]?=some (.own i)/\i∈ks/\r i=some x/\(x.den A i).has bb:=fun d bb hd hb=>by
    obtain⟨c,x,hc,hx⟩:=rA d hd
    rw[hg d c hc] at hb
    obtain⟨_,_,z⟩:=q5 d x c hx hc
    obtain⟨i,y,y1,y2,y3,y4⟩:=z bb hb
    exact⟨i,y,by rw[hc,y1],y2,y3,y4⟩
   have Vx:∀d bb,d<l.length*aH ty->(g (ix d)).ownBlock=some bb->gC A r K bb:=fun d bb hd hb=>let⟨i,x,_,y2,y3,y4⟩:=iJ d bb hd hb;⟨i,x,y2,y3,y4⟩
   have jR:jH w (w.alloc (.cells (cl.map (Sc.den A)).toArray (P.elem t))) (gC A r K):=(jH.below (H:=fun _=>False) (j6 w _)).mono fun _ q=>q.elim
   have hk:=H.z8 jR
   have oy:∀ {d:Nat} {z:R2},(d,some z)∈(b,some (.ext (.nest b none (P.elem t) ty ie l)))::(ks.map fun k=>(k,(none:Option R2)))->(d,some z)=(b,some (.ext (.nest b none (P.elem t) ty ie l))):=fun hz=>by
    rcases List.mem_cons.1 hz with hz|hz
    .exact hz
    obtain⟨_,_,q⟩:=List.mem_map.1 hz;cases q
   refine⟨(A.set b (some ⟨w.heap.size,0,none⟩) len len 0).dF b g,S,H.swap uJ (S':=S) K (fun d hd=>⟨none,List.mem_cons_of_mem _ (List.mem_map.2 ⟨d,hd,rfl⟩)⟩) jR (fun _ q=>q) (fun _ q=>.inl q) (fun d z hz=>?_) (fun d d' z z' bb h1 h2 _ _=>by cases oy h1;cases oy h2;rfl),Fg.symm,.inr ⟨_,List.mem_cons_self⟩,tv⟩
   cases oy hz
   refine⟨.inr ⟨_,List.mem_cons_self⟩,tv,rfl,?_,fun bb hb=>?_⟩
   .show iy S _ (((A.set b (some ⟨w.heap.size,0,none⟩) len len 0).dF b g).v b) (((A.set b (some ⟨w.heap.size,0,none⟩) len len 0).dF b g).f b) none (P.elem t) ty ie l
    rw[Fg,bF.jJ]
    refine⟨⟨cl.map (Sc.den A),⟨by rw[List.length_map,FX],.inr ⟨w.heap.size,0,len,_,by rw[Nat.zero_mul,hlen],heap_alloc_new w _,by omega,by simp only[maxLen];omega,by simp[FX,hlen],?_⟩⟩,fun u hu=>?_,fun d x hd _=>?_⟩,fun c d bb h1 h2 _ _ h3 h4=>?_,fun c bb h1 _ h3 h4=>?_⟩
    .rw[Nat.zero_mul,List.drop_zero,<-FX,List.toList_toArray,<-List.length_map (f:=Sc.den A),List.take_length]
    .obtain⟨c,hc,rfl⟩:=List.mem_map.1 hu
     obtain⟨d,hd⟩:=List.mem_iff_getElem?.1 hc
     have vj:=(List.getElem?_eq_some_iff.1 hd).1
     obtain⟨_,x,_,hx⟩:=rA d (by omega)
     exact(q5 d x c hx hd).2.1
    .have vj:=(List.getElem?_eq_some_iff.1 hd).1
     rw[dQ] at vj
     obtain⟨c,_,hc,_⟩:=rA d vj
     obtain⟨z1,_,_⟩:=q5 d x c hd hc
     rw[hg d c hc]
     refine⟨by rw[List.getElem?_map,hc];rfl,z1.keep hk fun bb hb=>?_⟩
     exact heap_alloc_old w _ (H.kA (Vx d bb vj (by rw[hg d c hc];exact hb))).2.1
    .obtain⟨i,x,y1,y2,y3,y4⟩:=iJ c bb h1 h3
     obtain⟨i',x',z1,z2,z3,z4⟩:=iJ d bb h2 h4
     have:=H.bB.apart i i' _ _ bb (show bq A r i=some (x.den A i) by simp[bq,y3]) (show bq A r i'=some (x'.den A i') by simp[bq,z3]) y4 z4
     subst this
     exact q3 c d i y1 z1
    have:=(H.kA (Vx c bb h1 h3)).2.1
    cases h4
    exact Nat.lt_irrefl _ this
   have hb:(((A.set b (some ⟨w.heap.size,0,none⟩) len len 0).dF b g).v b).ownBlock=some bb\/∃d,d<l.length*aH ty/\none≠some d/\((((A.set b (some ⟨w.heap.size,0,none⟩) len len 0).dF b g).f b) (ix d)).ownBlock=some bb:=hb
   rcases hb with hb|⟨d,hd,_,hb⟩
   .rw[Fg] at hb;cases hb
    exact⟨.inr (Nat.le_refl _),by simp⟩
   rw[bF.jJ] at hb
   have:=Vx d bb hd hb
   exact⟨.inl this,Nat.lt_of_lt_of_le (H.kA this).2.1 jR.size⟩
  cases h
end
section
variable {P:Program}{o:bD}{n:Nat}{A A':bF}{S S' T:aL}{F G:Nat->Prop}{s:Nat->Option E2}{r:Nat->Option R2}{a:Act}{w w':World}{C:List (Nat×Bool)}{b:Nat}
theorem Rg (H:cz o n A S F s r a w)(hF:¬F b){j qf:Nat}{kc:Kc}{hh:Option (bI kc)}{ty:Ty}{ie:TypeId}{m:bl kc (List (El ty))}(hj:r j=some (.ext (.fc qf kc hh ty ie m))){kx:bI kc}(YM:zY hh kx)
  {t kt et:TypeId} (hu:P.underlying t=some (.map kt et)) (hk:P.underlying kt=some (gU kc)) (hw:dc kc kx) (hlen:(show List (bI kc×List (El ty)) from m).length<=2147483647) {v:Value} {l:List (El ty)} (hO:di S w ie v l)
  {ks:List Nat} (dL:∀i∈ks,i≠j) (MR:∀c,v.ownBlock=some c->gC A r (fun i=>i∈ks) c):
  ∃w',(Instr.mapUpdate t (.map (A.m j)) (fJ kc kx) v).run P w= .ok () w'/\∃A',cV F A A'/\cz o n A' S (FU F ((j,some (.ext (.fc b kc none ty ie (gu (show List (bI kc×List (El ty)) from m) kx l))))::(b,none)::ks.map fun i=>(i,none))) s (aT r ((j,some (.ext (.fc b kc none ty ie (gu (show List (bI kc×List (El ty)) from m) kx l))))::(b,none)::ks.map fun i=>(i,none))) a w':=by
 classical
 have hm:bq A r j=some ((X2.fc qf kc hh ty ie m).den A j):=by show(r j).map _=_;rw[hj];rfl
 obtain⟨dM,hb,N⟩:∃dM,A.m j=some dM/\rD S w dM (A.f qf) hh ie m:=H.bB.ok j _ hm
 obtain⟨zs,n1,n2,n3⟩:=N.map
 obtain⟨w',bY,Ls,hG,cw⟩:=n1.put hu hk (by rw[List.length_map];rw[n2] at hlen;simpa using hlen) hw v
 refine⟨w',by rw[hb];exact bY,?_⟩
 let g:Lit->Value:=fun x=>if x=cU kc kx then v else A.f qf x
 have gc:g (cU kc kx)=v:=if_pos rfl
 have gn:∀y,y≠kx->g (cU kc y)=A.f qf (cU kc y):=fun y hy=>if_neg fun q=>hy (C4 kc q)
 have uJ:cV F A (A.dF b g):=cV.dF hF g
 let K:Nat->Prop:=fun c=>c=j\/c∈ks
 have BI:∀y,y≠kx->hh≠some y:=fun y hy q=>by subst q;exact hy YM
 have hvK:∀c,v.ownBlock=some c->gC A r K c:=fun c hc=>let⟨i,x,h1,h2,h3⟩:=MR c hc;⟨i,x,.inr h1,h2,h3⟩
 have hoK:∀y c,y≠kx->(A.f qf (cU kc y)).ownBlock=some c->gC A r K c:=fun y c hy hc=>⟨j,_,.inl rfl,hj,.inr ⟨y,BI y hy,hc⟩⟩
 have hbK:gC A r K dM:=⟨j,_,.inl rfl,hj,.inl hb⟩
 have L6:∀c,v.ownBlock=some c->((R2.ext (.fc qf kc hh ty ie m)).den A j).has c->False:=fun c hc h2=>by
  obtain⟨i,x,h3,h4,h5⟩:=MR c hc
  exact dL i h3 (H.bB.apart i j _ _ c (show bq A r i=some (x.den A i) by simp[bq,h4]) hm h5 h2)
 have jR:jH w w' (gC A r K):=(jH.of hG).mono fun c hc=>by
  have hc:some dM=some c:=hc
  cases hc;exact hbK
 have Um:=H.z8 jR
 have hstay:∀c,c≠dM->gC A r K c->w'.heap[c]?=w.heap[c]?:=fun c hc hK=>hG.block c (H.kA hK).2.1 fun q=>hc (by cases q;rfl)
 have oy:∀ {d:Nat} {z:R2},(d,some z)∈(j,some (.ext (.fc b kc none ty ie (gu (show List (bI kc×List (El ty)) from m) kx l))))::(b,none)::(ks.map fun i=>(i,(none:Option R2)))->(d,some z)=(j,some (.ext (.fc b kc none ty ie (gu (show List (bI kc×List (El ty)) from m) kx l)))):=fun hz=>by
  rcases List.mem_cons.1 hz with hz|hz
  .exact hz
  rcases List.mem_cons.1 hz with hz|hz
  .cases hz
  obtain⟨_,_,q⟩:=List.mem_map.1 hz;cases q
 refine⟨A.dF b g,uJ,H.swap uJ (S':=S) K (fun d hd=>?_) jR (fun _ q=>q) (fun _ q=>.inl q) (fun d z hz=>?_) (fun d d' z z' bb h1 h2 _ _=>by cases oy h1;cases oy h2;rfl)⟩
 .rcases hd with rfl|hd
  .exact⟨_,List.mem_cons_self⟩
  exact⟨none,List.mem_cons_of_mem _ (List.mem_cons_of_mem _ (List.mem_map.2 ⟨d,hd,rfl⟩))⟩
 cases oy hz
 refine⟨.inr ⟨none,List.mem_cons_of_mem _ List.mem_cons_self⟩,tv,rfl,?_,fun c hc=>?_⟩
 .show ∃bb,(A.dF b g).m j=some bb/\rD S w' bb ((A.dF b g).f b) none ie (gu (show List (bI kc×List (El ty)) from m) kx l)
  rw[bF.jJ]
  refine⟨dM,hb,⟨gu zs kx (v,l),by rw[jr (fun y:Value×List (El ty)=>y.1)];exact Ls,by rw[jr (fun y:Value×List (El ty)=>y.2),n2],fun z hz _=>?_⟩,fun y hy _=>?_,fun x y c _ _ h1 h2=>?_,fun x c _ h1 h2=>?_⟩
  .rcases oJ.1 hz with rfl|⟨hz,Rh⟩
   .exact⟨gc.symm,hO.keep Um fun c hc=>hstay c (fun q=>by subst q;exact L6 _ hc (.inl hb)) (hvK c hc)⟩
   obtain⟨m1,m2⟩:=n3 z hz (BI _ Rh)
   refine⟨by rw[gn _ Rh];exact m1,m2.keep Um fun c hc=>?_⟩
   rw[m1] at hc
   exact hstay c (fun q=>N.out z.1 c (BI _ Rh) hc q) (hoK _ c Rh hc)
  .rw[zM] at hy
   split at hy
   .cases hy
   rename_i HR
   rw[gn y fun q=>HR q.symm]
   exact N.XO y hy (BI y fun q=>HR q.symm)
  .by_cases q1:x=kx<;>by_cases q2:y=kx
   .rw[q1,q2]
   .subst q1;rw[gc] at h1;rw[gn y q2] at h2
    exact(L6 c h1 (.inr ⟨y,BI y q2,h2⟩)).elim
   .subst q2;rw[gc] at h2;rw[gn x q1] at h1
    exact(L6 c h2 (.inr ⟨x,BI x q1,h1⟩)).elim
   rw[gn x q1] at h1;rw[gn y q2] at h2
   exact N.inj x y c (BI x q1) (BI y q2) h1 h2
  by_cases q:x=kx
  .subst q;rw[gc] at h1;subst h2;exact L6 _ h1 (.inl hb)
  rw[gn x q] at h1;exact N.out x c (BI x q) h1 h2
 have hc:(A.dF b g).m j=some c\/∃x,none≠some x/\(((A.dF b g).f b) (cU kc x)).ownBlock=some c:=hc
 have nt:gC A r K c:=by
  rcases hc with hc|⟨x,_,hc⟩
  .have hc:A.m j=some c:=hc
   rw[hb] at hc;cases hc;exact hbK
  rw[bF.jJ] at hc
  by_cases q:x=kx
  .subst q;rw[gc] at hc;exact hvK c hc
  rw[gn x q] at hc;exact hoK x c q hc
 exact⟨.inl nt,Nat.lt_of_lt_of_le (H.kA nt).2.1 jR.size⟩
theorem Ab {B:Nat}(H:cz o n A S F s r a w)(hF:∀j,b<=j->j<B->¬F j){op:Oper}{t:TypeId}{m x y:Operand}{p q z:Sy}{out:Out}(ho:op.op= .mapUpdate t m x y\/op.op= .insert t m x y)(hm:a.eval m=p.den A)(hx:a.eval x=q.den A)(hy:a.eval y=z.den A)
  (h:(HP P b t p q z).run s r=some out) (cH:∀p∈out.cs,p) (hB:∀p∈out.re,p.1<B) {K:Act->World->Prop} {Q:Exit->Act->World->Prop} (k:∀v w',eO o n F s r a out v w'->K (a.put op.dst v) w'):op.wp P a w K Q:=by
 unfold HP at h
 split at h
 .rename_i kt et j hu
  obtain⟨R,hR,h2⟩:=aY h
  split at h2
  .rename_i qf kc hh ty ie mm
   split at h2
   .rename_i kx Mx
    obtain⟨hk,h3⟩:=an h2
    clear h2
    have hk:=fT hk
    have hq:q.den A=fJ kc kx:=mh Mx
    have fin:∀ {v:Value} {l:List (El ty)} {ks:List Nat},di S w ie v l->(∀i∈ks,i≠j)->(∀c,v.ownBlock=some c->gC A r (fun i=>i∈ks) c)->a.eval y=v->
      out=⟨[dc kc kx,zY hh kx,(show List (bI kc×List (El ty)) from mm).length<=2147483647],[],.one (.v undef),(j,some (.ext (.fc b kc none ty ie (gu (show List (bI kc×List (El ty)) from mm) kx l))))::(b,none)::ks.map fun i=>(i,none)⟩->op.wp P a w K Q:=by
     intro v l ks hO h1 h2 hv e
     subst e
     obtain⟨w',bY,A',_,H2⟩:=Rg (P:=P) H (hF b (Nat.le_refl _) (hB (b,none) (List.mem_cons_of_mem _ List.mem_cons_self))) hR (cH _ (List.mem_cons_of_mem _ List.mem_cons_self)) hu hk (cH _ List.mem_cons_self) (cH _ (List.mem_cons_of_mem _ (List.mem_cons_of_mem _ List.mem_cons_self))) hO h1 h2
     have xd:(execOp a.eval op).run P w= .ok .skip w':=by
      have hm:a.eval m= .map (A.m j):=hm
      rcases ho with ho|ho<;>(simp only[execOp,ho,Sem.run_bind,hm,hx,hv,hq,bY];rfl)
     unfold Oper.wp
     rw[xd]
     exact k undef _ ⟨A',S,H2,rfl,tv,tv⟩
    split at h3
    .rename_i i
     obtain⟨Z,hZ,h3⟩:=aY h3
     split at h3
     .rename_i FP zW l
      split at h3
      .rename_i l' hl
       obtain⟨hg,h4⟩:=an h3
       clear h3
       rw[Bool.and_eq_true] at hg
       have:=cr hg.1;subst this
       obtain⟨e,fS⟩:=dZ hl
       have e:zW=ty:=by injection e
       subst e
       have fS:l=l':=fS
       subst fS
       have e:=aW h4
       refine fin (ks:=[i]) (H.bB.ok i (ob FP (A.v i) l) (by show(r i).map _=_;rw[hZ];rfl)) (fun i' Lt q=>?_) (fun c hc=>⟨i,_,List.mem_singleton.2 rfl,hZ,hc⟩) hy e
       rw[List.mem_singleton] at Lt
       subst Lt;subst q
       simp at hg
      cases h3
     cases h3
    .have e:=aW h3
     exact fin (ks:=[]) di.nil (fun _ q=>by cases q) (fun c q=>by cases q) hy e
    cases h3
   cases h2
  exact J1 H ho tv hm hx hy h2 cH k
 cases h
theorem uT {B:Nat}(H:cz o n A S F s r a w)(hF:∀j,b<=j->j<B->¬F j){op:Oper}{t:TypeId}{x:Option Operand}{md:Bool}{out:Out}(ho:op.op= .makeMap t x)(hx:∀y,x=some y->∃k m,a.eval y= .int k m)
  (h:(pU P md b t).run s r=some out) (hB:∀p∈out.re,p.1<B) {K:Act->World->Prop} {Q:Exit->Act->World->Prop} (k:∀v w',eO o n F s r a out v w'->K (a.put op.dst v) w'):op.wp P a w K Q:=by
 cases md with
 |false=>exact FL H hF ho hx h hB k
 |true=>
  simp only[pU] at h
  split at h
  .rename_i kt et kc ty hu hc
   split at h
   .rename_i ie oz
    obtain⟨hk,h⟩:=an h
    have hk:=fT hk
    have e:=aW h
    subst e
    have e2:(execOp a.eval op).run P w= .ok (.value (.map (some w.heap.size))) (w.alloc (.map #[] 0)):=by
     cases x with
     |none=>
      simp only[execOp,ho,Sem.run_bind,Option.map_none,run_makeMap]
      rfl
     |some y=>
      obtain⟨ik,m,hy⟩:=hx y rfl
      simp[execOp,ho,Sem.run_bind,Option.map_some,hy,Instr.makeMap,run_underlying hu,asInt,asIntOf,newObj,Result.andThen,Sem.run,Sem.run_pure]
    have nB:=hF b (Nat.le_refl _) (hB _ (List.mem_singleton.2 rfl))
    let g:Lit->Value:=fun _=>.slice none 0 0
    have uJ:cV F A ((A.aT b (some w.heap.size)).dF b g):=(cV.aT nB _).trans (cV.dF nB g)
    have hm:((A.aT b (some w.heap.size)).dF b g).m b=some w.heap.size:=bF.wK A b (some w.heap.size)
    have jR:jH w (w.alloc (.map #[] 0)) (gC A r fun _=>False):=(jH.below (H:=fun _=>False) (j6 w _)).mono fun _ q=>q.elim
    refine bG e2 (k _ _ ⟨(A.aT b (some w.heap.size)).dF b g,S,H.swap uJ (S':=S) (fun _=>False) (fun _ q=>q.elim) jR (fun _ q=>q) (fun _ q=>.inl q) (fun d z hz=>?_) (fun d d' z z' bb h1 h2 _ _=>by cases List.mem_singleton.1 h1;cases List.mem_singleton.1 h2;rfl),?_,.inr ⟨_,List.mem_singleton.2 rfl⟩,tv⟩)
    .cases List.mem_singleton.1 hz
     refine⟨.inr ⟨_,List.mem_singleton.2 rfl⟩,tv,rfl,⟨w.heap.size,hm,?_⟩,fun c hc=>?_⟩
     .rw[bF.jJ]
      exact⟨⟨[],dg.new w hk,rfl,fun _ q=>by cases q⟩,fun x _ _=>rfl,fun x y c _ _ q=>(by cases q),fun x c _ q=>(by cases q)⟩
     rcases hc with hc|⟨x,_,hc⟩
     .have hc:((A.aT b (some w.heap.size)).dF b g).m b=some c:=hc
      rw[hm] at hc;cases hc
      exact⟨.inr (Nat.le_refl _),by simp⟩
     rw[bF.jJ] at hc;cases hc
    show _=Value.map (((A.aT b (some w.heap.size)).dF b g).m b)
    rw[hm]
   cases h
  cases h
theorem Ac {α:Type 1}(H:cz o n A S F s r a w)(hC:jd a C){x:Option Operand}{k:Option Int->Tr α}{out:α}(h:(xe C x k).run s r=some out):∃i,x.map a.eval=i.map (Value.int .i64)/\(k i).run s r=some out:=by
 cases x with
 |none=>exact⟨none,rfl,h⟩
 |some x=>
  obtain⟨y,e1,e2,e3,h1⟩:=aM H hC h
  clear h e2 e3
  split at h1
  .rename_i m
   exact⟨some m,by rw[Option.map_some,e1];rfl,h1⟩
  cases h1
def fm (i:Option Int):Nat:=(i.getD 0).toNat
def kC (n:Nat)(k:Option Int):Nat:=match k with
 |none=>n
 |some k=>k.toNat
theorem sA {n:Nat}:∀ {i k:Option Int},rF n i k->fm i<=kC n k/\kC n k<=n
 |none,none,_=>⟨Nat.zero_le _,Nat.le_refl _⟩
 |some lo,none,h=>by obtain⟨h1,h2⟩:0<=lo/\lo<=(n:Int):=h;exact⟨by show lo.toNat<=n;omega,Nat.le_refl _⟩
 |none,some hi,h=>by obtain⟨h1,h2⟩:0<=hi/\hi<=(n:Int):=h;exact⟨Nat.zero_le _,by show hi.toNat<=n;omega⟩
 |some lo,some hi,h=>by obtain⟨h1,h2,h3⟩:0<=lo/\lo<=hi/\hi<=(n:Int):=h;exact⟨by show lo.toNat<=hi.toNat;omega,by show hi.toNat<=n;omega⟩
theorem vI {α:Type}{l:List α}:∀ {i k:Option Int},rF l.length i k->J3 l i k=(l.drop (fm i)).take (kC l.length k-fm i)
 |none,none,_=>by show l=(l.drop 0).take (l.length-0);simp
 |some lo,none,h=>by show l.drop lo.toNat=(l.drop lo.toNat).take (l.length-lo.toNat);rw[List.take_of_length_le (by rw[List.length_drop];exact Nat.le_refl _)]
 |none,some hi,h=>by show l.take hi.toNat=(l.drop 0).take (hi.toNat-0);simp
 |some lo,some hi,h=>by show(l.take hi.toNat).drop lo.toNat=(l.drop lo.toNat).take (hi.toNat-lo.toNat);rw[List.drop_take]
theorem MX {α:Type}{l:List α}{i k:Option Int}(h:rF l.length i k):(J3 l i k).length=kC l.length k-fm i:=by
 rw[vI h,List.length_take,List.length_drop]
 have:=sA h
 omega
theorem mj {t:TypeId}{size:Nat}(ht:P.underlying t=some (.slice (P.elem t)))(hs:(P.info? (P.elem t)).map (·.size)=some size){base:Option Addr}{len cap:Nat}(XW:len<=cap){i k:Option Int}(h:rF len i k):
  (Instr.sliceAt t (.slice base len cap) (i.map (Value.int .i64)) (k.map (Value.int .i64)) none).run P w= .ok (sliced base (fm i) (kC len k) cap size) w:=by
 obtain⟨inf,tU,rfl⟩:=Option.map_eq_some_iff.1 hs
 have cw:(sizeOf (P.elem t)).run P w= .ok inf.size w:=by simp[sizeOf,typeInfo,tU]
 rw[run_sliceAt_slice w t _ _ _ _ ht]
 match i,k,h with
 |none,none,h=>simp only[Option.map_none];rw[run_slice_all w t base len cap ht,cw];rfl
 |some lo,none,h=>
  obtain⟨h1,h2⟩:0<=lo/\lo<=(len:Int):=h
  simp only[Option.map_none,Option.map_some];rw[run_slice_l w t base len cap ht .i64 lo h1 h2,cw];rfl
 |none,some hi,h=>
  obtain⟨h1,h2⟩:0<=hi/\hi<=(len:Int):=h
  simp only[Option.map_none,Option.map_some];rw[run_slice_h w t base len cap ht .i64 hi h1 (by omega),cw];rfl
 |some lo,some hi,h=>
  obtain⟨h1,h2,h3⟩:0<=lo/\lo<=hi/\hi<=(len:Int):=h
  simp only[Option.map_some];rw[run_slice_lh w t base len cap ht .i64 .i64 lo hi h1 h2 (by omega),cw];rfl
theorem nE {t:TypeId}{size:Nat}(ht:P.underlying t=some (.slice (P.elem t)))(hs:(P.info? (P.elem t)).map (·.size)=some size){base:Option Addr}{len cap:Nat}{h m:Int}(h0:0<=h)(h1:h<=m)(h2:m.toNat<=cap):
  (Instr.sliceAt t (.slice base len cap) none (some (Value.int .i64 h)) (some (Value.int .i64 m))).run P w= .ok (sliced base 0 h.toNat m.toNat size) w:=by
 obtain⟨inf,tU,rfl⟩:=Option.map_eq_some_iff.1 hs
 have cw:(sizeOf (P.elem t)).run P w= .ok inf.size w:=by simp[sizeOf,typeInfo,tU]
 rw[run_sliceAt_slice w t _ _ _ _ ht,run_slice_hm w t base len cap ht .i64 .i64 h m h0 h1 (by omega),cw];rfl
theorem xl {α:Type}[Data α]{p:Option Addr}{len cap lo hi m:Nat}{l:List α}(h:ic T w (.slice p len cap) l)(h1:lo<=hi)(h2:hi<=l.length)(h3:hi<=m)(h4:m<=cap):ic T w (sliced p lo hi m (Data.size α)) ((l.drop lo).take (hi-lo)):=by
 obtain⟨p',c',e,k1,k2,k3⟩:=h
 cases e
 have hlen:((l.drop lo).take (hi-lo)).length=hi-lo:=by rw[List.length_take,List.length_drop];omega
 refine⟨_,m-lo,by unfold sliced;rw[hlen],by rw[hlen];omega,by omega,?_⟩
 rcases k3 with rfl|⟨g,off,cur,t,fz,rfl,hg,hw,hc⟩
 .exact .inl (by simp)
 by_cases q:m=lo
 .exact .inl (List.eq_nil_of_length_eq_zero (by rw[hlen];omega))
 refine .inr ⟨g,off+lo*Data.size α,cur,t,fz,by rw[if_neg q];simp[Addr.add_lit],hg,hw,fun i vE=>?_⟩
 rw[hlen] at vE
 obtain⟨cs,q1,q2⟩:=hc (lo+i) (by omega)
 have e1:((l.drop lo).take (hi-lo))[i]'(by rw[hlen];exact vE)=l[lo+i]:=by simp
 refine⟨cs,by rw[e1];exact q1,fun j hj=>?_⟩
 rw[<-q2 j hj,Nat.add_mul]
 congr 1;omega
theorem DB {B:Nat}(H:cz o n A S F s r a w)(hF:∀j,b<=j->j<B->¬F j){op:Oper}{t:TypeId}{x:Operand}{hi mx:Operand}{p:Sy}{k' m':Int}{out:Out}(ho:op.op= .slice t x none (some hi) (some mx))(hx:a.eval x=p.den A)(hhi:a.eval hi= .int .i64 k')(hmx:a.eval mx= .int .i64 m')
  (h:(BA P b t k' m' p).run s r=some out) (cH:∀p∈out.cs,p) (hB:∀p∈out.re,p.1<B) {K:Act->World->Prop} {Q:Exit->Act->World->Prop} (k:∀v w',eO o n F s r a out v w'->K (a.put op.dst v) w'):op.wp P a w K Q:=by
 have exec:∀ {u v:Value},a.eval x=u->(Instr.sliceAt t u none (some (Value.int .i64 k')) (some (Value.int .i64 m'))).run P w= .ok v w->(execOp a.eval op).run P w= .ok (.value v) w:=by
  intro u v h1 h2
  simp only[execOp,ho,Sem.run_bind,h1,hhi,hmx,Option.map_none,Option.map_some,h2];rfl
 have elem:∀ {e e':TypeId} {ty:Ty},P.underlying t=some (.slice e)->gm P t e' (aH ty)=true->P.underlying t=some (.slice (P.elem t))/\(P.info? (P.elem t)).map (·.size)=some (aH ty):=fun {e e' ty} hu hg=>by
  obtain⟨bytes,_,E⟩:=l9 hg
  obtain⟨inf,z,h1,h2,h3,_⟩:=E.info
  have he:P.elem t=e':=by have:=E.under;simp[Program.elem,this]
  rw[he]
  exact⟨E.under,by rw[h1,Option.map_some,h3]⟩
 unfold BA at h
 split at h
 .rename_i j
  split at h
  .rename_i e hu
   obtain⟨R,hR,h⟩:=aY h
   have hx:a.eval x=A.v j:=hx
   split at h
   .rename_i e' ty l
    obtain⟨hg,h⟩:=an h
    obtain⟨g1,g2⟩:=elem hu hg
    have e0:=aW h
    subst e0
    obtain⟨u1,u2,u3⟩:0<=k'/\k'<=m'/\m'<=(l.length:Int):=cH _ (List.mem_singleton.2 rfl)
    have c1:0<=k'.toNat:=Nat.zero_le _
    have c2:k'.toNat<=l.length:=by omega
    have c3:k'.toNat<=m'.toNat:=by omega
    have c4:m'.toNat<=l.length:=by omega
    have e9:l.take k'.toNat=(l.drop 0).take (k'.toNat-0):=by simp
    obtain⟨xs,hd,k9⟩:di S w e' (A.v j) l:=H.bB.ok j (ob e' (A.v j) l) (by show(r j).map _=_;rw[hR];rfl)
    obtain⟨pp,cap,hv,y6,_⟩:=hd.slice
    rw[hv] at hd hx
    obtain⟨d1,d2⟩:=Bx hd c1 c2 c3 (Nat.le_trans c4 y6)
    have e2:=exec hx (nE (P:=P) (w:=w) g1 g2 (base:=pp) (len:=l.length) u1 u2 (show m'.toNat<=cap by omega))
    rw[<-b7] at d1 d2
    have nB:=hF b (Nat.le_refl _) (hB _ List.mem_cons_self)
    obtain⟨A',k1,k2⟩:=H.Dw (b:=b) (v:=A.v j) (v':=sliced pp 0 k'.toNat m'.toNat (aH ty)) (w':=w) (e:=e') (m:=l.take k'.toNat) (xs:=(xs.drop (0*aH ty)).take ((k'.toNat-0)*aH ty)) (old:=some (j,none)) nB ⟨_,hR,fun c hc=>hc,fun z q=>by cases q⟩
     ⟨rfl,rfl,rfl,Nat.le_refl _,fun _ _ _=>rfl⟩ (by rw[e9,List.length_take,List.length_drop,<-b7,Nat.min_eq_left (by omega)];exact d1) (fun _=>by rw[e9,b7];exact vD k9 c1 c2) (fun c hc=>.inl (by rw[hv];exact d2 c hc))
    exact bG e2 (k _ _ ⟨A',S,k1,k2,.inr ⟨_,List.mem_cons_self⟩,tv⟩)
   .rename_i ty l
    obtain⟨hg,h⟩:=an h
    obtain⟨g1,g2⟩:=elem hu hg
    have e0:=aW h
    subst e0
    obtain⟨u1,u2,u3⟩:0<=k'/\k'<=m'/\m'<=(l.length:Int):=cH _ (List.mem_singleton.2 rfl)
    have c1:0<=k'.toNat:=Nat.zero_le _
    have c2:k'.toNat<=l.length:=by omega
    have c3:k'.toNat<=m'.toNat:=by omega
    have c4:m'.toNat<=l.length:=by omega
    have e9:l.take k'.toNat=(l.drop 0).take (k'.toNat-0):=by simp
    have gz:Rd S w (A.v j) l:=H.bB.ok j (Rs.of (@nr.ro (List (El ty)) _ (A.v j) l)) (by show(r j).map _=_;rw[hR];rfl)
    obtain⟨pp,cap,hv,y6,_⟩:=eW (cn gz)
    rw[hv] at gz hx
    have e2:=exec hx (nE (P:=P) (w:=w) g1 g2 (base:=pp) (len:=l.length) u1 u2 (show m'.toNat<=cap by omega))
    have oA:=gT (xl (cn gz) c1 c2 c3 (Nat.le_trans c4 y6))
    rw[<-e9,<-b7] at oA
    have nB:=hF b (Nat.le_refl _) (hB _ List.mem_cons_self)
    have hs:sliced pp 0 k'.toNat m'.toNat (aH ty)=(A.set b (if m'.toNat=0 then pp else pp.map (·.add (0*aH ty))) (k'.toNat-0) (m'.toNat-0) 0).v b:=by rw[bF.jQ];rfl
    refine bG e2 (k _ _ ⟨_,S,H.ro (b:=b) (cV.set nB (if m'.toNat=0 then pp else pp.map (·.add (0*aH ty))) (k'.toNat-0) (m'.toNat-0) 0) ⟨Nat.le_refl _,⟨_,rfl,?_⟩,tv⟩,hs,.inr ⟨_,List.mem_cons_self⟩,tv⟩)
    show Rd S w (bF.v _ b) _
    rw[<-hs];exact oA
   .rename_i ty l
    obtain⟨hg,h⟩:=an h
    obtain⟨g1,g2⟩:=elem hu hg
    have e0:=aW h
    subst e0
    obtain⟨u1,u2,u3⟩:0<=k'/\k'<=m'/\m'<=(l.length:Int):=cH _ (List.mem_singleton.2 rfl)
    have c1:0<=k'.toNat:=Nat.zero_le _
    have c2:k'.toNat<=l.length:=by omega
    have c3:k'.toNat<=m'.toNat:=by omega
    have c4:m'.toNat<=l.length:=by omega
    have e9:l.take k'.toNat=(l.drop 0).take (k'.toNat-0):=by simp
    have gz:Rd o.old o.w (A.v j) l:=H.args j _ hR
    obtain⟨pp,cap,hv,y6,_⟩:=eW (cn gz)
    rw[hv] at gz hx
    have e2:=exec hx (nE (P:=P) (w:=w) g1 g2 (base:=pp) (len:=l.length) u1 u2 (show m'.toNat<=cap by omega))
    have oA:=gT (xl (cn gz) c1 c2 c3 (Nat.le_trans c4 y6))
    rw[<-e9,<-b7] at oA
    have nB:=hF b (Nat.le_refl _) (hB _ List.mem_cons_self)
    have hs:sliced pp 0 k'.toNat m'.toNat (aH ty)=(A.set b (if m'.toNat=0 then pp else pp.map (·.add (0*aH ty))) (k'.toNat-0) (m'.toNat-0) 0).v b:=by rw[bF.jQ];rfl
    refine bG e2 (k _ _ ⟨_,S,H.ro (b:=b) (cV.set nB (if m'.toNat=0 then pp else pp.map (·.add (0*aH ty))) (k'.toNat-0) (m'.toNat-0) 0) ⟨Nat.le_refl _,⟨_,rfl,?_⟩,tv⟩,hs,.inr ⟨_,List.mem_cons_self⟩,tv⟩)
    show Rd o.old o.w (bF.v _ b) _
    rw[<-hs];exact oA
   .rename_i b'
    obtain⟨R',JK,h⟩:=aY h
    split at h
    .rename_i q lo e' ty l
     obtain⟨hg,h⟩:=an h
     rw[Bool.and_eq_true] at hg
     obtain⟨hq,hg⟩:=hg
     have hq:=cr hq
     subst hq
     obtain⟨g1,g2⟩:=elem hu hg
     have e0:=aW h
     subst e0
     obtain⟨u1,u2,u3⟩:0<=k'/\k'<=m'/\m'<=(l.length:Int):=cH _ (List.mem_singleton.2 rfl)
     have c1:0<=k'.toNat:=Nat.zero_le _
     have c2:k'.toNat<=l.length:=by omega
     have c3:k'.toNat<=m'.toNat:=by omega
     have c4:m'.toNat<=l.length:=by omega
     have e9:l.take k'.toNat=(l.drop 0).take (k'.toNat-0):=by simp
     have Vy:bq A r b'=some (Vh (A.v b') (A.v q) lo e' l):=by show(r b').map _=_;rw[JK];rfl
     obtain⟨⟨xs,hd,k9⟩,_⟩:di S w e' (A.v q) l/\lN (A.v b') (A.v q) lo (Data.size (El ty)):=H.bB.ok b' _ Vy
     obtain⟨pp,cap,hv,y6,_⟩:=hd.slice
     rw[hv] at hd hx
     obtain⟨d1,d2⟩:=Bx hd c1 c2 c3 (Nat.le_trans c4 y6)
     have e2:=exec hx (nE (P:=P) (w:=w) g1 g2 (base:=pp) (len:=l.length) u1 u2 (show m'.toNat<=cap by omega))
     rw[<-b7] at d1 d2
     have nB:=hF b (Nat.le_refl _) (hB _ List.mem_cons_self)
     have dL:q≠b':=fun e=>by rw[e,JK] at hR;cases hR
     have H':cz o n A S F s (jw r q none) a w:=H.lZ (S':=S) q none (fun y e=>by cases e) (fun y e=>by cases e) (H.bB.sub fun i ri hi=>by
      unfold eN at hi
      split at hi
      .cases hi
      exact hi)
     have Ul:jw r q none b'=some (.ext (.vw q lo e' ty l)):=by rw[dR dL];exact JK
     obtain⟨A',k1,k2⟩:=H'.Dw (b:=b) (v:=A.v q) (v':=sliced pp 0 k'.toNat m'.toNat (aH ty)) (w':=w) (e:=e') (m:=l.take k'.toNat) (xs:=(xs.drop (0*aH ty)).take ((k'.toNat-0)*aH ty)) (old:=some (b',none)) nB ⟨_,Ul,fun c hc=>hc,fun z q=>by cases q⟩
      ⟨rfl,rfl,rfl,Nat.le_refl _,fun _ _ _=>rfl⟩ (by rw[e9,List.length_take,List.length_drop,<-b7,Nat.min_eq_left (by omega)];exact d1) (fun _=>by rw[e9,b7];exact vD k9 c1 c2) (fun c hc=>.inl (by rw[hv];exact d2 c hc))
     exact bG e2 (k _ _ ⟨A',S,k1.agree (cV.refl _ _) fun i hi=>by
      rcases hi with hi|⟨y,hy⟩
      .exact .inl hi
      rcases List.mem_cons.1 hy with e|hy
      .cases e;exact .inr ⟨_,List.mem_cons_self⟩
      have:=List.mem_singleton.1 hy
      cases this
      exact .inr ⟨_,List.mem_cons_of_mem _ List.mem_cons_self⟩,k2,.inr ⟨_,List.mem_cons_self⟩,tv⟩)
    cases h
   cases h
  cases h
 cases h
theorem Ka {B:Nat}(H:cz o n A S F s r a w)(hF:∀j,b<=j->j<B->¬F j){op:Oper}{t:TypeId}{x lo:Operand}{p:Sy}{i:Int}{out:Out}(ho:op.op= .slice t x (some lo) none none)(hx:a.eval x=p.den A)(hlo:a.eval lo= .int .i64 i)
  (h:(MG P b t i p).run s r=some out) (cH:∀p∈out.cs,p) (hB:∀p∈out.re,p.1<B) {K:Act->World->Prop} {Q:Exit->Act->World->Prop} (k:∀v w',eO o n F s r a out v w'->K (a.put op.dst v) w'):op.wp P a w K Q:=by
 unfold MG at h
 split at h
 .rename_i j
  split at h
  .rename_i e hu
   obtain⟨R,hR,h⟩:=aY h
   have hx:a.eval x=A.v j:=hx
   split at h
   .rename_i e' ty l
    obtain⟨hg,h⟩:=an h
    obtain⟨bytes,_,E⟩:=l9 hg
    obtain⟨inf,z,h1,h2,h3,_⟩:=E.info
    have he:P.elem t=e':=by have:=E.under;simp[Program.elem,this]
    have g1:P.underlying t=some (.slice (P.elem t)):=by rw[he];exact E.under
    have g2:(P.info? (P.elem t)).map (·.size)=some (aH ty):=by rw[he,h1,Option.map_some,h3]
    have e0:=aW h
    subst e0
    obtain⟨u1,u2⟩:0<=i/\i<=(l.length:Int):=cH _ (List.mem_singleton.2 rfl)
    have nB:¬F b:=hF b (Nat.le_refl _) (hB _ List.mem_cons_self)
    have Bq:=(H.dD j _ hR).1
    have dL:b≠j:=fun e=>nB (e▸Bq)
    have XZ:bq A r j=some (ob e' (A.v j) l):=by show(r j).map _=_;rw[hR];rfl
    have k9:di S w e' (A.v j) l:=H.bB.ok j _ XZ
    obtain⟨pp,cap,hv,y6,_⟩:∃pp cap,A.v j= .slice pp l.length cap/\l.length<=cap/\True:=by
     obtain⟨xs,hd,_⟩:=k9
     obtain⟨pp,cap,hv,y6,_⟩:=hd.slice
     exact⟨pp,cap,hv,y6,tv⟩
    have nF:rF l.length (some i) none:=⟨u1,u2⟩
    have bY:=mj (P:=P) (w:=w) g1 g2 (base:=pp) (len:=l.length) (cap:=cap) y6 nF
    have e2:(execOp a.eval op).run P w= .ok (.value (sliced pp i.toNat l.length cap (aH ty))) w:=by
     simp only[execOp,ho,Sem.run_bind,hx,hv,Option.map_some,Option.map_none,hlo]
     rw[show(Instr.sliceAt t (.slice pp l.length cap) (some (Value.int .i64 i)) none none).run P w=_ from bY];rfl
    have uJ:cV F A (A.set b (if cap=i.toNat then pp else pp.map (·.add (i.toNat*aH ty))) (l.length-i.toNat) (cap-i.toNat) 0):=cV.set nB _ _ _ _
    have Fg:(A.set b (if cap=i.toNat then pp else pp.map (·.add (i.toNat*aH ty))) (l.length-i.toNat) (cap-i.toNat) 0).v b=sliced pp i.toNat l.length cap (aH ty):=by rw[bF.jQ];rfl
    have hvj:=(uJ j Bq).1
    generalize A.set b (if cap=i.toNat then pp else pp.map (·.add (i.toNat*aH ty))) (l.length-i.toNat) (cap-i.toNat) 0=A' at*
    have H1:=H.agree uJ (G:=FU F [(b,some (.ext (.vw j i.toNat e' ty l))),(j,some (.ext (.fwd b)))]) fun q hq=>.inl hq
    have Vz:bq A' r j=some (ob e' (A'.v j) l):=by show(r j).map _=_;rw[hR];rfl
    have YF:FU F [(b,some (.ext (.vw j i.toNat e' ty l))),(j,some (.ext (.fwd b)))] b:=.inr ⟨_,List.mem_cons_self⟩
    have qS:FU F [(b,some (.ext (.vw j i.toNat e' ty l))),(j,some (.ext (.fwd b)))] j:=.inl Bq
    have H2:=H1.lZ (S':=S) j (some (.ext (.fwd b))) (fun y e=>by cases e;exact⟨qS,YF,tv⟩) (fun y e=>by cases e;exact gB rfl) (H1.bB.wM j (r:=ko) tv fun _ q=>q)
    have YN:di S w e' (A'.v j) l:=H1.bB.ok j _ Vz
    have DC:lN (A'.v b) (A'.v j) i.toNat (Data.size (El ty)):=⟨pp,l.length,cap,by rw[<-hvj];exact hv,by omega,y6,by rw[Fg,b7]⟩
    have H3:=H2.lZ (S':=S) b (some (.ext (.vw j i.toNat e' ty l))) (fun y e=>by cases e;exact⟨YF,qS,tv⟩) (fun y e=>by cases e;exact gB rfl) (H2.bB.put b (Vh (A'.v b) (A'.v j) i.toNat e' l) ⟨YN,DC⟩ fun dM hblk=>by
     have hblk:(A'.v j).ownBlock=some dM:=hblk
     obtain⟨k1,k2,k3⟩:=H1.bB.own j _ dM Vz hblk
     refine⟨k1,k2,k3,fun q rq hq YO hh=>?_⟩
     rw[Dk] at YO
     unfold eN at YO
     split at YO
     .rename_i e
      have:rq=ko:=(Option.some.inj YO).symm
      subst this
      exact hh
     rename_i e
     exact e (H1.bB.apart q j rq _ dM YO Vz hh hblk))
    exact bG e2 (k _ _ ⟨A',S,H3,Fg.symm,YF,tv⟩)
   cases h
  cases h
 cases h
theorem FY {B:Nat}(H:cz o n A S F s r a w)(hF:∀j,b<=j->j<B->¬F j){op:Oper}{t:TypeId}{x:Operand}{lo hi:Option Operand}{p:Sy}{i k':Option Int}{out:Out}(ho:op.op= .slice t x lo hi none)(hx:a.eval x=p.den A)(hlo:lo.map a.eval=i.map (Value.int .i64))(hhi:hi.map a.eval=k'.map (Value.int .i64))
  (h:(xg P b t i k' p).run s r=some out) (cH:∀p∈out.cs,p) (hB:∀p∈out.re,p.1<B) {K:Act->World->Prop} {Q:Exit->Act->World->Prop} (k:∀v w',eO o n F s r a out v w'->K (a.put op.dst v) w'):op.wp P a w K Q:=by
 have exec:∀ {u v:Value},a.eval x=u->(Instr.sliceAt t u (i.map (Value.int .i64)) (k'.map (Value.int .i64)) none).run P w= .ok v w->(execOp a.eval op).run P w= .ok (.value v) w:=by
  intro u v h1 h2
  simp only[execOp,ho,Sem.run_bind,h1,hlo,hhi,Option.map_none,h2];rfl
 have elem:∀ {e e':TypeId} {ty:Ty},P.underlying t=some (.slice e)->gm P t e' (aH ty)=true->P.underlying t=some (.slice (P.elem t))/\(P.info? (P.elem t)).map (·.size)=some (aH ty):=fun {e e' ty} hu hg=>by
  obtain⟨bytes,_,E⟩:=l9 hg
  obtain⟨inf,z,h1,h2,h3,_⟩:=E.info
  have he:P.elem t=e':=by have:=E.under;simp[Program.elem,this]
  rw[he]
  exact⟨E.under,by rw[h1,Option.map_some,h3]⟩
 unfold xg at h
 split at h
 .rename_i j
  split at h
  .rename_i e hu
   obtain⟨R,hR,h⟩:=aY h
   have hx:a.eval x=A.v j:=hx
   split at h
   .rename_i e' ty l
    obtain⟨hg,h⟩:=an h
    obtain⟨g1,g2⟩:=elem hu hg
    have e0:=aW h
    subst e0
    have nF:rF l.length i k':=cH _ (List.mem_singleton.2 rfl)
    obtain⟨c1,c2⟩:=sA nF
    obtain⟨xs,hd,k9⟩:di S w e' (A.v j) l:=H.bB.ok j (ob e' (A.v j) l) (by show(r j).map _=_;rw[hR];rfl)
    obtain⟨pp,cap,hv,y6,_⟩:=hd.slice
    rw[hv] at hd hx
    obtain⟨d1,d2⟩:=Bx hd c1 c2 (Nat.le_trans c2 y6) (Nat.le_refl _)
    have e2:=exec hx (mj (P:=P) (w:=w) g1 g2 y6 nF)
    rw[<-b7] at d1 d2
    have nB:=hF b (Nat.le_refl _) (hB _ List.mem_cons_self)
    obtain⟨A',k1,k2⟩:=H.Dw (b:=b) (v:=A.v j) (v':=sliced pp (fm i) (kC l.length k') cap (aH ty)) (w':=w) (e:=e') (m:=J3 l i k') (xs:=(xs.drop (fm i*aH ty)).take ((kC l.length k'-fm i)*aH ty)) (old:=some (j,none)) nB ⟨_,hR,fun c hc=>hc,fun z q=>by cases q⟩
     ⟨rfl,rfl,rfl,Nat.le_refl _,fun _ _ _=>rfl⟩ (by rw[MX nF,<-b7];exact d1) (fun _=>by rw[vI nF,b7];exact vD k9 c1 c2) (fun c hc=>.inl (by rw[hv];exact d2 c hc))
    exact bG e2 (k _ _ ⟨A',S,k1,k2,.inr ⟨_,List.mem_cons_self⟩,tv⟩)
   .rename_i ty l
    obtain⟨hg,h⟩:=an h
    obtain⟨g1,g2⟩:=elem hu hg
    have e0:=aW h
    subst e0
    have nF:rF l.length i k':=cH _ (List.mem_singleton.2 rfl)
    obtain⟨c1,c2⟩:=sA nF
    have gz:Rd S w (A.v j) l:=H.bB.ok j (Rs.of (@nr.ro (List (El ty)) _ (A.v j) l)) (by show(r j).map _=_;rw[hR];rfl)
    obtain⟨pp,cap,hv,y6,_⟩:=eW (cn gz)
    rw[hv] at gz hx
    have e2:=exec hx (mj (P:=P) (w:=w) g1 g2 y6 nF)
    have oA:=gT (tN (cn gz) c1 c2)
    rw[<-vI nF,<-b7] at oA
    have nB:=hF b (Nat.le_refl _) (hB _ List.mem_cons_self)
    have hs:sliced pp (fm i) (kC l.length k') cap (aH ty)=(A.set b (if cap=fm i then pp else pp.map (·.add (fm i*aH ty))) (kC l.length k'-fm i) (cap-fm i) 0).v b:=by rw[bF.jQ];rfl
    refine bG e2 (k _ _ ⟨_,S,H.ro (b:=b) (cV.set nB (if cap=fm i then pp else pp.map (·.add (fm i*aH ty))) (kC l.length k'-fm i) (cap-fm i) 0) ⟨Nat.le_refl _,⟨_,rfl,?_⟩,tv⟩,hs,.inr ⟨_,List.mem_cons_self⟩,tv⟩)
    show Rd S w (bF.v _ b) _
    rw[<-hs];exact oA
   .rename_i ty l
    obtain⟨hg,h⟩:=an h
    obtain⟨g1,g2⟩:=elem hu hg
    have e0:=aW h
    subst e0
    have nF:rF l.length i k':=cH _ (List.mem_singleton.2 rfl)
    obtain⟨c1,c2⟩:=sA nF
    have gz:Rd o.old o.w (A.v j) l:=H.args j _ hR
    obtain⟨pp,cap,hv,y6,_⟩:=eW (cn gz)
    rw[hv] at gz hx
    have e2:=exec hx (mj (P:=P) (w:=w) g1 g2 y6 nF)
    have oA:=gT (tN (cn gz) c1 c2)
    rw[<-vI nF,<-b7] at oA
    have nB:=hF b (Nat.le_refl _) (hB _ List.mem_cons_self)
    have hs:sliced pp (fm i) (kC l.length k') cap (aH ty)=(A.set b (if cap=fm i then pp else pp.map (·.add (fm i*aH ty))) (kC l.length k'-fm i) (cap-fm i) 0).v b:=by rw[bF.jQ];rfl
    refine bG e2 (k _ _ ⟨_,S,H.ro (b:=b) (cV.set nB (if cap=fm i then pp else pp.map (·.add (fm i*aH ty))) (kC l.length k'-fm i) (cap-fm i) 0) ⟨Nat.le_refl _,⟨_,rfl,?_⟩,tv⟩,hs,.inr ⟨_,List.mem_cons_self⟩,tv⟩)
    show Rd o.old o.w (bF.v _ b) _
    rw[<-hs];exact oA
   cases h
  cases h
 .rename_i sb
  split at h
  .rename_i hu
   have e0:=aW h
   subst e0
   have nF:rF sb.size i k':=cH _ (List.mem_singleton.2 rfl)
   have bY:(Instr.sliceAt t (.string sb) (i.map (Value.int .i64)) (k'.map (Value.int .i64)) none).run P w= .ok (.string (sb.extract (i.getD 0).toNat (k'.getD sb.size).toNat)) w:=by
    rw[run_sliceAt_string w t _ _ _ _ hu]
    match i,k',nF with
    |none,none,h=>simp[Instr.slice,run_underlying hu,Instr.sliceBounds]
    |some lo,none,h=>
     obtain⟨h1,h2⟩:0<=lo/\lo<=(sb.size:Int):=h
     simp[Instr.slice,run_underlying hu,Instr.sliceBounds,run_sliceBound,h1,h2]
    |none,some hi,h=>
     obtain⟨h1,h2⟩:0<=hi/\hi<=(sb.size:Int):=h
     simp[Instr.slice,run_underlying hu,Instr.sliceBounds,run_sliceBound,h1,h2]
    |some lo,some hi,h=>
     obtain⟨h1,h2,h3⟩:0<=lo/\lo<=hi/\hi<=(sb.size:Int):=h
     have h4:0<=hi:=by omega
     have h5:(hi.toNat:Int)=hi:=Int.toNat_of_nonneg h4
     simp[Instr.slice,run_underlying hu,Instr.sliceBounds,run_sliceBound,h1,h2,h3,h4,h5]
   exact bG (exec hx bY) (k _ _ ⟨A,S,H.agree (cV.refl _ _) fun _ q=>.inl q,rfl,tv,tv⟩)
  cases h
 .split at h
  .rename_i e hu
   obtain⟨hg,h⟩:=an h
   have e0:=aW h
   subst e0
   have nF:rF 0 i k':=cH _ (List.mem_singleton.2 rfl)
   obtain⟨c1,c2⟩:=sA nF
   have he:P.elem t=e:=by simp[Program.elem,hu]
   obtain⟨inf,tU⟩:=Option.isSome_iff_exists.1 hg
   have bY:=mj (P:=P) (w:=w) (t:=t) (size:=inf.size) (by rw[he];exact hu) (by rw[he,tU];rfl) (base:=none) (Nat.le_refl 0) nF
   have e1:sliced none (fm i) (kC 0 k') 0 inf.size= .slice none 0 0:=by
    unfold sliced
    have h1:kC 0 k'-fm i=0:=by omega
    rw[h1];simp
   rw[e1] at bY
   exact bG (exec hx bY) (k _ _ ⟨A,S,H.agree (cV.refl _ _) fun _ q=>.inl q,rfl,tv,tv⟩)
  cases h
 cases h
end
end Go.Proofs.YtnfdimfepbbbpaaGreat
