/-
  Texts joined by program: WkVg, WkVh, WkVc, WkVi, WkVj, VTB13, VTA3, DartsJ, VRF, VTR1, VTR2, VTR4, VTR3, VTF1, VTW3, VTW2, VTW4, VTR5, VTF2, VTF3, VTS1.
-/
import Derived.Test.YtnfdimfepbbbpaaGreatJAuditPlays6
import Derived.Test.YtnfdimfepbbbpaaGreatProg
import Derived.RangeFuncNested
import Derived.RangeFuncBound
import Derived.RangeFuncCalls
import Derived.RangeFuncLeaves
import Derived.Shelf.Abstract
import Derived.Shelf.RegionOpen
import Derived.WalkKit
import Derived.OwnWalkIn
import Derived.TacticsInMore
import Derived.LoopNIn
import Derived.LoopIn
import Derived.RangeFuncRecord
set_option linter.unusedSimpArgs false
set_option linter.unusedVariables false
set_option maxRecDepth 100000
set_option maxHeartbeats 8000000
namespace Go.Proofs.YtnfdimfepbbbpaaGreat
open Go.RowKit
open Go.Proofs.YtnfdimfepbbbpaaGreat.Deep
theorem yE {g:List Int}{a b:Int}:∀k,k<=g.length->∀j,(mW g a b k).getD j 0=if j<k/\g.getD j 0=b then a else g.getD j 0
 |0,_,j=>by rw[if_neg (by omega)];rfl
 |k+1,hk,j=>by
  have ih:=yE (g:=g) (a:=a) (b:=b) k (by omega)
  have hl:=jG (g:=g) (a:=a) (b:=b) k
  have JT:(mW g a b k).getD k 0=g.getD k 0:=by rw[ih,if_neg (by omega)]
  unfold mW
  rw[JT]
  by_cases q:g.getD k 0=b
  .rw[if_pos q,List.getD_eq_getElem?_getD,List.getElem?_set]
   by_cases e:k=j
   .subst e
    rw[if_pos rfl,if_pos (by omega),if_pos ⟨Nat.lt_succ_self _,q⟩];rfl
   rw[if_neg e,<-List.getD_eq_getElem?_getD,ih]
   by_cases w:j<k/\g.getD j 0=b
   .rw[if_pos w,if_pos ⟨by omega,w.2⟩]
   rw[if_neg w,if_neg fun z=>w ⟨by omega,z.2⟩]
  rw[if_neg q,ih]
  by_cases w:j<k/\g.getD j 0=b
  .rw[if_pos w,if_pos ⟨by omega,w.2⟩]
  rw[if_neg w,if_neg fun z=>w ⟨by
   rcases Nat.lt_succ_iff_lt_or_eq.1 z.1 with y|y
   .exact y
   subst y;exact absurd z.2 q,z.2⟩]
structure G7 (ow:jc)(N:Nat)(g m:List Int)(z:S4×jc):Prop where
 rt:yS ow N z
 len:g.length=N
 oQ:∀x,(ah z.1.1 x).isSome=true->0<=x/\x<(N:Int)
 eq:∀a b:Int,0<=a->a<(N:Int)->0<=b->b<(N:Int)->(g.getD a.toNat 0=g.getD b.toNat 0↔Rl z.1 a b)
 me:∀x,(ah z.2 x).isSome=true↔x∈m
section
variable {ow:jc}{N:Nat}{W:List (Int×List Int)}{o:Int->Int}{l g m:List Int}{s:S4×jc}{S:List (List Int)}
theorem G7.start:G7 ow N (zm N) [] (mQ N,[]):=by
 obtain⟨h1,h2,h3,h4⟩:=wg N
 have hg:∀a:Int,0<=a->a<(N:Int)->(zm N).getD a.toNat 0=a:=fun a h0 h1=>by
  unfold zm
  rw[List.getD_eq_getElem?_getD,List.getElem?_map,List.getElem?_range (by omega)]
  show((a.toNat:Nat):Int)=a
  omega
 refine⟨yS.start,yl N,fun x h=>(h3 x).1 h,fun a b a0 a1 b0 b1=>?_,fun x=>⟨fun h=>(by cases h),fun h=>(by cases h)⟩⟩
 rw[hg a a0 a1,hg b b0 b1,h4]
 exact⟨fun e=>⟨a0,a1,e⟩,fun e=>e.2.2⟩
theorem G7.met (h:G7 ow N g m s){x i:Int}(hx:(ah ow x).isSome=true):G7 ow N g (m++[x]) (s.1,cB s.2 x i):=
 ⟨h.rt.met hx,h.len,h.oQ,h.eq,fun y=>by
  show(ah (cB s.2 x i) y).isSome=true↔_
  rw[bO,List.mem_append,List.mem_singleton]
  by_cases q:x=y
  .rw[if_pos q];exact⟨fun _=>.inr q.symm,fun _=>rfl⟩
  rw[if_neg q,h.me];exact⟨.inl,fun w=>w.elim id fun w=>absurd w.symm q⟩⟩
theorem G7.jn (h:G7 ow N g m s){x y:Int}(x0:0<=x)(x1:x<(N:Int))(y0:0<=y)(y1:y<(N:Int)):(Ye s.1 x y=true↔¬g.getD x.toNat 0=g.getD y.toNat 0)/\G7 ow N (mW g (g.getD x.toNat 0) (g.getD y.toNat 0) g.length) m (CU s.1 x y,s.2):=by
 have hx:=h.rt.all x x0 x1
 have hy:=h.rt.all y y0 y1
 obtain⟨j1,j2,j3⟩:=h.rt.ok.jn x y
 obtain⟨k1,k2,k3⟩:=h.rt.jn x0 x1 y0 y1
 have HR:=h.eq x y x0 x1 y0 y1
 have lM:∀a b,Rl (cQ (cQ s.1 x) y) a b↔Rl s.1 a b:=fun a b=>by
  rw[((h.rt.ok.add x).1.add y).2,(h.rt.ok.add x).2]
  constructor
  .rintro((z|⟨z1,z2⟩)|⟨z1,z2⟩)
   .exact z
   .rw[z1,z2];exact Rl.refl hx
   rw[z1,z2];exact Rl.refl hy
  exact fun z=>.inl (.inl z)
 refine⟨?_,⟨k1,k2,fun z h0 h1=>by show(ah (CU s.1 x y).1 z).isSome=true;rw[k3];exact h.rt.all z h0 h1,h.rt.kn,h.rt.sub⟩,by rw[jG];exact h.len,fun z hz=>h.oQ z (by have hz:(ah (CU s.1 x y).1 z).isSome=true:=hz;rw[k3] at hz;exact hz),fun a b a0 a1 b0 b1=>?_,h.me⟩
 .rw[j2,HR]
  exact⟨fun z w=>z (.inl w),fun z w=>z (w.elim id fun e=>e▸Rl.refl hx)⟩
 have uY:=h.eq a b a0 a1 b0 b1
 have UF:=h.eq a x a0 a1 x0 x1
 have hay:=h.eq a y a0 a1 y0 y1
 have hbx:=h.eq b x b0 b1 x0 x1
 have FN:=h.eq b y b0 b1 y0 y1
 have hl:=h.len
 rw[yE _ (Nat.le_refl _),yE _ (Nat.le_refl _),j3,lM,lM,lM,lM,lM]
 have e1:(a.toNat<g.length/\g.getD a.toNat 0=g.getD y.toNat 0)↔Rl s.1 a y:=by rw[hay];exact⟨fun z=>z.2,fun z=>⟨by omega,z⟩⟩
 have e2:(b.toNat<g.length/\g.getD b.toNat 0=g.getD y.toNat 0)↔Rl s.1 b y:=by rw[FN];exact⟨fun z=>z.2,fun z=>⟨by omega,z⟩⟩
 by_cases q1:Rl s.1 a y<;>by_cases q2:Rl s.1 b y
 .rw[if_pos (e1.2 q1),if_pos (e2.2 q2)]
  exact⟨fun _=>.inl (q1.trans q2.symm),fun _=>rfl⟩
 .rw[if_pos (e1.2 q1),if_neg (fun z=>q2 (e2.1 z))]
  constructor
  .exact fun e=>.inr (.inr ⟨q1,(hbx.1 e.symm).symm⟩)
  rintro(z|⟨z1,z2⟩|⟨z1,z2⟩)
  .exact absurd (z.symm.trans q1) q2
  .exact absurd z2.symm q2
  exact(hbx.2 z2.symm).symm
 .rw[if_neg (fun z=>q1 (e1.1 z)),if_pos (e2.2 q2)]
  constructor
  .exact fun e=>.inr (.inl ⟨UF.1 e,q2.symm⟩)
  rintro(z|⟨z1,z2⟩|⟨z1,z2⟩)
  .exact absurd (z.trans q2) q1
  .exact UF.2 z1
  exact absurd z1 q1
 rw[if_neg (fun z=>q1 (e1.1 z)),if_neg (fun z=>q2 (e2.1 z)),uY]
 constructor
 .exact .inl
 rintro(z|⟨z1,z2⟩|⟨z1,z2⟩)
 .exact z
 .exact absurd z2.symm q2
 exact absurd z1 q1
variable (hk:∀x,(ah ow x).isSome=true↔0<=dK W x)(ho:∀x,(ah ow x).isSome=true->(ah ow x).getD 0=o x/\0<=o x/\o x<(N:Int))
include hk ho in
theorem EZ {i:Int}(h:G7 ow N g m s):∀k,(∀m' g',mX W l m k=some m'->yT o l g (k-1)=some g'->∃z,runK ow l i s k=some z/\G7 ow N g' m' z)/\(mX W l m k=none\/yT o l g (k-1)=none->runK ow l i s k=none)
 |0=>⟨fun m' g' e1 e2=>by
  have e1:some m=some m':=e1
  have e2:some g=some g':=e2
  cases e1;cases e2;exact⟨s,rfl,h⟩,fun q=>q.elim (fun z=>by cases z) fun z=>by cases z⟩
 |k+1=>by
  obtain⟨h1,h2⟩:=EZ h k
  have er:runK ow l i s (k+1)=(runK ow l i s k).bind fun z=>oF ow l i z k:=rfl
  have em:mX W l m (k+1)=(mX W l m k).bind fun z=>if(dK W (l.getD k 0)<0\/l.getD k 0∈z)\/(0<k/\l.getD k 0<=l.getD (k-1) 0) then none else some (z++[l.getD k 0]):=rfl
  rw[Nat.add_sub_cancel,er,em]
  cases hm:mX W l m k with
  |none=>rw[h2 (.inl hm)];exact⟨fun m' g' e=>(by cases e),fun _=>rfl⟩
  |some m'=>
   cases hj:yT o l g (k-1) with
   |none=>
    rw[h2 (.inr hj)]
    exact⟨fun m' g' _ e=>(by rw[tq hj (j:=k) (by omega)] at e;cases e),fun _=>rfl⟩
   |some g'=>
    obtain⟨z,hz,hg⟩:=h1 m' g' hm hj
    rw[hz]
    simp only[Option.bind_some]
    unfold oF
    have hx:((ah ow (l.getD k 0)).isSome=false\/(ah z.2 (l.getD k 0)).isSome=true\/(0<k/\l.getD k 0<=l.getD (k-1) 0))↔((dK W (l.getD k 0)<0\/l.getD k 0∈m')\/(0<k/\l.getD k 0<=l.getD (k-1) 0)):=by
     have:=hk (l.getD k 0)
     rw[hg.me,or_assoc,show(ah ow (l.getD k 0)).isSome=false↔dK W (l.getD k 0)<0 from⟨fun q=>by rw[q] at this;exact Int.not_le.1 fun w=>absurd (this.2 w) (by decide),fun q=>by cases e:(ah ow (l.getD k 0)).isSome;rfl;have:=this.1 e;omega⟩]
    by_cases q:(dK W (l.getD k 0)<0\/l.getD k 0∈m')\/(0<k/\l.getD k 0<=l.getD (k-1) 0)
    .rw[if_pos q,if_pos (hx.2 q)]
     exact⟨fun m' g' e=>(by cases e),fun _=>rfl⟩
    rw[if_neg q,if_neg fun w=>q (hx.1 w)]
    have gp:(ah ow (l.getD k 0)).isSome=true:=(hk _).2 (Int.not_lt.1 fun w=>q (.inl (.inl w)))
    by_cases e0:k=0
    .subst e0
     rw[if_pos rfl]
     refine⟨fun m'' g'' e1 e2=>?_,fun w=>w.elim (fun w=>by cases w) fun w=>by rw[w] at hj;cases hj⟩
     have e2:yT o l g (0-1)=some g'':=e2
     rw[hj] at e2
     cases e1;cases e2
     exact⟨_,rfl,hg.met gp⟩
    have hh:(ah ow (l.getD 0 0)).isSome=true:=nY (by omega) hz
    obtain⟨a1,a2,a3⟩:=ho _ hh
    obtain⟨b1,b2,b3⟩:=ho _ gp
    rw[if_neg e0,a1,b1]
    obtain⟨t1,t2⟩:=hg.jn a2 a3 b2 b3
    have ej:yT o l g k=if g'.getD (o (l.getD 0 0)).toNat 0=g'.getD (o (l.getD k 0)).toNat 0 then none else some (mW g' (g'.getD (o (l.getD 0 0)).toNat 0) (g'.getD (o (l.getD k 0)).toNat 0) g'.length):=by
     have e:k=(k-1)+1:=by omega
     rw[e]
     show(yT o l g (k-1)).bind _=_
     rw[hj,<-e];rfl
    rw[ej]
    by_cases w:g'.getD (o (l.getD 0 0)).toNat 0=g'.getD (o (l.getD k 0)).toNat 0
    .rw[if_pos w,if_neg fun y=>t1.1 y w]
     exact⟨fun m' g' _ e=>(by cases e),fun _=>rfl⟩
    rw[if_neg w,if_pos (t1.2 w)]
    refine⟨fun m'' g'' e1 e2=>?_,fun y=>y.elim (fun y=>by cases y) fun y=>by cases y⟩
    cases e1;cases e2
    exact⟨_,rfl,t2.met gp⟩
include hk ho in
theorem E0:∀i,match Cs o W S N i with
  |some (g,m)=> ∃z,iU ow S N i=some z/\G7 ow N g m z
  |none=>iU ow S N i=none
 |0=>⟨_,rfl,G7.start⟩
 |i+1=>by
  have ih:=E0 i
  show match(Cs o W S N i).bind fun s=>O0 o W S s i with|some (g,m)=> ∃z,(iU ow S N i).bind (fun s=>lW ow S s i)=some z/\G7 ow N g m z|none=>(iU ow S N i).bind (fun s=>lW ow S s i)=none
  cases hq:Cs o W S N i with
  |none=>
   rw[hq] at ih
   have ih:iU ow S N i=none:=ih
   rw[ih];rfl
  |some p=>
   obtain⟨g,m⟩:=p
   rw[hq] at ih
   obtain⟨z,hz,hg⟩:=ih
   rw[hz]
   show match O0 o W S (g,m) i with|some (g,m)=> ∃y,lW ow S z i=some y/\G7 ow N g m y|none=>lW ow S z i=none
   unfold O0 lW
   by_cases q:(S.getD i []).length<2\/(0<i/\(S.getD i []).getD 0 0<=(S.getD (i-1) []).getD 0 0)
   .rw[if_pos q,if_pos q]
   rw[if_neg q,if_neg q]
   obtain⟨k1,k2⟩:=EZ (l:=S.getD i []) hk ho (i:=(i:Int)) hg (S.getD i []).length
   dsimp only
   cases hm:mX W (S.getD i []) m (S.getD i []).length with
   |none=>exact k2 (.inl hm)
   |some m'=>
    cases hj:yT o (S.getD i []) g ((S.getD i []).length-1) with
    |none=>exact k2 (.inr hj)
    |some g'=>exact k1 m' g' hm hj
theorem Tp (h:G7 ow N g m s):O1 g=if 1<s.1.2.2.2 then 7 else 0:=by
 have ho:=h.rt.ok.one
 have hl:=h.len
 unfold O1
 by_cases q:∀x∈g,x=g.getD 0 0
 .rw[if_pos q,if_neg]
  intro w
  have:s.1.2.2.2<=1:=ho.2 fun a b ha hb=>by
   obtain⟨a0,a1⟩:=h.oQ a ha
   obtain⟨b0,b1⟩:=h.oQ b hb
   refine(h.eq a b a0 a1 b0 b1).1 ?_
   rw[q _ (af (l:=g) (i:=a.toNat) (d:=0) (by omega)),q _ (af (l:=g) (i:=b.toNat) (d:=0) (by omega))]
  omega
 rw[if_neg q,if_pos]
 refine Int.not_le.1 fun w=>q fun x hx=>?_
 obtain⟨j,hj,e⟩:=aB (z:=(0:Int)).1 hx
 have hr:=ho.1 w (j:Int) 0 (h.rt.all _ (by omega) (by omega)) (h.rt.all _ (by omega) (by omega))
 have:=(h.eq (j:Int) 0 (by omega) (by omega) (by omega) (by omega)).2 hr
 rw[Int.toNat_natCast,e] at this
 exact this
end
theorem Xj {W:List (Int×List Int)}{x:Int}:0<=dK W x↔∃w∈W,w.1=x:=by
 constructor
 .intro h
  have hb:=(IK W x).2
  refine⟨W.getD (dK W x).toNat (0,[]),af (by omega),?_⟩
  unfold dK pJ at h ⊢
  split at h
  .rename_i i hi
   exact of_decide_eq_true (List.find?_range_eq_some.1 hi).1
  omega
 rintro⟨w,hw,e⟩
 obtain⟨j,hj,e2⟩:=aB (z:=((0:Int),([]:List Int))).1 hw
 obtain⟨k,e3,_⟩:=tj (N:=W.length) (p:=fun i=>decide ((W.getD i (0,[])).1=x)) hj (decide_eq_true (by rw[e2];exact e))
 show 0<=pJ _ _
 rw[e3];omega
theorem Xk {W:List (Int×List Int)}{x:Int}(h:0<=dK W x):(W.getD (dK W x).toNat (0,[]))∈W/\(W.getD (dK W x).toNat (0,[])).1=x:=by
 have hb:=(IK W x).2
 refine⟨af (by omega),?_⟩
 unfold dK pJ at h ⊢
 split at h
 .rename_i i hi
  exact of_decide_eq_true (List.find?_range_eq_some.1 hi).1
 omega
theorem Jp {E:List (Int×Int)}{P:kQ}{W:List (Int×List Int)}(hk:(W.map (·.1)).Nodup){w:Int×List Int}:∀ {k:Nat},k<=W.length->w∈W.take k->ah (bL E P W k) w.1=some ((ah (um P P.length) (fV E w)).getD 0)
 |0,_,h=>by simp at h
 |k+1,hl,h=>by
  show ah (cB (bL E P W k) (W.getD k (0,[])).1 _) w.1=_
  rw[b6 (show k<W.length by omega) (0,[])] at h
  rw[bO]
  rcases List.mem_append.1 h with q|q
  .obtain⟨j,hj,e⟩:=aB (z:=((0:Int),([]:List Int))).1 q
   have hjk:j<k:=by rw[List.length_take] at hj;omega
   rw[List.getD_eq_getElem?_getD,List.getElem?_take_of_lt hjk,<-List.getD_eq_getElem?_getD] at e
   rw[if_neg]
   .exact Jp hk (by omega) q
   intro z
   rw[<-e] at z
   have hm:∀i,i<W.length->(W.map (·.1)).getD i 0=(W.getD i (0,[])).1:=fun i hi=>by rw[List.getD_eq_getElem?_getD,List.getElem?_map,List.getD_eq_getElem?_getD,List.getElem?_eq_getElem hi];rfl
   have:=eV (z:=0) hk (i:=k) (j:=j) (by rw[List.length_map];omega) (by rw[List.length_map];omega) (by rw[hm k (by omega),hm j (by omega)];exact z)
   omega
  rw[List.mem_singleton.1 q,if_pos rfl]
theorem E1 {n:Int}{E:List (Int×Int)}{V L:List Int}{T S:List (List Int)}:pK n E V L T S=bA n E V L T S:=by
 by_cases h:(bT n E V L T).2=0
 .by_cases hs:vq n E V L T=true
  .have hf:fW n E V L T=0:=by rw[td,if_neg (fun q=>q h),if_pos hs]
   obtain⟨hp,hT,_⟩:=fN h
   have hw:=bf hf
   obtain⟨_,_,hW⟩:=bS hw
   have hP:=fo hp
   have hkn:=yo hw
   rw[iV h hs rfl,tc hp,gq h]
   have hk:∀x,(ah (bL E (az n E V L) (aa n E V L T).1 (aa n E V L T).1.length) x).isSome=true↔0<=dK (aa n E V L T).1 x:=fun x=>by rw[G5 (Nat.le_refl _),List.take_length,Xj]
   have ho:∀x,(ah (bL E (az n E V L) (aa n E V L T).1 (aa n E V L T).1.length) x).isSome=true->(ah (bL E (az n E V L) (aa n E V L T).1 (aa n E V L T).1.length) x).getD 0=SL E (az n E V L) (aa n E V L T).1 x/\0<=SL E (az n E V L) (aa n E V L T).1 x/\SL E (az n E V L) (aa n E V L T).1 x<((az n E V L).length:Int):=fun x hx=>by
    obtain⟨m1,m2⟩:=Xk ((hk x).1 hx)
    obtain⟨o0,o1,o2⟩:=UM hp hP hW m1
    obtain⟨i,i1,i2,i3⟩:=Ca hP (qo hp hW m1)
    have hv:=Jp (E:=E) (P:=az n E V L) hkn (w:=(aa n E V L T).1.getD (dK (aa n E V L T).1 x).toNat (0,[])) (Nat.le_refl _) (by rw[List.take_length];exact m1)
    rw[m2,i3] at hv
    have hu:=hP.uq i (kR E (az n E V L) ((aa n E V L T).1.getD (dK (aa n E V L T).1 x).toNat (0,[]))).toNat i1 (by omega) _ i2 o2
    refine⟨?_,o0,o1⟩
    rw[hv]
    show(i:Int)=kR _ _ _
    omega
   have hr:=E0 (S:=S) hk ho S.length
   cases hq:Cs (SL E (az n E V L) (aa n E V L T).1) (aa n E V L T).1 S (az n E V L).length S.length with
   |none=>
    rw[hq] at hr
    rw[gE hf hr];rfl
   |some p=>
    rw[hq] at hr
    obtain⟨z,hz,hg⟩:=hr
    rw[nZ hf hz]
    exact Tp hg
  have Oy:vq n E V L T=false:=by simpa using hs
  have hf:fW n E V L T=6:=by rw[td,if_neg (fun q=>q h),if_neg hs]
  rw[AX h Oy,kO (by rw[hf];decide),hf]
 have hf:fW n E V L T=(bT n E V L T).2:=by rw[td,if_pos h]
 rw[AW h,kO (by rw[hf];exact h),hf]
end Go.Proofs.YtnfdimfepbbbpaaGreat
namespace Go.Proofs.YtnfdimfepbbbpaaGreat
open Go.RowKit
open Go.Proofs.YtnfdimfepbbbpaaGreat.Deep
theorem uF {f:Int->Int}{ds:List Int}{N:Nat}{w:Int×List Int}:∀ {k:Nat},k<=ds.length->(w∈v7 f ds N k↔∃j,j<k/\iT f (ds.getD j 0) (eL f (ds.getD j 0) N)=true/\w=(ds.getD j 0,kM f (ds.getD j 0) (eL f (ds.getD j 0) N)))
 |0,_=>⟨fun h=>(by cases h),fun⟨j,h,_⟩=>(by omega)⟩
 |k+1,hk=>by
  have ih:=uF (f:=f) (ds:=ds) (N:=N) (w:=w) (k:=k) (by omega)
  unfold v7
  by_cases q:iT f (ds.getD k 0) (eL f (ds.getD k 0) N)=true
  .rw[if_pos q,List.mem_append,ih,List.mem_singleton]
   constructor
   .rintro(⟨j,h1,h2⟩|e)
    .exact⟨j,by omega,h2⟩
    exact⟨k,Nat.lt_succ_self _,q,e⟩
   rintro⟨j,h1,h2,h3⟩
   rcases Nat.lt_succ_iff_lt_or_eq.1 h1 with z|z
   .exact .inl ⟨j,z,h2,h3⟩
   subst z;exact .inr h3
  rw[if_neg q,ih]
  constructor
  .rintro⟨j,h1,h2⟩;exact⟨j,by omega,h2⟩
  rintro⟨j,h1,h2,h3⟩
  rcases Nat.lt_succ_iff_lt_or_eq.1 h1 with z|z
  .exact⟨j,z,h2,h3⟩
  subst z;exact absurd h2 q
def Jq (w:Int×List Int)(d:Int):Prop:=d∈w.2\/(w.2.length=0/\w.1=d)
section
variable {f:Int->Int}{D:List Int}
theorem aah (hc:∀x∈D,f x∈D)(hi:∀x∈D,∀y∈D,f x=f y->x=y){w u:Int×List Int}{d:Int}(hw:w∈v7 f D D.length D.length)(hu:u∈v7 f D D.length D.length)(h1:d∈w.2)(h2:d∈u.2):w=u:=by
 obtain⟨i,i1,i2,rfl⟩:=(uF (Nat.le_refl _)).1 hw
 obtain⟨j,j1,j2,rfl⟩:=(uF (Nat.le_refl _)).1 hu
 have Tq:D.getD i 0∈D:=af i1
 have hxj:D.getD j 0∈D:=af j1
 generalize D.getD i 0=x at*
 generalize D.getD j 0=y at*
 have h1:=(iS hc hi Tq).1 h1
 have h2:=(iS hc hi hxj).1 h2
 have key:∀x y,x∈D->y∈D->lq f x y->iT f x (eL f x D.length)=true->x<=y:=fun x y hx hy ho hl=>by
  have:=(iS hc hi hx).2 ho
  unfold kM at this
  obtain⟨k,hk,e⟩:=List.mem_map.1 this
  have hk:=List.mem_range.1 hk
  by_cases z:k=0
  .subst z;exact Int.le_of_eq e
  have:=qp.1 hl k (by omega) hk
  rw[e] at this;omega
 have a:=key x y Tq hxj (h1.trans (h2.symm hc hi hxj)) i2
 have b:=key y x hxj Tq (h2.trans (h1.symm hc hi Tq)) j2
 rw[show x=y by omega]
theorem aai (ha:BZ D)(hc:∀x∈D,f x∈D)(hi:∀x∈D,∀y∈D,f x=f y->x=y){d:Int}(hd:d∈D):∃w∈v7 f D D.length D.length,d∈w.2:=by
 classical
 obtain⟨k,hk,e⟩:=aB (z:=(0:Int)).1 hd
 obtain⟨i,_,hik,hp⟩:=tj (N:=D.length) (p:=fun i=>decide (lq f (D.getD i 0) d)) hk (decide_eq_true (by rw[e];exact lq.refl d))
 rename_i hfi
 have hp:=of_decide_eq_true hp
 have Tq:D.getD i 0∈D:=af (by omega)
 obtain⟨p0,p1,p2,p3⟩:=rR hc hi Tq
 refine⟨_,(uF (Nat.le_refl _)).2 ⟨i,by omega,qp.2 fun j j0 j1=>?_,rfl⟩,(iS hc hi Tq).2 hp⟩
 have hm:=jM hc Tq j
 obtain⟨q,hq,eq⟩:=aB (z:=(0:Int)).1 hm
 have ho:lq f (D.getD q 0) d:=by rw[eq];exact(lq.symm hc hi Tq ⟨j,rfl⟩).trans hp
 have hle:i<=q:=by
  obtain⟨i',e',hq',_⟩:=tj (N:=D.length) (p:=fun i=>decide (lq f (D.getD i 0) d)) hq (decide_eq_true ho)
  have:(i:Int)=(i':Int):=hfi.symm.trans e'
  omega
 have dL:q≠i:=fun z=>p3 j j0 j1 (by rw[<-eq,z])
 rw[<-eq]
 rw[getD_eq (show i<D.length by omega),getD_eq (show q<D.length by omega)]
 exact List.pairwise_iff_getElem.1 ha _ _ (by omega) (by omega) (by omega)
end
section
variable {n:Int}{E:List (Int×Int)}{V L:List Int}{T S:List (List Int)}
theorem CK {V:List Int}{T:List (List Int)}:∀ {k j:Nat},j<k->(T.getD (V.getD (V.length-1-j) 0).toNat []).length=0->(-1-V.getD (V.length-1-j) 0,[])∈tK V T k
 |k+1,j,hj,h=>by
  unfold tK
  rcases Nat.lt_succ_iff_lt_or_eq.1 hj with z|z
  .split
   .exact List.mem_append_left _ (CK z h)
   exact CK z h
  subst z
  rw[if_pos h]
  exact List.mem_append_right _ (List.mem_singleton.2 rfl)
structure WkU (L V:List Int)(T:List (List Int))(W:List (Int×List Int)):Prop where
 ex:∀d,aU L d->∃w∈W,d∈w.2
 lone:∀v∈V,(T.getD v.toNat []).length=0->(-1-v,[])∈W
 uq:∀w∈W,∀u∈W,∀d,Jq w d->Jq u d->w=u
 hd:∀w∈W,∀d,w.1=d\/d∈w.2->Jq w d
theorem Bf (h:(aa n E V L T).2=0):WkU L V T (aa n E V L T).1/\∀w∈(aa n E V L T).1,∀d∈w.2,fF E T d∈w.2:=by
 have hk:=yo h
 have h0:=h
 rw[dm] at h
 obtain⟨hp,hT,_⟩:=fN h
 obtain⟨_,hV,hL,_⟩:=aD hp
 have hD:∀x∈dA L L.length,aU L x:=fun x hx=>(cO x).1 hx
 have hc:∀x∈dA L L.length,fF E T x∈dA L L.length:=fun x hx=>by
  rw[jL hp hT (hD x hx)];exact(cO _).2 (jk hp hT (hD x hx)).1
 have hi:∀x∈dA L L.length,∀y∈dA L L.length,fF E T x=fF E T y->x=y:=fun x hx y hy e=>by
  rw[jL hp hT (hD x hx),jL hp hT (hD y hy)] at e;exact xZ hp hT (hD x hx) (hD y hy) e
 have ha:=Ce (aG.1 hL).1 (Nat.le_refl _)
 rw[fH h] at hk ⊢
 have Tc:∀w∈tK V T V.length,w.2.length=0/\w.1<0:=fun w hw=>by
  have:=qn (Nat.le_refl _) w hw
  have:=(aG.1 hV).2 _ this.2
  exact⟨by omega,by omega⟩
 have hrw:∀w∈v7 (fF E T) (dA L L.length) (dA L L.length).length (dA L L.length).length,w.1∈w.2/\∀d∈w.2,0<=d:=fun w hw=>by
  obtain⟨i,i1,i2,rfl⟩:=(uF (Nat.le_refl _)).1 hw
  have hx:(dA L L.length).getD i 0∈dA L L.length:=af i1
  refine⟨(iS hc hi hx).2 (lq.refl _),fun d hd=>?_⟩
  obtain⟨k,e⟩:=(iS hc hi hx).1 hd
  have:=jM hc hx k
  rw[e] at this
  exact(cv hp (hD _ this)).2.1
 refine⟨⟨fun d hd=>?_,fun v hv hT0=>?_,fun w hw u hu d h1 h2=>?_,fun w hw d Tj=>?_⟩,fun w hw d hd=>?_⟩
 .obtain⟨w,hw,hx⟩:=aai ha hc hi ((cO d).2 hd)
  exact⟨w,List.mem_append_right _ hw,hx⟩
 .obtain⟨j,hj,e⟩:=aB (z:=(0:Int)).1 hv
  have:=CK (V:=V) (T:=T) (k:=V.length) (j:=V.length-1-j) (by omega)
  rw[show V.length-1-(V.length-1-j)=j by omega,e] at this
  exact List.mem_append_left _ (this hT0)
 .rcases List.mem_append.1 hw with a|a<;>rcases List.mem_append.1 hu with b|b
  .have Fj:=(Tc w a).1
   have Y2:=(Tc u b).1
   have e1:w.1=d:=h1.elim (fun z=>by rw[List.eq_nil_of_length_eq_zero Fj] at z;cases z) And.right
   have e2:u.1=d:=h2.elim (fun z=>by rw[List.eq_nil_of_length_eq_zero Y2] at z;cases z) And.right
   exact Prod.ext (e1.trans e2.symm) ((List.eq_nil_of_length_eq_zero Fj).trans (List.eq_nil_of_length_eq_zero Y2).symm)
  .exfalso
   have Fj:=Tc w a
   have e1:w.1=d:=h1.elim (fun z=>by rw[List.eq_nil_of_length_eq_zero Fj.1] at z;cases z) And.right
   have:=(hrw u b)
   have:=h2.elim (fun z=>this.2 d z) fun z=>by rw[List.eq_nil_of_length_eq_zero z.1] at this;cases this.1
   omega
  .exfalso
   have Fj:=Tc u b
   have e1:u.1=d:=h2.elim (fun z=>by rw[List.eq_nil_of_length_eq_zero Fj.1] at z;cases z) And.right
   have:=(hrw w a)
   have:=h1.elim (fun z=>this.2 d z) fun z=>by rw[List.eq_nil_of_length_eq_zero z.1] at this;cases this.1
   omega
  have e1:d∈w.2:=h1.elim id fun z=>by have:=(hrw w a).1;rw[List.eq_nil_of_length_eq_zero z.1] at this;cases this
  have e2:d∈u.2:=h2.elim id fun z=>by have:=(hrw u b).1;rw[List.eq_nil_of_length_eq_zero z.1] at this;cases this
  exact aah hc hi a b e1 e2
 .rcases Tj with z|z
  .rcases List.mem_append.1 hw with a|a
   .exact .inr ⟨(Tc w a).1,z⟩
   exact .inl (z▸(hrw w a).1)
  exact .inl z
 rcases List.mem_append.1 hw with a|a
 .rw[List.eq_nil_of_length_eq_zero (Tc w a).1] at hd;cases hd
 obtain⟨i,i1,i2,rfl⟩:=(uF (Nat.le_refl _)).1 a
 have hx:(dA L L.length).getD i 0∈dA L L.length:=af i1
 exact(iS hc hi hx).2 (((iS hc hi hx).1 hd).trans ⟨1,rfl⟩)
theorem PL {num m:List (Int×Int)}{w:Int×List Int}(d:Int)[Decidable (Jq w d)]:ah (KX num m w) d=if Jq w d then some ((ah num w.1).getD 0) else ah m d:=by
 have h1:ah (qJ m w.2 ((ah num w.1).getD 0) w.2.length) d=if d∈w.2 then some ((ah num w.1).getD 0) else ah m d:=by rw[kL (Nat.le_refl _),List.take_length]
 unfold KX
 split
 .rename_i q
  have e:w.2=[]:=List.eq_nil_of_length_eq_zero q
  rw[bO,h1]
  by_cases z:w.1=d
  .rw[if_pos z,if_pos (show Jq w d from .inr ⟨q,z⟩)]
  rw[if_neg z,if_neg (by rw[e];exact List.not_mem_nil),if_neg]
  rintro(y|y)
  .rw[e] at y;cases y
  exact z y.2
 rename_i q
 rw[h1]
 by_cases z:d∈w.2
 .rw[if_pos z,if_pos (show Jq w d from .inl z)]
 rw[if_neg z,if_neg fun y=>y.elim z fun y=>q y.1]
theorem PM {num:List (Int×Int)}{W:List (Int×List Int)}(hu:∀w∈W,∀u∈W,∀d,Jq w d->Jq u d->w=u){w:Int×List Int}{d:Int}(hd:Jq w d)(hW:w∈W):∀ {k:Nat},k<=W.length->w∈W.take k->ah (Cx num W k) d=some ((ah num w.1).getD 0)
 |0,_,h=>by simp at h
 |k+1,hk,h=>by
  classical
  show ah (KX num (Cx num W k) (W.getD k (0,[]))) d=_
  rw[PL]
  by_cases q:Jq (W.getD k (0,[])) d
  .rw[if_pos q,hu _ (af (by omega)) w hW d q hd]
  rw[if_neg q]
  refine PM hu hd hW (by omega) ?_
  rw[b6 (show k<W.length by omega) (0,[])] at h
  rcases List.mem_append.1 h with z|z
  .exact z
  rw[List.mem_singleton.1 z] at hd;exact absurd hd q
theorem wB {W:List (Int×List Int)}{d:Int}(hu:WkU L V T W){w:Int×List Int}(hw:w∈W)(hd:Jq w d):qL W d=(w.1,true):=by
 obtain⟨j,hj,e⟩:=aB (z:=((0:Int),([]:List Int))).1 hw
 have hp:((W.getD j (0,[])).1=d\/d∈(W.getD j (0,[])).2):=by rw[e];exact hd.elim .inr fun z=>.inl z.2
 unfold qL
 cases hq:(List.range W.length).find? fun i=>decide ((W.getD i (0,[])).1=d)||decide (d∈(W.getD i (0,[])).2) with
 |none=>
  rw[List.find?_eq_none] at hq
  have:=hq j (List.mem_range.2 hj)
  simp only[Bool.or_eq_true,decide_eq_true_eq] at this
  exact absurd hp this
 |some i=>
  have hi:=List.find?_range_eq_some.1 hq
  have Vd:=List.mem_range.1 hi.2.1
  have h1:=hi.1
  simp only[Bool.or_eq_true,decide_eq_true_eq] at h1
  have hm:W.getD i (0,[])∈W:=af Vd
  show((W.getD i (0,[])).1,true)=_
  rw[hu.uq _ hm w hw d (hu.hd _ hm d h1) hd]
theorem Jr {R:List (List Int)}{x:Int}{i:Nat}(hx:x∈R.getD i []):∀ {k:Nat},i<k->(∀j,j<k->x∈R.getD j []->j=i)->ah (e6 R k) x=some (i:Int)
 |k+1,hk,hu=>by
  show ah (qJ (e6 R k) (R.getD k []) (k:Int) (R.getD k []).length) x=_
  rw[kL (Nat.le_refl _),List.take_length]
  by_cases q:x∈R.getD k []
  .rw[if_pos q,hu k (Nat.lt_succ_self _) q]
  rw[if_neg q]
  have:i≠k:=fun e=>q (e▸hx)
  exact Jr hx (by omega) fun j hj=>hu j (by omega)
theorem PN {R:List (List Int)}{x:Int}{i:Nat}(hi:i<R.length)(hx:x∈R.getD i [])(hu:∀j,j<R.length->x∈R.getD j []->j=i):pJ R.length (fun i=>decide (x∈R.getD i []))=(i:Int):=by
 obtain⟨j,e,hj,hq⟩:=tj (p:=fun i=>decide (x∈R.getD i [])) hi (decide_eq_true hx)
 rw[e,hu j (by omega) (of_decide_eq_true hq)]
theorem Js (h:bA n E V L T S=0){w:Int×List Int}(hw:w∈(aa n E V L T).1):∃i,i<(cA n E V L T S).length/\w.1∈(cA n E V L T S).getD i []/\∀j,j<(cA n E V L T S).length->w.1∈(cA n E V L T S).getD j []->j=i:=by
 obtain⟨hf,z,hz,_⟩:=bH h
 obtain⟨m1,m2,m3⟩:=yC hz
 have aaj:=Jn h
 obtain⟨sub,b1,b2,b3⟩:=pL (m:=e6 S S.length) (W:=(aa n E V L T).1) (Nat.le_refl _)
 have dX:∀x,x∈cA n E V L T S↔x∈S\/x∈Cu (e6 S S.length) (aa n E V L T).1 (aa n E V L T).1.length:=fun x=>by rw[qD h,Cw];exact List.mem_append
 have hex:∃x∈cA n E V L T S,w.1∈x:=by
  cases hq:(ah (e6 S S.length) w.1).isSome with
  |true=>
   obtain⟨j,hj,hx⟩:=(qC (Nat.le_refl _) w.1).1 hq
   exact⟨_,(dX _).2 (.inl (af hj)),hx⟩
  |false=>
   obtain⟨k,hk,e2⟩:=aB (z:=((0:Int),([]:List Int))).1 hw
   exact⟨_,(dX _).2 (.inr (PK hk (by rw[e2];exact hq) e2)),List.mem_singleton.2 rfl⟩
 have huq:∀x∈cA n E V L T S,∀y∈cA n E V L T S,w.1∈x->w.1∈y->x=y:=fun x hx y hy h1 h2=>by
  have y5:∀x∈S,w.1∈x->∀y,y∈Cu (e6 S S.length) (aa n E V L T).1 (aa n E V L T).1.length->w.1∈y->False:=fun x hx h1 y hy h2=>by
   rw[b2] at hy
   obtain⟨q,hq,rfl⟩:=List.mem_map.1 hy
   have e:w.1=q:=List.mem_singleton.1 h2
   obtain⟨j,hj,e2⟩:=aB (z:=([]:List Int)).1 hx
   have:=(qC (Nat.le_refl S.length) q).2 ⟨j,hj,by rw[e2,<-e];exact h1⟩
   rw[b3 _ hq] at this;cases this
  rcases(dX x).1 hx with a|a<;>rcases(dX y).1 hy with b|b
  .obtain⟨i,hi,ei⟩:=aB (z:=([]:List Int)).1 a
   obtain⟨j,hj,ej⟩:=aB (z:=([]:List Int)).1 b
   rcases Nat.lt_trichotomy i j with q|q|q
   .exact absurd (ej▸h2) (m3 i j q hj _ (ei▸h1))
   .rw[<-ei,<-ej,q]
   exact absurd (ei▸h1) (m3 j i q hi _ (ej▸h2))
  .exact(y5 x a h1 y b h2).elim
  .exact(y5 y b h2 x a h1).elim
  rw[b2] at a b
  obtain⟨p,_,rfl⟩:=List.mem_map.1 a
  obtain⟨q,_,rfl⟩:=List.mem_map.1 b
  have e1:w.1=p:=List.mem_singleton.1 h1
  have e2:w.1=q:=List.mem_singleton.1 h2
  rw[<-e1,<-e2]
 obtain⟨x,hx,hwx⟩:=hex
 obtain⟨i,hi,e⟩:=aB (z:=([]:List Int)).1 hx
 refine⟨i,hi,by rw[e];exact hwx,fun j hj r7=>?_⟩
 have e3:=huq _ (af (l:=cA n E V L T S) (i:=j) (d:=[]) hj) x hx r7 hwx
 have e4:(cA n E V L T S).getD j []=(cA n E V L T S).getD i []:=e3.trans e.symm
 rcases Nat.lt_trichotomy i j with q|q|q
 .exfalso
  have:=List.pairwise_iff_getElem.1 aaj i j hi hj q
  rw[<-getD_eq hi [],<-getD_eq hj [],e4] at this
  exact Int.lt_irrefl _ this
 .exact q.symm
 exfalso
 have:=List.pairwise_iff_getElem.1 aaj j i hj hi q
 rw[<-getD_eq hi [],<-getD_eq hj [],e4] at this
 exact Int.lt_irrefl _ this
theorem aak (h:bA n E V L T S=0){w:Int×List Int}(hw:w∈(aa n E V L T).1){d:Int}(hd:Jq w d):0<=OH (ax E V L T) (sg S (ax E V L T) (ax E V L T).length) d:=by
 have lU:=bf (bH h).1
 have hu:=(Bf lU).1
 have nk:(bT n E V L T).2=0:=by rw[<-dm];exact lU
 rw[UU h,gq nk]
 obtain⟨i,hi,hx,hq⟩:=Js h hw
 unfold OH
 rw[wB hu hw hd,PN hi hx hq]
 exact Int.natCast_nonneg _
theorem left_at (h:bA n E V L T S=0){w:Int×List Int}(hw:w∈(aa n E V L T).1){d:Int}(hd:Jq w d):ah (aQ n E V L T S) d=some (OH (ax E V L T) (sg S (ax E V L T) (ax E V L T).length) d):=by
 have lU:=bf (bH h).1
 have hu:=(Bf lU).1
 have nk:(bT n E V L T).2=0:=by rw[<-dm];exact lU
 rw[UU h,gq nk]
 obtain⟨i,hi,hx,hq⟩:=Js h hw
 rw[tw h,PM hu.uq hd hw (Nat.le_refl _) (by rw[List.take_length];exact hw),Jr hx hi hq]
 unfold OH
 rw[wB hu hw hd,PN hi hx hq];rfl
theorem j8 (h:bA n E V L T S=0){d:Int}(hd:aU L d):ah (aQ n E V L T S) d=some (OH (ax E V L T) (sg S (ax E V L T) (ax E V L T).length) d):=by
 obtain⟨w,hw,hx⟩:=(Bf (bf (bH h).1)).1.ex d hd
 exact left_at h hw (.inl hx)
theorem Le (h:bA n E V L T S=0){v:Int}(hv:v∈V)(hT:(T.getD v.toNat []).length=0):ah (aQ n E V L T S) (-1-v)=some (OH (ax E V L T) (sg S (ax E V L T) (ax E V L T).length) (-1-v)):=
 left_at h ((Bf (bf (bH h).1)).1.lone v hv hT) (.inr ⟨rfl,rfl⟩)
end
end Go.Proofs.YtnfdimfepbbbpaaGreat
namespace Go.Proofs.YtnfdimfepbbbpaaGreat
open Go.RowKit
open Go.Proofs.YtnfdimfepbbbpaaGreat.Deep
inductive uG (R:Int->Int->Prop):Int->Int->Prop
 |of {a b:Int} (h:R a b):uG R a b
 |id (a:Int):uG R a a
 |sy {a b:Int} (h:uG R a b):uG R b a
 |tr {a b c:Int} (h:uG R a b) (k:uG R b c):uG R a c
theorem uG.mono {R S:Int->Int->Prop}(h:∀a b,R a b->S a b){a b:Int}(k:uG R a b):uG S a b:=by
 induction k with
 |of q=>exact .of (h _ _ q)
 |id a=>exact .id a
 |sy _ ih=>exact ih.sy
 |tr _ _ i1 i2=>exact i1.tr i2
def Ts (left on:List (Int×Int))(L:List Int)(k:Nat)(a b:Int):Prop:=∃j,j<k/\(ah on (L.getD j 0)).isSome=false/\a=(ah left (2*L.getD j 0)).getD 0/\b=(ah left (2*L.getD j 0+1)).getD 0
section
variable {left on:List (Int×Int)}{L ds:List Int}{s:S4}
theorem UW:∀k,(∀a b,Rl (jF left on L k) a b->uG (Ts left on L k) a b)/\∀a b,Ts left on L k a b->Rl (jF left on L k) a b
 |0=>⟨fun a b ⟨i,j,h,_⟩=>(by cases h),fun a b ⟨j,h,_⟩=>(by omega)⟩
 |k+1=>by
  obtain⟨h1,h2⟩:=UW k
  have hm:∀a b,Ts left on L k a b->Ts left on L (k+1) a b:=fun a b ⟨j,q,r⟩=>⟨j,by omega,r⟩
  have eE:=(A7 (left:=left) (on:=on) (L:=L) k).1
  unfold jF
  by_cases q:(ah on (L.getD k 0)).isSome=true
  .rw[if_pos q]
   refine⟨fun a b h=>(h1 a b h).mono hm,fun a b ⟨j,j1,j2,j3⟩=>h2 a b ⟨j,?_,j2,j3⟩⟩
   rcases Nat.lt_succ_iff_lt_or_eq.1 j1 with w|w
   .exact w
   subst w;rw[q] at j2;cases j2
  rw[if_neg q]
  have q2:(ah on (L.getD k 0)).isSome=false:=by simpa using q
  generalize hx:(ah left (2*L.getD k 0)).getD 0=x
  generalize hy:(ah left (2*L.getD k 0+1)).getD 0=y
  have hj:=(eE.jn x y).2.2
  have Yk:=eE.add x
  have RX:=Yk.1.add y
  have lM:∀a b,Rl (cQ (cQ (jF left on L k) x) y) a b->uG (Ts left on L (k+1)) a b:=fun a b h=>by
   rcases(RX.2 a b).1 h with z|⟨z1,z2⟩
   .rcases(Yk.2 a b).1 z with w|⟨w1,w2⟩
    .exact(h1 a b w).mono hm
    rw[w1,w2];exact .id _
   rw[z1,z2];exact .id _
  have HR:uG (Ts left on L (k+1)) x y:=.of ⟨k,Nat.lt_succ_self _,q2,hx.symm,hy.symm⟩
  have hxx:Rl (cQ (cQ (jF left on L k) x) y) x x:=(RX.2 x x).2 (.inl ((Yk.2 x x).2 (.inr ⟨rfl,rfl⟩)))
  have hyy:Rl (cQ (cQ (jF left on L k) x) y) y y:=(RX.2 y y).2 (.inr ⟨rfl,rfl⟩)
  refine⟨fun a b h=>?_,fun a b ⟨j,j1,j2,j3,j4⟩=>?_⟩
  .rcases(hj a b).1 h with z|⟨z1,z2⟩|⟨z1,z2⟩
   .exact lM a b z
   .exact((lM _ _ z1).tr HR).tr (lM _ _ z2)
   exact((lM _ _ z1).tr HR.sy).tr (lM _ _ z2)
  rcases Nat.lt_succ_iff_lt_or_eq.1 j1 with w|w
  .exact(hj a b).2 (.inl ((RX.2 a b).2 (.inl ((Yk.2 a b).2 (.inl (h2 a b ⟨j,w,j2,j3,j4⟩))))))
  subst w
  rw[j3,j4,hx,hy]
  exact(hj x y).2 (.inr (.inl ⟨hxx,hyy⟩))
theorem PO (h:pH s):∀k,∀a b,(a=b\/Rl (KY left ds s k) a b)↔(a=b\/Rl s a b)
 |0,a,b=>Iff.rfl
 |k+1,a,b=>by
  have ih:=PO h k a b
  have ho:=(CC (left:=left) (ds:=ds) h k).1
  rw[<-ih]
  show(a=b\/Rl (cQ (cQ (KY left ds s k) _) _) a b)↔_
  rw[((ho.add _).1.add _).2,(ho.add _).2]
  constructor
  .rintro(z|(z|⟨z1,z2⟩)|⟨z1,z2⟩)
   .exact .inl z
   .exact .inr z
   .exact .inl (z1.trans z2.symm)
   exact .inl (z1.trans z2.symm)
  rintro(z|z)
  .exact .inl z
  exact .inr (.inl (.inl z))
theorem Tt (a b:Int):(a=b\/Rl (dF left L ds) a b)↔uG (Ts left (zo ds ds.length) L L.length) a b:=by
 have eE:=(A7 (left:=left) (on:=zo ds ds.length) (L:=L) L.length).1
 obtain⟨h1,h2⟩:=UW (left:=left) (on:=zo ds ds.length) (L:=L) L.length
 show(a=b\/Rl (KY _ _ _ _) a b)↔_
 rw[PO eE]
 constructor
 .rintro(z|z)
  .rw[z];exact .id _
  exact h1 a b z
 intro h
 induction h with
 |of q=>exact .inr (h2 _ _ q)
 |id a=>exact .inl rfl
 |sy _ ih=>exact ih.imp Eq.symm Rl.symm
 |tr _ _ i1 i2=>
  rcases i1 with z|z
  .rw[z];exact i2
  rcases i2 with w|w
  .rw[<-w];exact .inr z
  exact .inr (z.trans w)
theorem Tu {head r:Int}:KZ (dF left L ds) head r=1↔uG (Ts left (zo ds ds.length) L L.length) r head:=by
 rw[<-Tt]
 have h0:=((I1 left L ds).1.sm r head).2.2
 unfold KZ
 by_cases q:r=head\/GJ (dF left L ds) r head=true
 .rw[if_pos q];exact⟨fun _=>q.imp (fun z=>z) h0.1,fun _=>rfl⟩
 rw[if_neg q];exact⟨fun z=>absurd z (by decide),fun z=>absurd (z.imp (fun w=>w) h0.2) q⟩
end
end Go.Proofs.YtnfdimfepbbbpaaGreat
namespace Go.Proofs.YtnfdimfepbbbpaaGreat
open Go.RowKit
open Go.Proofs.YtnfdimfepbbbpaaGreat.Deep
theorem PR {ds:List Int}{e:Int}:∀ {k:Nat},(ah (zo ds k) e).isSome=true↔∃j,j<k/\ds.getD j 0/2=e
 |0=>⟨fun h=>(by cases h),fun⟨j,h,_⟩=>(by omega)⟩
 |k+1=>by
  show(ah (cB (zo ds k) (ds.getD k 0/2) (k:Int)) e).isSome=true↔_
  rw[bO]
  by_cases q:ds.getD k 0/2=e
  .rw[if_pos q];exact⟨fun _=>⟨k,Nat.lt_succ_self _,q⟩,fun _=>rfl⟩
  rw[if_neg q,PR (k:=k)]
  exact⟨fun⟨j,h1,h2⟩=>⟨j,by omega,h2⟩,fun⟨j,h1,h2⟩=>⟨j,by
   rcases Nat.lt_succ_iff_lt_or_eq.1 h1 with z|z
   .exact z
   subst z;exact absurd h2 q,h2⟩⟩
theorem PS {ds:List Int}{e:Int}:(ah (zo ds ds.length) e).isSome=Cm ds e:=by
 have h:=PR (ds:=ds) (e:=e) (k:=ds.length)
 have h2:Cm ds e=true↔_:=decide_eq_true_iff (p:=∃j,j<ds.length/\ds.getD j 0/2=e)
 have:=h.trans h2.symm
 cases h1:(ah (zo ds ds.length) e).isSome<;>cases h3:Cm ds e<;>simp_all
def QO (L:List Int)(lf:Int->Int)(ds:List Int)(a b:Int):Prop:=∃e∈L,Cm ds e=false/\a=lf (2*e)/\b=lf (2*e+1)
theorem uG.iff {R S:Int->Int->Prop}(h:∀a b,R a b↔S a b){a b:Int}:uG R a b↔uG S a b:=⟨.mono fun a b=>(h a b).1,.mono fun a b=>(h a b).2⟩
theorem Tv {N:Nat}{L ds:List Int}{lf:Int->Int}(hL:∀e∈L,0<=e/\e<(N:Int))(Ut:∀e∈L,0<=lf (2*e)/\0<=lf (2*e+1))(h0:0<=lf (ds.getD 0 0)){x:Int}:x∈EJ N L lf ds↔uG (QO L lf ds) x (lf (ds.getD 0 0)):=by
 unfold EJ
 rw[pq (by omega)]
 have Gf:∀a b,(zb (II N lf) (iY L ds)).vo a b->QO L lf ds a b\/QO L lf ds b a:=by
  rintro a b ⟨f,hf,hj⟩
  have QD:=List.mem_filter.1 (show f∈L.filter _ from hf)
  have hb:=hL f QD.1
  have hon:Cm ds f=false:=by have:=QD.2;simpa using this
  obtain⟨e1,e2⟩:=Cr (lf:=lf) hb.1 hb.2
  rcases hj with⟨q1,q2⟩|⟨q1,q2⟩
  .exact .inl ⟨f,QD.1,hon,q1.symm.trans e1,q2.symm.trans e2⟩
  exact .inr ⟨f,QD.1,hon,q1.symm.trans e1,q2.symm.trans e2⟩
 have dL:∀a b,QO L lf ds a b->a≠-1/\b≠-1/\(zb (II N lf) (iY L ds)).vo a b:=by
  rintro a b ⟨e,he,ho,rfl,rfl⟩
  have:=Ut e he
  have hb:=hL e he
  obtain⟨e1,e2⟩:=Cr (lf:=lf) hb.1 hb.2
  exact⟨by omega,by omega,e,List.mem_filter.2 ⟨he,by rw[ho];rfl⟩,.inl ⟨e1,e2⟩⟩
 constructor
 .intro h
  induction h with
  |refl _=>exact .id _
  |step _ ha _ ih=>exact(Gf _ _ ha).elim (fun q=>(uG.of q).sy.tr ih) fun q=>(uG.of q).tr ih
 intro h
 have key:∀a b,uG (QO L lf ds) a b->a=b\/(zb (II N lf) (iY L ds)).iB (· ≠-1) b a:=fun a b h=>by
  induction h with
  |of q=>have:=dL _ _ q;exact .inr (Gr.iB.one this.2.1 this.2.2.symm this.1)
  |id a=>exact .inl rfl
  |sy _ ih=>exact ih.elim (fun e=>.inl e.symm) fun q=>.inr q.symm
  |tr _ _ i1 i2=>
   rcases i1 with e|q
   .rw[e];exact i2
   rcases i2 with e|w
   .rw[<-e];exact .inr q
   exact .inr (w.trans q)
 rcases key _ _ h with e|q
 .rw[e];exact .refl (by omega)
 exact q
section
variable {n:Int}{E:List (Int×Int)}{V L:List Int}{T S:List (List Int)}{ds:List Int}
theorem uH (h:bA n E V L T S=0){d:Int}(hd:aU L d):0<=e8 E V L T S d:=by
 obtain⟨w,hw,hx⟩:=(Bf (bf (bH h).1)).1.ex d hd
 exact aak h hw (.inl hx)
theorem vh {e:Int}(he:e∈L):aU L (2*e)/\aU L (2*e+1):=⟨by unfold aU;rw[show 2*e/2=e by omega];exact he,by unfold aU;rw[show(2*e+1)/2=e by omega];exact he⟩
theorem Tw (h:bA n E V L T S=0)(a b:Int):Ts (aQ n E V L T S) (zo ds ds.length) L L.length a b↔QO L (e8 E V L T S) ds a b:=by
 constructor
 .rintro⟨j,hj,ho,ha,hb⟩
  have he:L.getD j 0∈L:=af hj
  rw[j8 h (vh he).1] at ha
  rw[j8 h (vh he).2] at hb
  rw[PS] at ho
  exact⟨_,he,ho,ha,hb⟩
 rintro⟨e,he,ho,ha,hb⟩
 obtain⟨j,hj,rfl⟩:=aB (z:=(0:Int)).1 he
 exact⟨j,hj,by rw[PS];exact ho,by rw[j8 h (vh he).1];exact ha,by rw[j8 h (vh he).2];exact hb⟩
theorem PT (h:bA n E V L T S=0){d:Int}(hd:aU L d):e8 E V L T S (u6 E L T d)=e8 E V L T S d:=by
 have lU:=bf (bH h).1
 have nk:(bT n E V L T).2=0:=by rw[<-dm];exact lU
 obtain⟨hp,hT,_⟩:=fN nk
 obtain⟨hu,hx⟩:=Bf lU
 obtain⟨w,hw,hdw⟩:=hu.ex d hd
 have h2:=hx w hw d hdw
 rw[jL hp hT hd] at h2
 unfold e8 OH
 rw[gq nk,wB hu hw (.inl hdw),wB hu hw (.inl h2)]
theorem E3 (h:bA n E V L T S=0){v:Int}(hv:v∈V)(d:Int):d∈T.getD v.toNat []↔d∈aR E L v:=by
 have lU:=bf (bH h).1
 rw[dm] at lU
 obtain⟨hp,hT,_⟩:=fN lU
 obtain⟨_,hV,_,_⟩:=aD hp
 have hb:=(aG.1 hV).2 _ hv
 have hl:=hT.len
 rw[hT.mem v.toNat (by omega),dH,Int.toNat_of_nonneg hb.1];rfl
theorem PU (hc:mV n E V L ds=true){d:Int}(hd:Cm ds (d/2)=true):∃j,j<ds.length/\ak E (ds.getD j 0)=ak E d:=by
 obtain⟨hp,dL,oG,hk⟩:=of_decide_eq_true (p:=yg n E V L ds) hc
 obtain⟨j,hj,e⟩:=of_decide_eq_true (p:=∃j,j<ds.length/\ds.getD j 0/2=d/2) hd
 by_cases q:ds.getD j 0=d
 .exact⟨j,hj,by rw[q]⟩
 have et:aq (ds.getD j 0)=d:=by unfold aq;split<;>omega
 by_cases q2:j+1<ds.length
 .refine⟨j+1,q2,?_⟩
  have:=hk.1 (j+1) q2
  rw[<-this]
  unfold EG
  rw[if_neg (by omega),Nat.add_sub_cancel,et]
 refine⟨0,by omega,?_⟩
 have:=hk.1 0 (by omega)
 rw[<-this]
 unfold EG
 rw[if_pos rfl,show ds.length-1=j by omega,et]
theorem PV (h:bA n E V L T S=0)(hc:mV n E V L ds=true){v:Int}(hv:v∈V)(Du:Wm E ds v=false){d e:Int}(hd:d∈aR E L v)(he:e∈aR E L v):uG (QO L (e8 E V L T S) ds) (e8 E V L T S d) (e8 E V L T S e):=by
 have lU:=bf (bH h).1
 rw[dm] at lU
 obtain⟨hp,hT,_⟩:=fN lU
 obtain⟨_,hV,_,_⟩:=aD hp
 have hb:=(aG.1 hV).2 _ hv
 have hl:=hT.len
 have Lv:=hT.nd v.toNat (by omega)
 have dX:=E3 h hv
 generalize e7:T.getD v.toNat []=l at*
 have tI:∀j,j+1<l.length->uG (QO L (e8 E V L T S) ds) (e8 E V L T S (l.getD (j+1) 0)) (e8 E V L T S (l.getD j 0)):=fun j hj=>by
  have hx:l.getD (j+1) 0∈l:=af hj
  generalize hxe:l.getD (j+1) 0=x at*
  obtain⟨Q9,MK⟩:=dH.1 ((dX x).1 hx)
  have Q1:aU L x:=Q9
  have htd:=fL.2 Q1
  have US:=mI hp hT htd
  rw[Em,MK,e7] at US
  have abo:sV l x (l.getD j 0):=⟨j+1,hj,hxe,by rw[show j+1+l.length-1=j+l.length by omega,Nat.add_mod_right,Nat.mod_eq_of_lt (by omega)]⟩
  have e1:=Ej Lv US abo
  have e2:=PT h htd
  rw[e1] at e2
  rw[e2]
  have hon:Cm ds (x/2)=false:=by
   cases hq:Cm ds (x/2) with
   |false=>rfl
   |true=>
    obtain⟨j,hj,ej⟩:=PU hc hq
    have:Wm E ds v=true:=decide_eq_true ⟨j,hj,by rw[ej,MK]⟩
    rw[Du] at this;cases this
  by_cases q:x%2=0
  .exact .of ⟨x/2,Q9,hon,by rw[show 2*(x/2)=x by omega],by unfold aq;rw[if_pos q,show 2*(x/2)+1=x+1 by omega]⟩
  exact .sy (.of ⟨x/2,Q9,hon,by unfold aq;rw[if_neg q,show 2*(x/2)=x-1 by omega],by rw[show 2*(x/2)+1=x by omega]⟩)
 have h0:∀j,j<l.length->uG (QO L (e8 E V L T S) ds) (e8 E V L T S (l.getD j 0)) (e8 E V L T S (l.getD 0 0)):=fun j hj=>by
  induction j with
  |zero=>exact .id _
  |succ j ih=>exact(tI j hj).tr (ih (by omega))
 obtain⟨i,hi,rfl⟩:=aB (z:=(0:Int)).1 ((dX d).2 hd)
 obtain⟨j,hj,rfl⟩:=aB (z:=(0:Int)).1 ((dX e).2 he)
 exact(h0 i hi).tr (h0 j hj).sy
theorem yF {m:List (Int×Int)}{x:Int}:∀k,ah (Ph E ds m k) x=if decide (∃j,j<k/\ak E (ds.getD j 0)=x)=true then some 0 else ah m x
 |0=>by rw[if_neg];rfl;exact fun q=>by obtain⟨j,hj,_⟩:=of_decide_eq_true q;omega
 |k+1=>by
  show ah (cB (Ph E ds m k) (ak E (ds.getD k 0)) 0) x=_
  rw[bO,yF k]
  by_cases q:ak E (ds.getD k 0)=x
  .rw[if_pos q,if_pos (decide_eq_true ⟨k,Nat.lt_succ_self _,q⟩)]
  rw[if_neg q]
  by_cases z:∃j,j<k/\ak E (ds.getD j 0)=x
  .rw[if_pos (decide_eq_true z),if_pos (decide_eq_true (let⟨j,h1,h2⟩:=z;⟨j,by omega,h2⟩))]
  rw[if_neg (fun y=>z (of_decide_eq_true y)),if_neg]
  intro y
  obtain⟨j,h1,h2⟩:=of_decide_eq_true y
  rcases Nat.lt_succ_iff_lt_or_eq.1 h1 with w|w
  .exact z ⟨j,w,h2⟩
  subst w;exact q h2
theorem yG {sd:List (Int×Int)}{x:Int}:∀ {k:Nat},k<=V.length->ah (GQ T sd V k) x=if x∈V.take k then some ((ah sd (if 0<(T.getD x.toNat []).length then(T.getD x.toNat []).getD 0 0 else -1-x)).getD 0) else none
 |0,_=>by rw[if_neg (by simp)];rfl
 |k+1,h=>by
  show ah (cB (GQ T sd V k) (V.getD k 0) _) x=_
  rw[bO,yG (k:=k) (by omega),b6 (show k<V.length by omega) 0]
  by_cases q:V.getD k 0=x
  .rw[if_pos q,if_pos (List.mem_append_right _ (List.mem_singleton.2 q.symm)),q]
  rw[if_neg q]
  by_cases z:x∈V.take k
  .rw[if_pos z,if_pos (List.mem_append_left _ z)]
  rw[if_neg z,if_neg]
  intro y
  rcases List.mem_append.1 y with w|w
  .exact z w
  exact q (List.mem_singleton.1 w).symm
theorem PW (h:bA n E V L T S=0)(hc:mV n E V L ds=true){v:Int}(hv:v∈V):ah (si n E V L T S ds) v=some (Fm E L (e8 E V L T S) ds v):=by
 have lU:=bf (bH h).1
 rw[dm] at lU
 obtain⟨hp,hT,_⟩:=fN lU
 obtain⟨_,hV,hL,_⟩:=aD hp
 obtain⟨_,dL,oG,_⟩:=of_decide_eq_true (p:=yg n E V L ds) hc
 have we:si n E V L T S ds=Ph E ds (GQ T (dY n E V L T S ds) V V.length) ds.length:=by
  unfold si vu
  rw[if_pos (by rw[hc,decide_eq_true h];rfl)]
 rw[we,yF]
 show(if Wm E ds v=true then some 0 else _)=some (if Wm E ds v=true then 0 else _)
 by_cases q:Wm E ds v=true
 .rw[if_pos q,if_pos q]
 rw[if_neg q,if_neg q,yG (Nat.le_refl _),List.take_length,if_pos hv,A8 hc h,O9]
 have Du:Wm E ds v=false:=by simpa using q
 have hd0:ds.getD 0 0∈ds:=af (List.length_pos_iff.2 dL)
 have Jh:aU L (ds.getD 0 0):=by
  have:=(oG _ hd0).2
  rw[eC hL,decide_eq_true_eq] at this
  exact this
 have aal:=fun x=>Tv (N:=E.length) (L:=L) (ds:=ds) (lf:=e8 E V L T S) (fun e he=>(aG.1 hL).2 _ he) (fun e he=>⟨uH h (vh he).1,uH h (vh he).2⟩) (uH h Jh) (x:=x)
 have X4:=fun r=>(Tu (left:=aQ n E V L T S) (L:=L) (ds:=ds) (head:=e8 E V L T S (ds.getD 0 0)) (r:=r)).trans (uG.iff (Tw h))
 have zy:(ah (aQ n E V L T S) (ds.getD 0 0)).getD 0=e8 E V L T S (ds.getD 0 0):=by rw[j8 h Jh];rfl
 rw[zy]
 have dX:=E3 h hv
 have key:∃r,ah (aQ n E V L T S) (if 0<(T.getD v.toNat []).length then(T.getD v.toNat []).getD 0 0 else -1-v)=some r/\uG (QO L (e8 E V L T S) ds) r ((Fl E L (e8 E V L T S) v).getD 0 0):=by
  by_cases z:0<(T.getD v.toNat []).length
  .rw[if_pos z]
   have hm:(T.getD v.toNat []).getD 0 0∈aR E L v:=(dX _).1 (af z)
   refine⟨_,j8 h (dH.1 hm).1,?_⟩
   rcases(GN (E:=E) (L:=L) (lf:=e8 E V L T S) v).2 with⟨y,_⟩|⟨d,hd,e⟩
   .rw[List.eq_nil_of_length_eq_zero y] at hm;cases hm
   rw[e];exact PV h hc hv Du hm hd
  rw[if_neg z]
  refine⟨_,Le h hv (by omega),?_⟩
  rcases(GN (E:=E) (L:=L) (lf:=e8 E V L T S) v).2 with⟨_,y⟩|⟨d,hd,_⟩
  .rw[y];exact .id _
  have:=(dX d).2 hd
  rw[List.eq_nil_of_length_eq_zero (Nat.eq_zero_of_not_pos z)] at this;cases this
 obtain⟨r,hr,hq⟩:=key
 rw[hr]
 show some (KZ _ _ r)=some _
 congr 1
 by_cases z:(Fl E L (e8 E V L T S) v).getD 0 0∈EJ E.length L (e8 E V L T S) ds
 .rw[if_pos z]
  exact(X4 r).2 (hq.tr ((aal _).1 z))
 rw[if_neg z]
 have hn:¬KZ (dF (aQ n E V L T S) L ds) (e8 E V L T S (ds.getD 0 0)) r=1:=fun w=>z ((aal _).2 (hq.sy.tr ((X4 r).1 w)))
 unfold KZ at hn ⊢
 split at hn
 .exact absurd rfl hn
 rename_i w;rw[if_neg w]
end
end Go.Proofs.YtnfdimfepbbbpaaGreat
namespace Go.Proofs.YtnfdimfepbbbpaaGreat
open Go.RowKit
open Go.Proofs.YtnfdimfepbbbpaaGreat.Deep
section
variable {n:Int}{E:List (Int×Int)}{V L:List Int}{T S U R:List (List Int)}{l:List Int}
theorem G8 (h:aA n E V L≠0):bA n E V L T S=aA n E V L:=by
 have e:=AI (T:=T) h
 have hf:fW n E V L T=aA n E V L:=by rw[td,if_pos (by rw[e];exact h),e]
 rw[kO (by rw[hf];exact h),hf]
theorem G9 (h:bh n E≠0):aA n E V L=bh n E:=if_pos h
theorem Xl:tD n E V L T S=lK n E V L T S:=by
 unfold tD lK
 rw[E1]
 by_cases h:bh n E=0
 .rw[if_neg (fun q=>q h)]
  by_cases k:aA n E V L=0
  .rw[if_neg (fun q=>q k)]
  rw[if_pos k,G8 k]
 rw[if_pos h,G9 h,if_pos h]
theorem yH (h:bh n E=0):fD n E=(upto n,upto (E.length:Int)):=if_neg (by rw[h];exact fun q=>q rfl)
theorem PX:zq n E V L T S U R=bR n E V L T S U R:=by
 unfold zq bR
 rw[<-Xl]
 by_cases h:tD n E V L T S=0
 .rw[if_neg (fun q=>q h),if_neg (fun q=>q h),E1,yH (Ba h)]
 rw[if_pos h,if_pos h]
theorem iG (h:bR n E V L T S U R=0):bA n E V L T S=0/\aA n E V L=0/\bh n E=0/\bA n E (upto n) (upto (E.length:Int)) U R=0/\aA n E (upto n) (upto (E.length:Int))=0:=by
 obtain⟨h1,h2⟩:=pO h
 obtain⟨h3,h4⟩:=tB h1
 have hr:=(aD h3).1
 rw[yH hr] at h2
 exact⟨h4,h3,hr,h2,(bS (bf (bH h2).1)).1⟩
theorem He (h:bA n E V L T S=0):eu E V L T=bn n E V L T S:=by
 have hw:=bf (bH h).1
 have nk:(bT n E V L T).2=0:=by rw[<-dm];exact hw
 have hr:=(aD (fN nk).1).1
 rw[mY h]
 unfold eu
 rw[gq nk]
 generalize (aa n E V L T).1=W
 have:∀k,QM E W k=Lz n E W k:=fun k=>by
  induction k with
  |zero=>rfl
  |succ k ih=>show QM E W k++_=Lz n E W k++_;rw[ih,Wg hr]
 exact this _
theorem PY (h:bR n E V L T S U R=0):(eu E V L T).length<=100000000:=by
 rw[He (iG h).1];exact yx
theorem PZ (hn:bz n)(h1:av T)(h2:av S)(h:bA n E V L T S=0)(hc:mV n E V L l=true):QL n E V L T S l:=by
 have hw:=bf (bH h).1
 have nk:(bT n E V L T).2=0:=by rw[<-dm];exact hw
 obtain⟨hp,hT,_⟩:=fN nk
 obtain⟨_,hV,hL,_⟩:=aD hp
 obtain⟨_,dL,oG,_⟩:=of_decide_eq_true (p:=yg n E V L l) hc
 obtain⟨_,z,hz,_⟩:=bH h
 have hd:∀d∈l,aU L d:=fun d hd=>by
  have:=(oG d hd).2
  rw[eC hL,decide_eq_true_eq] at this
  exact this
 refine⟨⟨hn,h1,hp,hT,h2,fun x hx e=>?_⟩,List.length_pos_iff.2 dL,fun d hx=>?_,fun e he=>⟨uH h (vh he).1,uH h (vh he).2⟩,uH h (hd _ (af (List.length_pos_iff.2 dL)))⟩
 .obtain⟨j,hj,e2⟩:=aB (z:=([]:List Int)).1 hx
  have:=mT hz j hj
  rw[e2,e] at this
  exact absurd this (by decide)
 obtain⟨_,a,b,c⟩:=cv hp (hd d hx)
 exact⟨a,c,b⟩
theorem Jt (h:bR n E V L T S U R=0)(hl:l∈eu E V L T):mV n E V L l=true/\mV n E (upto n) (upto (E.length:Int)) l=true:=by
 obtain⟨p1,p2,p3,p4,p5⟩:=iG h
 rw[He p1] at hl
 have hL:=(aG.1 (aD p2).2.2.1).2
 exact⟨yB p1 p2 (fun e he=>he) hl,yB p1 p5 (fun e he=>DQ.2 (hL e he)) hl⟩
theorem Tx (hn:bz n)(h1:av T)(h2:av S)(h3:av U)(h4:av R)(h:bR n E V L T S U R=0)(hl:l∈eu E V L T):QL n E V L T S l/\QL n E (upto n) (upto (E.length:Int)) U R l:=by
 obtain⟨p1,p2,p3,p4,p5⟩:=iG h
 obtain⟨c1,c2⟩:=Jt h hl
 exact⟨PZ hn h1 h2 p1 c1,PZ hn h3 h4 p4 c2⟩
theorem Hf (h:bR n E V L T S U R=0):(0<=Fo V L T U->cM n E V L T S U R=(Fo V L T U,true))/\(¬0<=Fo V L T U->cM n E V L T S U R=(0,false)):=by
 obtain⟨p1,p2,p3,p4,p5⟩:=iG h
 have hV:=(aG.1 (aD p2).2.1).2
 unfold cM Fo
 rw[if_neg (by rw[h];exact fun q=>q rfl)]
 cases hq:(List.range V.length).find? fun i=>!K0 V L T U i with
 |none=>exact⟨fun q=>absurd (show(0:Int)<=-1 from q) (by decide),fun _=>rfl⟩
 |some i=>
  have hi:=List.mem_range.1 (List.find?_range_eq_some.1 hq).2.1
  have:=(hV _ (af (l:=V) (i:=i) (d:=0) hi)).1
  exact⟨fun _=>rfl,fun q=>absurd this q⟩
theorem Xm (h:bA n E V L T S=0)(hc:mV n E V L l=true){x:Int}(hx:(ah (si n E V L T S l) x).isSome=true):x∈V:=by
 have hw:=bf (bH h).1
 have nk:(bT n E V L T).2=0:=by rw[<-dm];exact hw
 obtain⟨hp,hT,_⟩:=fN nk
 obtain⟨_,hV,hL,_⟩:=aD hp
 obtain⟨_,dL,oG,_⟩:=of_decide_eq_true (p:=yg n E V L l) hc
 have we:si n E V L T S l=Ph E l (GQ T (dY n E V L T S l) V V.length) l.length:=by
  unfold si vu
  rw[if_pos (by rw[hc,decide_eq_true h];rfl)]
 rw[we,yF] at hx
 split at hx
 .rename_i q
  obtain⟨j,hj,e⟩:=of_decide_eq_true q
  have hm:l.getD j 0∈l:=af hj
  have:=(oG _ hm).2
  rw[eC hL,decide_eq_true_eq] at this
  rw[<-e]
  exact(cv hp this).1
 rw[yG (Nat.le_refl _),List.take_length] at hx
 split at hx
 .rename_i q;exact q
 cases hx
theorem aam (h:bR n E V L T S U R=0)(hl:l∈eu E V L T):LB n E V L T S U R l=match Fp n E V L T S U R l with
  |some k=>(V.getD k 0,true)
  |none=>(0,false):=by
 obtain⟨p1,p2,p3,p4,p5⟩:=iG h
 obtain⟨c1,c2⟩:=Jt h hl
 obtain⟨_,hV,hL,_⟩:=aD p2
 have hVa:=aG.1 hV
 have hrs:=Jb (n:=n) (E:=E) (V:=V) (L:=L) (T:=T) (S:=S) (ds:=l)
 have abp:∀v∈V,(ah (si n E (upto n) (upto (E.length:Int)) U R l) v).getD 0=Fm E (upto (E.length:Int)) (e8 E (upto n) (upto (E.length:Int)) U R) l v:=fun v hv=>by
  rw[PW p4 c2 (DQ.2 (hVa.2 v hv))];rfl
 have P0:∀q∈si n E V L T S l,q.1∈V/\(decide (¬(ah (si n E (upto n) (upto (E.length:Int)) U R l) q.1).getD 0=q.2)=Wz n E V L T S U R l q.1):=fun q hq=>by
  have hk:=Pw hrs hq
  have hm:=Xm p1 c1 (by rw[hk];rfl)
  refine⟨hm,?_⟩
  rw[PW p1 c1 hm] at hk
  have hk:Fm E L (e8 E V L T S) l q.1=q.2:=by injection hk
  rw[abp _ hm]
  unfold Wz
  rw[hk]
  exact decide_eq_decide.2 ⟨fun w e=>w e.symm,fun w e=>w e.symm⟩
 unfold LB lsF
 rw[yH p3]
 dsimp only
 cases hq:Fp n E V L T S U R l with
 |none=>
  have:(si n E V L T S l).find? (fun q=>decide (¬(ah (si n E (upto n) (upto (E.length:Int)) U R l) q.1).getD 0=q.2))=none:=by
   rw[List.find?_eq_none]
   intro q hm
   obtain⟨a,b⟩:=P0 q hm
   rw[b]
   obtain⟨j,hj,e⟩:=aB (z:=(0:Int)).1 a
   have:=List.find?_eq_none.1 hq j (List.mem_range.2 hj)
   rw[e] at this
   exact this
  rw[this]
 |some k=>
  obtain⟨k1,k2,k3⟩:=List.find?_range_eq_some.1 hq
  have LH:=List.mem_range.1 k2
  have hkm:V.getD k 0∈V:=af LH
  have qG:=PW p1 c1 hkm
  have dX:=lz qG
  have:(si n E V L T S l).find? (fun q=>decide (¬(ah (si n E (upto n) (upto (E.length:Int)) U R l) q.1).getD 0=q.2))=some (V.getD k 0,Fm E L (e8 E V L T S) l (V.getD k 0)):=by
   refine rY hrs dX ?_ fun y hy hp=>?_
   .rw[(P0 _ dX).2];exact k1
   obtain⟨a,b⟩:=P0 y hy
   rw[b] at hp
   obtain⟨j,hj,e⟩:=aB (z:=(0:Int)).1 a
   have hjk:¬j<k:=fun w=>by
    have:=k3 j w
    rw[e,hp] at this;cases this
   show V.getD k 0<=y.1
   rw[<-e]
   by_cases z:k=j
   .rw[z];exact Int.le_refl _
   rw[getD_eq LH,getD_eq hj]
   have:=List.pairwise_iff_getElem.1 hVa.1 k j LH hj (by omega)
   omega
  rw[this]
theorem P3 (h:bR n E V L T S U R=0)(ht:(cM n E V L T S U R).2=false):(0<=(CF n E V L T S U R).2->cR n E V L T S U R=((CF n E V L T S U R).1,(CF n E V L T S U R).2,true))/\(¬0<=(CF n E V L T S U R).2->cR n E V L T S U R=([],0,false)):=by
 obtain⟨p1,p2,p3,p4,p5⟩:=iG h
 have hV:=(aG.1 (aD p2).2.1).2
 have QA:=He p1
 have qG:∀i,i<(eu E V L T).length->LB n E V L T S U R ((eu E V L T).getD i [])=match Fp n E V L T S U R ((eu E V L T).getD i []) with
  |some k=>(V.getD k 0,true)
  |none=>(0,false):=fun i hi=>aam h (af hi)
 cases hq:(List.range (eu E V L T).length).find? fun i=>(Fp n E V L T S U R ((eu E V L T).getD i [])).isSome with
 |none=>
  have y5:∀j,j<(eu E V L T).length->Fp n E V L T S U R ((eu E V L T).getD j [])=none:=fun j hj=>by
   have:=List.find?_eq_none.1 hq j (List.mem_range.2 hj)
   cases hv:Fp n E V L T S U R ((eu E V L T).getD j []) with
   |none=>rfl
   |some k=>rw[hv] at this;exact absurd rfl this
  have e1:=Py y5
  rw[e1]
  refine⟨fun q=>absurd q (by decide),fun _=>?_⟩
  refine A9 h ht fun j hj=>?_
  rw[<-QA] at hj ⊢
  rw[qG j hj,y5 j hj]
 |some i=>
  obtain⟨k1,k2,k3⟩:=List.find?_range_eq_some.1 hq
  have Vd:=List.mem_range.1 k2
  obtain⟨k,hk⟩:=Option.isSome_iff_exists.1 k1
  have hkv:=List.mem_range.1 (List.find?_range_eq_some.1 hk).2.1
  have hb:∀j:Nat,(j:Int)<(i:Int)->Fp n E V L T S U R ((eu E V L T).getD j [])=none:=fun j hj=>by
   have:=k3 j (by omega)
   cases hv:Fp n E V L T S U R ((eu E V L T).getD j []) with
   |none=>rfl
   |some k=>rw[hv] at this;cases this
  have e1:=Je (i:=(i:Int)) (k:=(k:Int)) (by omega) (by omega) hb (by rw[Int.toNat_natCast,Int.toNat_natCast];exact hk)
  rw[Int.toNat_natCast,Int.toNat_natCast] at e1
  rw[e1]
  have h0:=(hV _ (af (l:=V) (i:=k) (d:=0) hkv)).1
  refine⟨fun _=>?_,fun q=>absurd h0 q⟩
  have hls:=qG i Vd
  rw[hk] at hls
  have hls:LB n E V L T S U R ((eu E V L T).getD i [])=(V.getD k 0,true):=hls
  have:=yz (n:=n) (E:=E) (V:=V) (L:=L) (T:=T) (S:=S) (U:=U) (R:=R) h ht (i:=(i:Int)) (by omega) (by rw[<-QA];omega) (by rw[<-QA,Int.toNat_natCast,hls]) fun j hj=>by
   rw[<-QA]
   rw[qG j (by omega),hb j hj]
  rw[this,<-QA]
  first|rfl|(rw[Int.toNat_natCast];rfl)|(rw[Int.toNat_natCast,hls])
end
theorem Xn:aS Tryz.prog 12 [(true,(.pair gX (.pair fR (.pair (.list (.list .int)) (.list (.list .int)))))),(true,(.pair (.list (.list .int)) (.list (.list .int))))] [(.list .int),.int] (fun x=>bz (I_ x.1.1.1)/\av (K_ x.1.2.2.1)/\av (K_ x.1.2.2.2)/\av (K_ x.2.1.1)/\av (K_ x.2.1.2)/\bR (I_ x.1.1.1) (E_ x.1.1.2) (J_ x.1.2.1.1) (J_ x.1.2.1.2) (K_ x.1.2.2.1) (K_ x.1.2.2.2) (K_ x.2.1.1) (K_ x.2.1.2)=0) (fun x=>((CF (I_ x.1.1.1) (E_ x.1.1.2) (J_ x.1.2.1.1) (J_ x.1.2.1.2) (K_ x.1.2.2.1) (K_ x.1.2.2.2) (K_ x.2.1.1) (K_ x.2.1.2)).1,(CF (I_ x.1.1.1) (E_ x.1.1.2) (J_ x.1.2.1.1) (J_ x.1.2.1.2) (K_ x.1.2.2.1) (K_ x.1.2.2.2) (K_ x.2.1.1) (K_ x.2.1.2)).2,())):=by
 refine aF Tryz.f12 77 [Tk,Xi,yj] Tryz.func12 fun o x hd _ _ h=>?_
 obtain⟨⟨⟨(n:Int),(E:List (Int×Int))⟩,⟨⟨(V:List Int),(L:List Int)⟩,⟨(T:List (List Int)),(S:List (List Int))⟩⟩⟩,⟨(U:List (List Int)),(R:List (List Int))⟩,_⟩:=x
 have e7:=gL h 0 E
 have eZ:=cg h 1 V
 have fS:=cg h 2 L
 have jm:=eP h 3 T
 have tE:=eP h 4 S
 have GX:=eP h 5 U
 have QN:=eP h 6 R
 change bz n/\av T/\av S/\av U/\av R/\bR n E V L T S U R=0 at hd
 obtain⟨hn,cw,cS,jN,lX,vt⟩:=hd
 obtain⟨Xe,Yi⟩:=pO vt
 obtain⟨gw,iZ⟩:=tB Xe
 obtain⟨jZ,hV,hL,_⟩:=aD gw
 obtain⟨r1,r2,r3,_⟩:=aN jZ
 have zw:=ay hV r1
 have vf:=ay hL (by omega)
 obtain⟨_,UT,_⟩:=bS (bf (bH iZ).1)
 have Z8:=UT.len
 obtain⟨Tl,Xf,_⟩:=bS (bf (bH Yi).1)
 have hUl:=Xf.len
 have abq:=PY vt
 refine go (pr:=(bz n/\av T/\aA n E V L=0/\bW n E L T)/\(bz n/\n<=1000000/\E.length<=1000000)) [] h ⟨⟨hn,cw,gw,UT⟩,⟨hn,by omega,by omega⟩⟩ fun _ _ h=>?_
 refine go_loop (Int) (fun i=>⟨[(2,ep 0),(3,ep 1),(6,eo 2),(7,ep 3),(8,en i)],[(0,some (.box 32 [.v (.int .i64 n),.own 4,.own 5,.own 6,.own 7,.own 8])),(1,some (.box 30 [.own 9,.own 10])),(2,some (.ro (.list .int) (eu E V L T))),(3,some (.box 27 [.own 11,.own 12])),(4,some (.ro fA E)),(5,some (.ro .int V)),(6,some (.ro .int L)),(7,some (.ro (.list .int) T)),(8,some (.ro (.list .int) S)),(9,some (.ro (.list .int) U)),(10,some (.ro (.list .int) R)),(11,some (.ro .int (upto n))),(12,some (.ro .int (upto (E.length:Int))))],13⟩) (fun i=>0<=i/\i<=((eu E V L T).length:Int)/\∀j:Nat,(j:Int)<i->Fp n E V L T S U R ((eu E V L T).getD j [])=none) (fun i=>(((eu E V L T).length:Int)-i).toNat) (0) (rk [7,4103,40967,61447,0,1,2,3,4,5,6,57351,57352]) h ⟨Int.le_refl _,Int.natCast_nonneg _,fun j hj=>by omega⟩ fun i _ _ _ cq hI h=>?_
 obtain⟨i0,i1,i2⟩:=hI
 refine aC [] h fun _ _ h=>?_
 refine ag h (fun(q1:i<((eu E V L T).length:Int))=>?_) (fun(q1:¬(i<((eu E V L T).length:Int)))=>?_)
 .obtain⟨hD1,hD2⟩:=Tx hn cw cS jN lX vt (af (l:=(eu E V L T)) (i:=i.toNat) (d:=[]) (by omega))
  refine aC [] h fun _ _ h=>?_
  refine go_loop (Int) (fun k=>⟨[(2,ep 0),(3,ep 1),(6,eo 2),(7,ep 3),(8,en i),(9,en k)],[(0,some (.box 32 [.v (.int .i64 n),.own 4,.own 5,.own 6,.own 7,.own 8])),(1,some (.box 30 [.own 9,.own 10])),(2,some (.ro (.list .int) (eu E V L T))),(3,some (.box 27 [.own 11,.own 12])),(4,some (.ro fA E)),(5,some (.ro .int V)),(6,some (.ro .int L)),(7,some (.ro (.list .int) T)),(8,some (.ro (.list .int) S)),(9,some (.ro (.list .int) U)),(10,some (.ro (.list .int) R)),(11,some (.ro .int (upto n))),(12,some (.ro .int (upto (E.length:Int))))],13⟩) (fun k=>0<=k/\k<=(V.length:Int)/\∀j:Nat,(j:Int)<k->Wz n E V L T S U R ((eu E V L T).getD i.toNat []) (V.getD j 0)=false) (fun k=>((V.length:Int)-k).toNat) (0) (ir 13) h ⟨Int.le_refl _,Int.natCast_nonneg _,fun j hj=>by omega⟩ fun k _ _ _ fQ hI h=>?_
  obtain⟨k0,k1,k2⟩:=hI
  refine aC [] h fun _ _ h=>?_
  refine ag h (fun(q2:k<(V.length:Int))=>?_) (fun(q2:¬(k<(V.length:Int)))=>?_)
  .have hvv:=(aG.1 hV).2 _ (af (l:=V) (i:=k.toNat) (d:=0) (by omega))
   refine go (pr:=(aV i (eu E V L T).length)/\(aV k V.length)/\(QL n E V L T S ((eu E V L T).getD i.toNat [])/\-1000000<=(V.getD k.toNat 0)/\(V.getD k.toNat 0)<=1000000)/\(aV i (eu E V L T).length)/\(aV k V.length)/\(QL n E (upto n) (upto (E.length:Int)) U R ((eu E V L T).getD i.toNat [])/\-1000000<=(V.getD k.toNat 0)/\(V.getD k.toNat 0)<=1000000)) [] h ⟨bx,bx,⟨hD1,by omega,by omega⟩,bx,bx,⟨hD2,by omega,by omega⟩⟩ fun _ _ h=>?_
   refine ag h (fun(q3:¬(Fm E L (e8 E V L T S) ((eu E V L T).getD i.toNat []) (V.getD k.toNat 0)=Fm E (upto (E.length:Int)) (e8 E (upto n) (upto (E.length:Int)) U R) ((eu E V L T).getD i.toNat []) (V.getD k.toNat 0)))=>?_) (fun(q3:Fm E L (e8 E V L T S) ((eu E V L T).getD i.toNat []) (V.getD k.toNat 0)=Fm E (upto (E.length:Int)) (e8 E (upto n) (upto (E.length:Int)) U R) ((eu E V L T).getD i.toNat []) (V.getD k.toNat 0))=>?_)
   .refine go (pr:=(aV i (eu E V L T).length)/\(aV k V.length)) [] h ⟨bx,bx⟩ fun _ _ h=>?_
    exact out ((((eu E V L T).getD i.toNat []):List Int),((V.getD k.toNat 0):Int),()) h (by rw[Je i0 (by omega) i2 (S6 k0 (by omega) (decide_eq_true q3) k2)])
   refine go (pr:=(aX .i64 (k+1))) [] h bw fun _ _ h=>?_
   exact bZ (fQ (k+1) (ir 13) h ⟨by omega,by omega,fun j hj=>if z:(j:Int)<k then k2 j z else by rw[show j=k.toNat by omega];exact decide_eq_false fun q=>q q3⟩ (by omega))
  refine go (pr:=(aX .i64 (i+1))) [] h bw fun _ _ h=>?_
  exact bZ (cq (i+1) (ir 13) h ⟨by omega,by omega,fun j hj=>if z:(j:Int)<i then i2 j z else by rw[show j=i.toNat by omega];exact WA fun j hj=>k2 j (by omega)⟩ (by omega))
 refine aC [] h fun _ _ h=>?_
 exact out (([]:List Int),((-1:Int):Int),()) h (by rw[Py (fun j hj=>i2 j (by omega))])
def Xo:cE Tryz.prog:=plain Xn
abbrev UX:ur:=⟨[.box 32 [.int,.own 1,.own 2,.own 3,.own 4,.own 5],.rd fA,.rd .int,.rd .int,.rd (.list .int),.rd (.list .int)],[.int,.ptr 0 0],[.box 32 [.int,.own 1,.own 2,.own 3,.own 4,.own 5],.rd fA,.rd .int,.rd .int,.rd (.list .int),.rd (.list .int)],[.bool],6⟩
theorem P4:gQ Tryz.prog 22 UX (fun x=>0<=(I_ x.2.1)/\(I_ x.2.1)<=1000000/\(J_ x.1.2.2.2.1).length<=1000000) (fun x=>((((I_ x.1.1.1),(),(),(),(),(),()),(E_ x.1.2.1),(J_ x.1.2.2.1),(J_ x.1.2.2.2.1),(K_ x.1.2.2.2.2.1),(K_ x.1.2.2.2.2.2.1),()),(hasB (J_ x.1.2.2.2.1) ((I_ x.2.1)/2),()))):=by
 refine ij Tryz.f22 10 [OS] UX Tryz.func22 fun o A x hd _ _ h=>?_
 obtain⟨⟨⟨(n:Int),_,_,_,_,_,_⟩,(E:List (Int×Int)),(V:List Int),(L:List Int),(T:List (List Int)),(S:List (List Int)),_⟩,⟨(d:Int),_,_⟩⟩:=x
 have eZ:=gL h 1 E
 have fS:=cg h 2 V
 have jm:=cg h 3 L
 have tE:=eP h 4 T
 have GX:=eP h 5 S
 change 0<=d/\d<=1000000/\L.length<=1000000 at hd
 obtain⟨d0,d1,d2⟩:=hd
 refine go (pr:=(0<=d/\0<(2:Int)/\aX .i64 d)/\(L.length<=1000000)) [] h ⟨⟨by omega,by omega,⟨by omega,by omega⟩⟩,by omega⟩ fun _ _ h=>?_
 exact pE (((n,(),(),(),(),(),()),E,V,L,T,S,()),(hasB L (d/2),())) (ir 6) h rfl
def P5:cE Tryz.prog:=uv P4
abbrev Ju:ur:=⟨[.box 32 [.int,.own 1,.own 2,.own 3,.own 4,.own 5],.rd fA,.rd .int,.rd .int,.rd (.list .int),.rd (.list .int),.rd .int],[.own 6,.nh 22 [(0,0)]],[.box 32 [.int,.own 1,.own 2,.own 3,.own 4,.own 5],.rd fA,.rd .int,.rd .int,.rd (.list .int),.rd (.list .int),.rd .int,.row 3 .int],[.own 7],7⟩
theorem Xp:gQ Tryz.prog 21 Ju (fun x=>(∀d∈(J_ x.1.2.2.2.2.2.2.1),0<=d/\d<=1000000)/\(J_ x.1.2.2.2.2.2.2.1).length<=1000000/\(J_ x.1.2.2.2.1).length<=1000000) (fun x=>((((I_ x.1.1.1),(),(),(),(),(),()),(E_ x.1.2.1),(J_ x.1.2.2.1),(J_ x.1.2.2.2.1),(K_ x.1.2.2.2.2.1),(K_ x.1.2.2.2.2.2.1),(J_ x.1.2.2.2.2.2.2.1),GR (J_ x.1.2.2.2.1) (J_ x.1.2.2.2.2.2.2.1) (J_ x.1.2.2.2.2.2.2.1).length,()),((),()))):=by
 refine ij Tryz.f21 25 [P5] Ju Tryz.func21 fun o A x hd _ _ h=>?_
 obtain⟨⟨⟨(n:Int),_,_,_,_,_,_⟩,(E:List (Int×Int)),(V:List Int),(L:List Int),(T:List (List Int)),(S:List (List Int)),(l:List Int),_⟩,⟨_,_,_⟩⟩:=x
 have eZ:=gL h 1 E
 have fS:=cg h 2 V
 have jm:=cg h 3 L
 have tE:=eP h 4 T
 have GX:=eP h 5 S
 have QN:=cg h 6 l
 change (∀d∈l,0<=d/\d<=1000000)/\l.length<=1000000/\L.length<=1000000 at hd
 obtain⟨Jh,MN,vf⟩:=hd
 refine aC [] h fun _ _ h=>?_
 refine aK Int (List Int) (fun i ou=>⟨[(1,some ⟨[],.one (.nh 22 [(0,0)])⟩),(5,eo 7),(10,eo 6),(11,en (l.length:Int)),(12,en i)],[(0,some (.box 32 [.v (.int .i64 n),.own 1,.own 2,.own 3,.own 4,.own 5])),(1,some (.ar fA E)),(2,some (.ar .int V)),(3,some (.ar .int L)),(4,some (.ar (.list .int) T)),(5,some (.ar (.list .int) S)),(6,some (.ar .int l)),(7,some (.row 3 .int ou))],8⟩) (fun i ou=>0<=i/\i<=(l.length:Int)/\ou=GR L l i.toNat) (fun i ou=>((l.length:Int)-i).toNat) 0 [] [(0,some 0),(1,some 1),(2,some 2),(3,some 3),(4,some 4),(5,some 5),(6,some 6),(7,none)] h ⟨Int.le_refl _,Int.natCast_nonneg _,rfl⟩ fun i ou _ _ _ cq hI h=>?_
 obtain⟨i0,i1,i2⟩:=hI
 refine aC [] h fun _ _ h=>?_
 refine ag h (fun(q1:i<(l.length:Int))=>?_) (fun(q1:¬(i<(l.length:Int)))=>?_)
 .have vn:=Jh _ (af (l:=l) (i:=i.toNat) (d:=0) (by omega))
  have LH:=I7 L l i.toNat
  rw[<-i2] at LH
  refine go (pr:=(aV i l.length)/\(0<=(l.getD i.toNat 0)/\(l.getD i.toNat 0)<=1000000/\L.length<=1000000)) [] h ⟨bx,⟨vn.1,vn.2,vf⟩⟩ fun _ _ h=>?_
  refine ag h (fun(q2:(hasB L ((l.getD i.toNat 0)/2))=true)=>?_) (fun(q2:(hasB L ((l.getD i.toNat 0)/2))=false)=>?_)
  .refine go (pr:=(ou.length+([(l.getD i.toNat 0)]:List Int).length<=2147483647)/\(aX .i64 (i+1))) [] h ⟨ln,bw⟩ fun _ _ h=>?_
   exact bZ (cq (i+1) (ou++([(l.getD i.toNat 0)]:List Int)) (rk [0,1,2,3,4,5,6,40968]) h ⟨by omega,by omega,by rw[I6 i0 (by omega) q2,<-i2]⟩ (by omega))
  refine go (pr:=(aX .i64 (i+1))) [] h bw fun _ _ h=>?_
  exact bZ (cq (i+1) ou (ir 8) h ⟨by omega,by omega,by rw[Pt i0 (by omega) q2,<-i2]⟩ (by omega))
 have oz:i.toNat=l.length:=by omega
 rw[oz] at i2
 refine aC [] h fun _ _ h=>?_
 exact pE (((n,(),(),(),(),(),()),E,V,L,T,S,l,ou,()),((),())) (ir 8) h (by rw[i2])
def Xq:cE Tryz.prog:=uv Xp
end Go.Proofs.YtnfdimfepbbbpaaGreat
namespace Go.Proofs.YtnfdimfepbbbpaaGreat
open Go.RowKit Go.Shelf
attribute [local go_sem] Oper.semAt_some
theorem E4 (F:Fence)(n:Nat)(h7:F.fn 115)(JR:F.round=none)(hn:1<=n)(l Bs rb b off cap:Nat)(zs:List Int)(abr:zs.length<=9223372036854775807)(J:Nat->World->Prop)
  (Yl:∀k W,J k W->W.cell? ⟨Bs,0,none⟩=some (.pointer (some ⟨rb,0,none⟩))) (Uy:∀k W,J k W->W.cell? ⟨rb,3,none⟩=some (.slice (some ⟨b,off,none⟩) zs.length cap))
  (hc:∀k W,J k W->∀j,j<zs.length->W.cell? ⟨b,off+j,none⟩=some (.int .i64 (zs.getD j 0)))
  (hY:∀k W,J k W->k<zs.length->YieldAt F (n-1) Tryz.prog l #[.int .i64 (zs.getD k 0)] W fun e W'=>e= .returned (.bool true)/\J (k+1) W')
  (W:World) (h0:J 0 W):
  CallsIn F n Tryz.prog 115 #[.func (.yield l) #[] #[],.pointer (some ⟨Bs,0,none⟩)] W fun e W'=>(∃v,e= .returned v)/\J zs.length W':=by
 have abt:=Yl _ _ h0
 have abu:=Uy _ _ h0
 refine callsIn_of_wp Tryz.func115 rfl h7 ?_ JR
 simp only[Tryz.ntmps115,List.size_toArray,List.length_cons,List.length_nil,Nat.reduceAdd,Nat.reduceSub,Array.replicate_succ,Array.replicate_zero,List.push_toArray,List.append_toArray,List.nil_append,List.cons_append]
 gi_wp2
 gi_loopw [12] (fun i wr=> ∃k:Nat,k<=zs.length/\i= .int .i64 k/\J k wr)
  (fun i _=>zs.length-(intOf i).toNat)
 case atStart=>exact⟨0,Nat.zero_le _,rfl,h0⟩
 case round=>
  obtain⟨k,hk,rfl,hJs⟩:=hrel
  have hcx:k<zs.length->wr.cell? ⟨b,off+k,none⟩=some (.int .i64 (zs.getD k 0)):=fun h=>hc k wr hJs k h
  by_cases iH:k<zs.length
  .obtain⟨fn,tmps,assign,body,hy,hR⟩:=hY _ wr hJs iH
   have abv:=hcx iH
   generalize zs.getD k 0=x at hy hR abv
   clear hcx
   gi_wp2
   refine hR.mono ?_
   rintro e W3 ⟨rfl,hJ3⟩
   gi_wp2
   go_roundw
   case rel=>exact⟨k+1,by omega,by simp,hJ3⟩
   case measure=>simp[intOf];omega
  obtain rfl:k=zs.length:=by omega
  gi_wp2
  go_end0
  exact⟨⟨_,rfl⟩,hJs⟩
theorem Hg (F:Fence)(n:Nat)(h7:F.fn 115)(JR:F.round=none)(hn:1<=n)(l Bs rb cap:Nat)(p:Option Addr)(J:Nat->World->Prop)
  (Yl:∀k W,J k W->W.cell? ⟨Bs,0,none⟩=some (.pointer (some ⟨rb,0,none⟩))) (Uy:∀k W,J k W->W.cell? ⟨rb,3,none⟩=some (.slice p 0 cap))
  (W:World) (h0:J 0 W):
  CallsIn F n Tryz.prog 115 #[.func (.yield l) #[] #[],.pointer (some ⟨Bs,0,none⟩)] W fun e W'=>(∃v,e= .returned v)/\J 0 W':=by
 have abt:=Yl _ _ h0
 have abu:=Uy _ _ h0
 refine callsIn_of_wp Tryz.func115 rfl h7 ?_ JR
 simp only[Tryz.ntmps115,List.size_toArray,List.length_cons,List.length_nil,Nat.reduceAdd,Nat.reduceSub,Array.replicate_succ,Array.replicate_zero,List.push_toArray,List.append_toArray,List.nil_append,List.cons_append]
 gi_wp2
 gi_loopw [12] (fun i wr=>i= .int .i64 0/\J 0 wr)
  (fun i _=>0)
 case atStart=>exact⟨rfl,h0⟩
 case round=>
  obtain⟨rfl,hJs⟩:=hrel
  gi_wp2
  go_end0
  exact⟨⟨_,rfl⟩,hJs⟩
def Jv (P:Program) (f:FuncId):Prop:=(∃fn,P.funcs[f]?=some fn/\fn.body.isSome=true/\(fn.name== "runtime.NumGoroutine")=false)/\∀(l Bs rb cap:Nat) (p:Option Addr) (zs:List Int) (J:Nat->World->Prop),zs.length<=9223372036854775807->
 (∀k W,J k W->W.cell? ⟨Bs,0,none⟩=some (.pointer (some ⟨rb,0,none⟩)))->(∀k W,J k W->W.cell? ⟨rb,3,none⟩=some (.slice p zs.length cap))->
 (zs=[]\/∃b off,p=some ⟨b,off,none⟩/\∀k W,J k W->∀j,j<zs.length->W.cell? ⟨b,off+j,none⟩=some (.int .i64 (zs.getD j 0)))->
 (∀k W,J k W->k<zs.length->YieldAt Fence.wide 0 P l #[.int .i64 (zs.getD k 0)] W fun e W'=>e= .returned (.bool true)/\J (k+1) W')->
 ∀W,J 0 W->CallsIn Fence.wide 0 P f #[.func (.yield l) #[] #[],.pointer (some ⟨Bs,0,none⟩)] W fun e W'=>(∃v,e= .returned v)/\J zs.length W'
theorem E5:Jv Tryz.prog 115:=by
 refine⟨⟨Tryz.f115,Tryz.func115,by kernel_rfl,by kernel_rfl⟩,fun l Bs rb cap p zs J hz Yl Uy hc hY W h0=>?_⟩
 refine callsIn_wide.2 ((callsIn_wide (n:=1)).1 ?_)
 rcases hc with rfl|⟨b,off,rfl,hc⟩
 .exact Hg Fence.wide 1 tv rfl (Nat.le_refl _) l Bs rb cap p J Yl Uy W h0
 exact E4 Fence.wide 1 tv rfl (Nat.le_refl _) l Bs rb b off cap zs hz J Yl Uy hc hY W h0
abbrev vB:Ty:=.pair (.list (.list .int)) (.pair (.map .int .int) (.pair (.map .int .int) (.list .int)))
def cD (D:Nat):Deferred:={target:=.collected D,args:= #[]}
def Lf (D:Nat)(Q:iu):iu:=fun e a w=>Q e (fe a [cD D]) w
def Xr:List It->Bool
 |[]=>true
 | .lp _::_=>false
 |_::r=>Xr r
structure RGI where
 pt:List Nat
 r:List It
 p:Nat
 f:FuncId
 q:Nat
 j:Nat
 t:Nat
def uI (B:Code)(n:Nat)(σ:gH):List It->Option RGI
 | .run p::r=>match sub B p with
  | .rangeFunc (.tmp t) ps _ _=>match ps.toList,ni σ t with
   |[x],some ⟨[],.one (.nh f [(q,0)])⟩=>match iL σ q with
    |some (.box _ [.pd j])=>match Nat.blt x n && Xr r with
     |true=>some ⟨p,r,x,f,q,j,t⟩
     |false=>none
    |_=>none
   |_,_=>none
  |_=>none
 |_=>none
def gI:Option RGI->RGI
 |some x=>x
 |none=>⟨[],[],0,0,0,0,0⟩
def qB (I:RGI)(σ:gH):Bool:=match iL σ I.q with
 |some (.box _ [.pd j])=>Nat.beq j I.j
 |_=>false
def scB (k:Nat):Sc->Bool
 | .v _=>true
 | .b _=>true
 | .own j=>Nat.blt j k
 | .mp j=>Nat.blt j k
 | .ptr j _=>Nat.blt j k
 | .pd j=>Nat.blt j k
 | .nh _ cF=>cF.all fun c=>Nat.blt c.1 k
 |_=>false
def syB (k:Nat):Sy->Bool
 | .one c=>scB k c
 | .agg cs=>cs.all (scB k)
 | .lY ps=>ps.all fun p=>p.2.all (scB k)
def abw (k:Nat)(env:List (Nat×Option E2)):Bool:=env.all fun p=>match p.2 with
 |some e=>e.ch.isEmpty && syB k e.sy
 |none=>true
def P6 (rs:List (Nat×Option R2)):Bool:=rs.all fun p=>match p.2 with
 |some x=>!jV x
 |none=>true
def Tz (p:Nat)(x:Int)(σ:gH):gH:=⟨(p,some ⟨[],.one (.v (.int .i64 x))⟩)::σ.env,σ.rs,σ.nx⟩
def abx (D:Nat)(σ:gH):gH:=⟨σ.env,(σ.nx,some (.ext (.Df D)))::σ.rs,σ.nx+1⟩
def P7 (σ:gH):gH:=⟨[],σ.rs,σ.nx⟩
def Xs:List It->Bool
 |[]=>true
 |_=>false
def aan:Option Ru->Bool
 |some x=>x.cs.isEmpty && (x.hs.isEmpty && (Xs x.st && P6 x.σ.rs))
 |none=>false
theorem yI {σ:gH}(h:P6 σ.rs=true){j:Nat}{x:R2}(hj:iL σ j=some x):jV x=false:=by
 have:=List.all_eq_true.1 h _ (jl hj)
 simpa using this
theorem Hh (g:Operand)(ps:Array Tmp)(x y:Code):sub (.rangeFunc g ps x y) [0]=x:=by simp only[sub];cases x<;>rfl
theorem Hi (g:Operand)(ps:Array Tmp)(x y:Code):sub (.rangeFunc g ps x y) [1]=y:=by simp only[sub];cases y<;>rfl
theorem pQ {a b:Nat}(h:Nat.blt a b=true):a<b:=by simpa[Nat.blt_eq] using h
theorem yJ {k:Nat}:∀ {c:Sc},scB k c=true->c.all (· <k)/\∀A,c.b9 A
 | .v _,_=>⟨tv,fun _=>trivial⟩
 | .b _,_=>⟨tv,fun _=>trivial⟩
 | .own j,h=>⟨pQ h,fun _=>trivial⟩
 | .mp j,h=>⟨pQ h,fun _=>trivial⟩
 | .ptr j _,h=>⟨pQ h,fun _=>trivial⟩
 | .pd j,h=>⟨pQ h,fun _=>trivial⟩
 | .nh _ cF,h=>⟨fun c hc=>pQ (List.all_eq_true.1 h c hc),fun _=>trivial⟩
 | .el _ _ _ _,h=>by cases h
 | .hd _ _ _,h=>by cases h
theorem Xt {k:Nat}:∀ {y:Sy},syB k y=true->y.all (· <k)/\∀A,y.b9 A
 | .one c,h=>yJ h
 | .agg cs,h=>⟨fun c hc=>(yJ (List.all_eq_true.1 h c hc)).1,fun A c hc=>(yJ (List.all_eq_true.1 h c hc)).2 A⟩
 | .lY ps,h=>⟨fun p hp c hc=>(yJ (List.all_eq_true.1 (List.all_eq_true.1 h p hp) c hc)).1,fun A p hp c hc=>(yJ (List.all_eq_true.1 (List.all_eq_true.1 h p hp) c hc)).2 A⟩
theorem yK (a:Act)(x y:List Deferred):fe (fe a x) y=fe a (x++y):=by unfold fe;rw[List.append_assoc]
section
variable {o:bD}{n:Nat}{A A' A0:bF}{S S' S0:aL}{F:Nat->Prop}{s:Nat->Option E2}{f g:Nat->Option Rs}{w w' W:World}{a:Act}{kp l D:Nat}{σ σ2:gH}
def fZ.yP (H:fZ o w S f)(kp:Nat)(A:bF):bD:=
 ⟨⟨w,S,H.ig⟩,fun b=> ∃j rr,f j=some rr/\rr.has b,fun k ⟨j,rr,h1,h2⟩=>(H.own j rr k h1 h2).2.2,fun k ⟨j,rr,h1,h2⟩=>(H.own j rr k h1 h2).2.1,(· <kp),A,kp⟩
theorem fZ.aao (H:fZ o w S f)(kp:Nat)(A:bF):fZ (H.yP kp A) w S f:=
 ⟨jH.refl _ _,fun _ h=>.inl h,H.ig,H.ok,fun j r b h1 h2=>⟨.inr ⟨j,r,h1,h2⟩,(H.own j r b h1 h2).2⟩,H.apart⟩
theorem fZ.CL (H:fZ o w S f){b:Nat}(h:(H.yP kp A).new b):o.new b:=h.elim (fun q=>bD.Dg H.oK q) fun⟨j,rr,h1,h2⟩=>(H.own j rr b h1 h2).1
theorem fZ.back (H:fZ o w S f)(H2:fZ (H.yP kp A) w' S' g):fZ o w' S' g:=by
 refine⟨H.oK.trans H2.oK fun j hj q=>?_,fun k hk=>?_,H2.ig,H2.ok,fun j r b h1 h2=>?_,H2.apart⟩
 .rcases H.CL (kp:=kp) (A:=A) (.inr q) with q|q
  .omega
  exact q
 .rcases H2.src k hk with q|q
  .exact H.src k q
  exact .inr (H.CL q)
 obtain⟨x,y⟩:=H2.own j r b h1 h2
 exact⟨H.CL x,y⟩
theorem fZ.other (H:fZ o w S f)(hl:o.new l)(hS:¬S l)(hn:∀j r,f j=some r->¬r.has l)(hg:jH w w' (· =l)):fZ o w' S f where
 oK:=H.oK.trans hg fun j hj q=>by
  subst q
  rcases hl with q|q
  .omega
  exact q
 src:=H.src
 ig k hk:=Nat.lt_of_lt_of_le (H.ig k hk) hg.size
 ok j r hj:=r.keep _ _ _ (H.ok j r hj) (fun k hk=>hg.block k (H.ig k hk) fun e=>hS (e▸hk)) fun b hb=>hg.block b (H.own j r b hj hb).2.1 fun e=>hn j r hj (e▸hb)
 own j r b hj hb:=let⟨x,y,z⟩:=H.own j r b hj hb;⟨x,Nat.lt_of_lt_of_le y hg.size,z⟩
 apart:=H.apart
theorem TA (w:World)(l:Nat)(x:Obj):jH w (w.putObj l x) (· =l):=⟨rfl,rfl,rfl,by rw[World.putObj_size];exact Nat.le_refl _,fun k _ hn=>World.putObj_heap_other hn⟩
def Lone (o:bD)(S:aL)(f:Nat->Option Rs)(w:World)(l:Nat):Prop:=o.new l/\¬S l/\(∀j r,f j=some r->¬r.has l)/\l<w.heap.size
structure MS (o:bD)(kp:Nat)(A0:bF)(S0:aL)(l D:Nat)(σ:gH)(A:bF)(S:aL)(W:World):Prop where
 bB:fZ o W S (bq A (iL σ))
 dD:∀j x,iL σ j=some x->j<σ.nx/\x.all (· <σ.nx)/\x.b9 A
 TB:cV (· <kp) A0 A
 s0:∀k,S0 k->(∀j r,bq A (iL σ) j=some r->¬r.has k)/\k<W.heap.size
 l1:Lone o S (bq A (iL σ)) W l
 d1:Lone o S (bq A (iL σ)) W D
theorem MS.lone (m:MS o kp A0 S0 l D σ A S W){k:Nat}(hk:Lone o S (bq A (iL σ)) W k)(H2:fZ (m.bB.yP kp A) w' S' g):Lone o S' g w' k/\w'.heap[k]?=W.heap[k]?:=by
 obtain⟨h1,h2,h3,h4⟩:=hk
 have y5:¬(m.bB.yP kp A).new k:=fun q=>q.elim (fun q=>by have q:W.heap.size<=k:=q;omega) fun⟨j,r,q1,q2⟩=>h3 j r q1 q2
 refine⟨⟨h1,fun q=>?_,fun j r q1 q2=>y5 (H2.own j r k q1 q2).1,Nat.lt_of_lt_of_le h4 H2.oK.size⟩,H2.oK.block k h4 fun q=>y5 (.inr q)⟩
 rcases H2.src k q with q|q
 .exact h2 q
 exact y5 q
theorem MS.keeps (m:MS o kp A0 S0 l D σ A S W)(H2:fZ (m.bB.yP kp A) w' S' g):cN S0 W w':=fun k hk=>H2.oK.block k (m.s0 k hk).2 fun⟨j,r,q1,q2⟩=>(m.s0 k hk).1 j r q1 q2
theorem MS.next (m:MS o kp A0 S0 l D σ A S W){a:Act}(H2:cz (m.bB.yP kp A) n A' S' (· <σ2.nx) s (iL σ2) a w'):MS o kp A0 S0 l D σ2 A' S' w' where
 bB:=m.bB.back H2.bB
 dD:=H2.dD
 TB:=m.TB.trans H2.wO.2
 s0 k hk:=by
  obtain⟨h1,h2⟩:=m.s0 k hk
  refine⟨fun j r q1 q2=>?_,Nat.lt_of_lt_of_le h2 H2.bB.oK.size⟩
  rcases(H2.bB.own j r k q1 q2).1 with q|⟨j,r,q1,q2⟩
  .have q:W.heap.size<=k:=q
   omega
  exact h1 j r q1 q2
 l1:=(m.lone m.l1 H2.bB).1
 d1:=(m.lone m.d1 H2.bB).1
theorem MS.put (m:MS o kp A0 S0 l D σ A S W)(x:Obj)(hlD:l≠D):MS o kp A0 S0 l D σ A S (W.putObj l x) where
 bB:=m.bB.other m.l1.1 m.l1.2.1 m.l1.2.2.1 (TA W l x)
 dD:=m.dD
 TB:=m.TB
 s0 k hk:=⟨(m.s0 k hk).1,by rw[World.putObj_size];exact(m.s0 k hk).2⟩
 l1:=⟨m.l1.1,m.l1.2.1,m.l1.2.2.1,by rw[World.putObj_size];exact m.l1.2.2.2⟩
 d1:=⟨m.d1.1,m.d1.2.1,m.d1.2.2.1,by rw[World.putObj_size];exact m.d1.2.2.2⟩
end
theorem Bg {S:aL}{w W:World}{l:Nat}(x:Obj)(h:cN S w W)(hl:∀k,S k->k≠l):cN S w (W.putObj l x):=fun k hk=>(World.putObj_heap_other (hl k hk)).trans (h k hk)
theorem Xu {a:Act}(ha:a.defers=[])(D:Nat)(ds:List Deferred):({fe a ds with defers:=[cD D]++(fe a ds).defers}:Act)=fe (fe a [cD D]) ds:=by
 unfold fe;rw[ha];simp
section
variable {mo:Mode}{P:Program}{o:bD}{n:Nat}{σ:gH}{a:Act}{w:World}{T:List (cE P)}{B:Code}{Q:iu}{st:List It}
theorem yL {ds:List Deferred}(D:Nat):∀ {r:List It} (e:Exit) (a:Act) (w:World),Xr r=true->post ⟨none,cD D::ds⟩ P B (Lf D Q) r e a w->post ⟨none,ds⟩ P B Q r e (fe a [cD D]) w
 |[],e,a,w,_,h=>h
 | .lp _::_,_,_,_,hr,_=>by cases hr
 | .dM i::r,e,a,w,hr,h=>by
  have ih:=fun e a w=>yL (ds:=ds) D (r:=r) e a w hr
  cases e with
  |exit j=>
   have h:if j=i then post ⟨none,cD D::ds⟩ P B (Lf D Q) r .normal a w else post ⟨none,cD D::ds⟩ P B (Lf D Q) r (.exit j) a w:=h
   show if j=i then post ⟨none,ds⟩ P B Q r .normal _ w else post ⟨none,ds⟩ P B Q r (.exit j) _ w
   split
   .rename_i q;rw[if_pos q] at h;exact ih _ _ _ h
   rename_i q;rw[if_neg q] at h;exact ih _ _ _ h
  |_=>exact ih _ _ _ h
 | .run p::r,e,a,w,hr,h=>by
  have ih:=fun e a w=>yL (ds:=ds) D (r:=r) e a w hr
  cases e with
  |normal=>
   have h:(sub B p).wpIn Fence.wide 0 P (oh ⟨none,cD D::ds⟩ (post ⟨none,cD D::ds⟩ P B (Lf D Q) r)) (fe a (cD D::ds)) w:=h
   show(sub B p).wpIn Fence.wide 0 P (oh ⟨none,ds⟩ (post ⟨none,ds⟩ P B Q r)) (fe (fe a [cD D]) ds) w
   rw[yK]
   refine wpIn_mono h fun e a w ⟨a0,h1,h2⟩=>⟨fe a0 [cD D],?_,ih _ _ _ h2⟩
   rw[h1,yK];rfl
  |_=>exact ih _ _ _ h
theorem E6 {Y:Type}{f:FuncId}(hit:Jv P f)(acc:Y->gH)(kp:Nat)(Inv:Nat->Y->Prop)(y0:Y)(ρ:List (Nat×Option Nat))(pd:kW (El vB))(d:List (List Int)×(List (Int×Int)×(List (Int×Int)×List Int)))
  (h:iK o n σ a w) (hpd:pd=(some d:Option (El vB))) (hI:Inv 0 y0)
  (round:∀(k:Nat) (y:Y) (og:Orig) (G:Nat->Prop) (gS:∀b,G b->¬og.S b) (gin:∀b,G b->b<og.w.heap.size) (A:bF) (l:Nat) (a:Act) (w:World) (K:iu),
   (∀(y':Y) (ρ:List (Nat×Option Nat)) {BT:gH} {a:Act} {w:World},iK ⟨og,G,gS,gin,(· <kp),A,kp⟩ n BT a w->Inv (k+1) y'->(h2:fU ρ BT (P7 (acc y')):=by delta fU;kernel_rfl)->(h3:iO ρ (P7 (acc y'))=true:=by kernel_rfl)->(h4:qI ρ kp=true:=by kernel_rfl)->K .normal a w)->
   k<d.2.2.2.length->Inv k y->iK ⟨og,G,gS,gin,(· <kp),A,kp⟩ n (xS (y8 P T [] n B [.run ((gI (uI B n (acc y0) st)).pt++[0])] (Tz (gI (uI B n (acc y0) st)).p (d.2.2.2.getD k 0) (acc y)))) a w->
   At ⟨some l,[]⟩ P T B K [.run ((gI (uI B n (acc y0) st)).pt++[1])] a w)
  (after:∀(y:Y) (D:Nat) (a:Act) (w:World),Inv d.2.2.2.length y->iK o n (abx D (acc y)) a w->At ⟨none,cD D::mo.ds⟩ P T B (Lf D Q) (gI (uI B n (acc y0) st)).r a w)
  (JR:mo.ro=none:=by rfl) (ht:(uI B n (acc y0) st).isSome=true:=by kernel_rfl) (hf:(gI (uI B n (acc y0) st)).f=f:=by kernel_rfl)
  (hj:iL (acc y0) (gI (uI B n (acc y0) st)).j=some (.ext (.uK vB pd)):=by kernel_rfl)
  (c1:∀y,(acc y).env=(acc y0).env:=by intro y;kernel_rfl) (c2:abw kp (acc y0).env=true:=by kernel_rfl) (c3:∀y,P6 (acc y).rs=true:=by intro y;kernel_rfl)
  (c4:∀y,Nat.ble kp (acc y).nx=true:=by intro y;kernel_rfl) (c5:Nat.ble o.kp kp=true:=by kernel_rfl)
  (c6:(Nat.blt (gI (uI B n (acc y0) st)).q kp && Nat.blt (gI (uI B n (acc y0) st)).j kp)=true:=by kernel_rfl) (c7:∀y,qB (gI (uI B n (acc y0) st)) (acc y)=true:=by intro y;kernel_rfl)
  (c8:∀y x,aan (y8 P T [] n B [.run ((gI (uI B n (acc y0) st)).pt++[0])] (Tz (gI (uI B n (acc y0) st)).p x (acc y)))=true:=by intro y x;kernel_rfl)
  (h1:ey ρ σ (acc y0):=by delta ey;kernel_rfl) (h2:fU ρ σ (acc y0):=by delta fU;kernel_rfl) (h3:iO ρ (acc y0)=true:=by kernel_rfl) (h4:qI ρ o.kp=true:=by kernel_rfl):At mo P T B Q st a w:=by
 have hs:=tZ ρ h h1 h2 h3 h4
 clear h h1 h2 h3 h4
 subst hpd
 obtain⟨I,H8⟩:=Option.isSome_iff_exists.1 ht
 simp only[H8,gI] at round after hf hj c6 c7 c8
 clear ht
 unfold uI at H8
 split at H8
 .rename_i pt r
  split at H8
  .rename_i t ps asg body jT
   split at H8
   .rename_i x f' q JF he
    split at H8
    .rename_i bt j hR
     split at H8
     .rename_i hg
      cases H8
      dsimp only at round after hf hj c6 c7 c8
      subst hf
      obtain⟨⟨A0,S0,H⟩,abT,np⟩:=hs
      rw[Bool.and_eq_true] at hg c6
      have hxn:=pQ hg.1
      have hq:=pQ c6.1
      have hjk:=pQ c6.2
      have aap:ps= #[x]:=by rw[<-Array.toList_inj,JF]
      have hv:a.eval (.tmp t)= .func (.func f') #[] #[.pointer (some ⟨A0.b q,0,none⟩)]:=by
       have hv:=(H.env t _ he).1 (fun l hl=>by cases hl)
       simp only[Act.eval,Array.getD_eq_getD_getElem?]
       rw[show a.tmps[t]?=some (.func (.func f') #[] #[.pointer (some ⟨A0.b q,0,none⟩)]) from hv];rfl
      have CM:∀y t e,ni (acc y) t=some e->e.ch=[]/\e.sy.all (· <kp)/\(∀A,e.sy.b9 A)/\∀A,cV (· <kp) A0 A->C2 a ⟨t,e.ch,e.sy.den A⟩:=fun y t e ht=>by
       have ht:ni (acc y0) t=some e:=by unfold ni at ht ⊢;rw[<-c1 y];exact ht
       have hm:(t,some e)∈(acc y0).env:=(pX ht).resolve_left fun q=>by cases q
       have:=List.all_eq_true.1 c2 _ hm
       simp only[Bool.and_eq_true] at this
       obtain⟨k1,k2⟩:=Xt this.2
       exact⟨List.isEmpty_iff.1 this.1,k1,k2,fun A hA=>by rw[<-Sy.congr hA k1];exact H.env t e ht⟩
      have X9:∀y j,j<kp->j<(acc y).nx:=fun y j hj=>Nat.lt_of_lt_of_le hj (Nat.le_of_ble_eq_true (c4 y))
      have hm:bq A0 (iL (acc y0)) j=some (R2.den A0 j (.ext (.uK vB (show kW (El vB) from(some d:Option (El vB)))))):=by show(iL (acc y0) j).map _=_;rw[hj];rfl
      have gz:Rd S0 w (.pointer (A0.p j)) (show kW (El vB) from(some d:Option (El vB))):=H.bB.ok j _ hm
      obtain⟨rb,cur,ct,fz,cs,e1,e2,e3,e4,e5⟩:=(show kf S0 w (.pointer (A0.p j)) (some d:Option (El vB)) from ny gz)
      obtain⟨v3,hv3,jm⟩:=(gK vB e4).get (j:=3) (c:=.l .int d.2.2.2) rfl
      have jm:Rd S0 w v3 (show List Int from d.2.2.2):=jm
      obtain⟨pp,cap,rfl,z1,z2,z3⟩:=cn jm
      have e53:=(e5 3 (by decide)).trans hv3
      generalize XU:d.2.2.2=zs at*
      refine⟨?_⟩
      show(sub B pt).jK mo P (post mo P B Q r) a w
      rw[jT]
      obtain⟨ro,ds⟩:=mo
      have JR:ro=none:=JR
      subst JR
      show(Code.rangeFunc (.tmp t) ps asg body).wpIn Fence.wide 0 P (oh ⟨none,ds⟩ (post ⟨none,ds⟩ P B Q r)) (fe a ds) w
      refine wpIn_rangeFunc fun fn _=>?_
      obtain⟨rec,Hj⟩:∃rec:LoopState->Option Code->Loop,rec=fun st pe=>{state:=st,pending:=pe,fn,tmps:=a.tmps,params:=ps,assign:=asg,body,defers:=w.heap.size}:=⟨_,rfl⟩
      obtain⟨W1,hW1⟩:∃W1,(w.alloc (.deferred (some []))).alloc (.loop (rec .ready none))=W1:=⟨_,rfl⟩
      have hL1:W1.heap[w.heap.size+1]?=some (.loop (rec .ready none)):=by
       rw[<-hW1];have:=World.alloc_heap_new (w.alloc (.deferred (some []))) (.loop (rec .ready none));rwa[World.size_alloc] at this
      have cq:W1.heap[w.heap.size]?=some (.deferred (some [])):=by
       rw[<-hW1];exact(Below.heap_alloc _ _ _ (by simp)).trans (World.alloc_heap_new w _)
      have hb1:Below w.heap.size w W1:=by
       rw[<-hW1];exact((Below.refl _ w).alloc (Nat.le_refl _) _).alloc (by simp) _
      have cw:W1.heap.size=w.heap.size+2:=by rw[<-hW1];simp
      have hSl:∀k,S0 k->k≠w.heap.size+1:=fun k hk e=>by have:=H.bB.ig k hk;omega
      have eg:∀args w,(callFunc f' args).run P w= .ok (.enter f' args) w:=by
       obtain⟨⟨fn,q1,q2,q3⟩,_⟩:=hit
       intro args w
       have Yp:¬fn.name= "runtime.NumGoroutine" :=by simpa using q3
       have ng:¬fn.body=none:=by
        intro e;rw[e] at q2;cases q2
       simp[callFunc,program,Sem.run,q1,Yp,ng]
      refine⟨w.heap.size+1,[cD w.heap.size],W1,{target:=.fn (.func f') #[.pointer (some ⟨A0.b q,0,none⟩)],args:= #[.func (.yield (w.heap.size+1)) #[] #[]]},W1,f',
       #[.func (.yield (w.heap.size+1)) #[] #[]]++ #[.pointer (some ⟨A0.b q,0,none⟩)],W1,?_,?_,?_,?_,(fun q=>by cases q),?_⟩
      .rw[<-hW1,Hj];exact run_enterLoop_outer _ _ _ _ _
      .simp only[resolve,Am,hv]
       simp[go_sem]
      .intro _ _;trivial
      .simp[invoke,go_sem,eg]
      obtain⟨J,hJ⟩:∃J:Nat->World->Prop,J=fun k W=> ∃y A S,Inv k y/\MS o kp A0 S0 (w.heap.size+1) w.heap.size (acc y) A S W/\cN S0 w W/\W.heap[w.heap.size+1]?=some (.loop (rec .ready none))/\W.heap[w.heap.size]?=some (.deferred (some [])):=⟨_,rfl⟩
      refine(hit.2 (w.heap.size+1) (A0.b q) rb cap pp zs J (Nat.le_trans z1 (Nat.le_trans z2 (by decide))) ?_ ?_ ?_ ?_ W1 ?_).mono ?_
      .rw[hJ]
       rintro k W ⟨y,A,S,_,m,_,_,_⟩
       have h7:=c7 y
       unfold qB at h7
       dsimp only at h7
       split at h7
       .rename_i bt' j' JK
        have:=cr h7
        subst this
        have Fe:bq A (iL (acc y)) q=some (Rs.of (.box (A.b q) bt' [.pointer (A.p j')])):=by simp[bq,JK,R2.den,Sc.den]
        have hb:W.heap[A.b q]?=some (.cells #[.pointer (A.p j')] bt' (0,0)):=m.bB.ok q _ Fe
        have eb:A0.b q=A.b q:=(m.TB q hq).2.1
        have ep:A0.p j'=A.p j':=by
         have:=(m.TB j' hjk).1
         unfold bF.v at this
         injection this
        rw[eb,cell_of_row W _ 0 _ _ _ hb]
        show some (Value.pointer (A.p j'))=_
        rw[<-ep];exact congrArg some e1
       cases h7
      .rw[hJ]
       rintro k W ⟨y,A,S,_,m,hk,_,_⟩
       rw[cell_of_row W rb 3 cur ct fz ((hk rb e2).trans e3)]
       exact e53
      .rcases z3 with z3|⟨g,off,aaq,t',fz',z4,z5,z6,z7⟩
       .exact .inl z3
       refine .inr ⟨g,off,z4,?_⟩
       rw[hJ]
       rintro k W ⟨y,A,S,_,m,hk,_,_⟩ i hi
       obtain⟨sk,q1,q2⟩:=z7 i hi
       have q1:sk=[.int .i64 zs[i]]:=q1
       have q2:=q2 0 (by decide)
       rw[cell_of_row W g (off+i) aaq t' fz' ((hk g z5).trans z6)]
       have q2:aaq[off+i*1+0]?=sk[0]?:=q2
       rw[Nat.mul_one,Nat.add_zero] at q2
       rw[q2,q1,List.getD_eq_getElem?_getD,List.getElem?_eq_getElem hi];rfl
      ·
       subst hJ
       rintro k W ⟨y,A,S,hi,m,hk,hl,hD⟩ iH
       have hy:=run_yield (P:=P) (args:= #[.int .i64 (zs.getD k 0)]) hl (by rw[Hj,aap];rfl)
       rw[Hj] at hy
       refine⟨fn,_,asg,body,hy,roundIn_of_wpIn tv ?_⟩
       have aby:({tmps:=(ps.zip #[.int .i64 (zs.getD k 0)]).foldl (fun t (p,v)=>t.setIfInBounds p v) a.tmps,defers:=[]}:Act)=a.put (some x) (.int .i64 (zs.getD k 0)):=by
        have hd:=H.eY
        obtain⟨tm,df⟩:=a
        simp only at hd
        subst hd aap
        simp[Act.put]
       have H1:cz (m.bB.yP kp A) n A S (· <(acc y).nx) (ni (acc y)) (iL (acc y)) a W:=
        ⟨H.size,H.eY,fun t e he=>(CM y t e he).2.2.2 A m.TB,fun t e he _=>⟨Sy.mono (X9 y) (CM y t e he).2.1,(CM y t e he).2.2.1 A⟩,m.dD,m.bB.aao kp A,fun j x hj=>gB (yI (c3 y) hj),⟨X9 y,cV.refl _ _⟩⟩
       have H2:=H1.put (C:=[]) (d:=x) (y:=.one (.v (.int .i64 (zs.getD k 0)))) (u:=.int .i64 (zs.getD k 0)) hxn (fun t e he l hl=>by rw[(CM y t e he).1] at hl;cases hl) (fun l hl=>by cases hl) (fun _=>⟨tv,tv⟩) ⟨fun _=>rfl,fun q=>(q fun l hl=>by cases hl).elim⟩
       have O2:iK (m.bB.yP kp A) n (Tz x (zs.getD k 0) (acc y)) (a.put (some x) (.int .i64 (zs.getD k 0))) W:=by
        refine⟨⟨A,S,H2⟩,fun t e he=>?_,fun j q=>q⟩
        have he:k8 (ni (acc y)) x (some ⟨[],.one (.v (.int .i64 (zs.getD k 0)))⟩) t=some e:=he
        by_cases q:x=t
        .subst q;rw[eS] at he;cases he;rfl
        rw[lD q] at he;exact(CM y t e he).1
       have h8:=c8 y (zs.getD k 0)
       have gz:=round k y
       cases hE:y8 P T [] n B [.run (pt++[0])] (Tz x (zs.getD k 0) (acc y)) with
       |none=>rw[hE] at h8;cases h8
       |some ex=>
       rw[hE] at h8 gz
       unfold aan at h8
       simp only[Bool.and_eq_true] at h8
       obtain⟨a1,a2,a3,a4⟩:=h8
       have a1:=List.isEmpty_iff.1 a1
       have a2:=List.isEmpty_iff.1 a2
       have a3:ex.st=[]:=by cases tI:ex.st<;>rw[tI] at a3<;>first|rfl|cases a3
       have G1:=(go (mo:=⟨some (w.heap.size+1),[]⟩) (T:=T) (B:=B) (st:=[.run (pt++[0])]) (pr:=True) (Q:=fun e a1 w1=>e= .normal/\iK (m.bB.yP kp A) n ex.σ a1 w1) [] O2 tv
        (fun a w h=>by rw[hE] at h ⊢;show At _ P T B _ ex.st a w;rw[a3];exact⟨⟨rfl,h⟩⟩) (by rw[hE];rfl) (by rw[hE];show QY ex.cs=True;rw[a1];rfl) (fun A w=>by rw[hE];show ex.hs.map _=_;rw[show xH (some ex)=ex.hs from rfl,a2];rfl)).get
       have G1:(sub B (pt++[0])).jK ⟨some (w.heap.size+1),[]⟩ P (fun e a1 w1=>e= .normal/\iK (m.bB.yP kp A) n ex.σ a1 w1) (a.put (some x) (.int .i64 (zs.getD k 0))) W:=by
        refine xu G1 fun e a w h=>?_
        cases e with
        |normal=>exact h
        |_=>exact h
       rw[dU,jT,Hh] at G1
       have G1:asg.wpIn (Fence.wide.inRound (w.heap.size+1)) 0 P (oh ⟨some (w.heap.size+1),[]⟩ (fun e a1 w1=>e= .normal/\iK (m.bB.yP kp A) n ex.σ a1 w1)) (fe (a.put (some x) (.int .i64 (zs.getD k 0))) []) W:=G1
       rw[kE] at G1
       rw[aby]
       refine wpIn_mono G1 ?_
       rintro e a1' w1 ⟨a0,ea,rfl,hq⟩
       have ea:a1'=fe a0 []:=ea
       rw[kE] at ea
       subst ea
       obtain⟨⟨A1,S1,K2⟩,ch1,_⟩:=hq
       have m1:=m.next K2
       have eZ:=(m.lone m.l1 K2.bB).2.trans hl
       have hD1:=(m.lone m.d1 K2.bB).2.trans hD
       have Ki:cN S0 w w1:=fun i hi=>(m.keeps K2.bB i hi).trans (hk i hi)
       refine⟨_,run_beginRound eZ (by rw[Hj]),?_⟩
       have m2:=m1.put (.loop {rec .ready none with state:=.busy}) (by omega)
       have fS:(w1.putObj (w.heap.size+1) (.loop {rec .ready none with state:=.busy})).heap[w.heap.size+1]?=some (.loop {rec .ready none with state:=.busy}):=World.putObj_heap_same m1.l1.2.2.2
       have hD2:(w1.putObj (w.heap.size+1) (.loop {rec .ready none with state:=.busy})).heap[w.heap.size]?=some (.deferred (some [])):=(World.putObj_heap_other (by omega)).trans hD1
       have hk2:=Bg (.loop {rec .ready none with state:=.busy}) Ki hSl
       have H3:cz (m2.bB.yP kp A1) n A1 S1 (· <ex.σ.nx) (ni ex.σ) (iL ex.σ) a1' _:=
        ⟨K2.size,K2.eY,K2.env,K2.kZ,m2.dD,m2.bB.aao kp A1,fun j x hj=>gB (yI a4 hj),⟨K2.wO.1,cV.refl _ _⟩⟩
       have B2:=(gz (m2.bB.yP kp A1).toOrig (m2.bB.yP kp A1).G (m2.bB.yP kp A1).gS (m2.bB.yP kp A1).gin A1 (w.heap.size+1) a1' _ (fun e a3 w3=>e= .normal/\∃y',Inv (k+1) y'/\iK (m2.bB.yP kp A1) n (P7 (acc y')) a3 w3)
        (fun y' fK _ _ _ hk Lt h2 h3 h4=>⟨rfl,y',Lt,tZ fK hk rfl h2 h3 h4⟩) iH hi ⟨⟨A1,S1,H3⟩,ch1,fun j q=>q⟩).get
       have B2:(sub B (pt++[1])).jK ⟨some (w.heap.size+1),[]⟩ P (fun e a3 w3=>e= .normal/\∃y',Inv (k+1) y'/\iK (m2.bB.yP kp A1) n (P7 (acc y')) a3 w3) a1' (w1.putObj (w.heap.size+1) (.loop {rec .ready none with state:=.busy})):=by
        refine xu B2 fun e a w h=>?_
        cases e with
        |normal=>exact h
        |_=>exact h
       rw[dU,jT,Hi] at B2
       have B2:body.wpIn (Fence.wide.inRound (w.heap.size+1)) 0 P (oh ⟨some (w.heap.size+1),[]⟩ (fun e a3 w3=>e= .normal/\∃y',Inv (k+1) y'/\iK (m2.bB.yP kp A1) n (P7 (acc y')) a3 w3)) (fe a1' []) (w1.putObj (w.heap.size+1) (.loop {rec .ready none with state:=.busy})):=B2
       rw[kE] at B2
       refine wpIn_mono B2 ?_
       rintro e a3 w3 ⟨a4',_,rfl,y',Lt,⟨A3,S3,K4⟩,_,_⟩
       have m3:MS o kp A0 S0 (w.heap.size+1) w.heap.size (acc y') A3 S3 w3:=m2.next (σ2:=acc y') K4
       have jm:=(m2.lone m2.l1 K4.bB).2.trans fS
       have hD3:=(m2.lone m2.d1 K4.bB).2.trans hD2
       have hk3:cN S0 w w3:=fun i hi=>(m2.keeps K4.bB i hi).trans (hk2 i hi)
       refine⟨_,_,run_endRound (P:=P) none jm,rfl,y',A3,S3,Lt,m3.put _ (by omega),Bg _ hk3 hSl,?_,(World.putObj_heap_other (by omega)).trans hD3⟩
       rw[World.putObj_heap_same m3.l1.2.2.2,Hj];rfl
      ·
       rw[hJ]
       have hS:∀k,S0 k->k<w.heap.size:=H.bB.ig
       have iJ:∀j r b,bq A0 (iL (acc y0)) j=some r->r.has b->b<w.heap.size:=fun j r b q1 q2=>(H.bB.own j r b q1 q2).2.1
       have abU:=H.bB.oK.size
       refine⟨y0,A0,S0,hI,⟨H.bB.on hb1,H.dD,cV.refl _ _,fun k hk=>⟨fun j r q1 q2=>(H.bB.own j r k q1 q2).2.2 hk,by have:=hS k hk;omega⟩,⟨.inl (by omega),fun q=>by have:=hS _ q;omega,fun j r q1 q2=>by have:=iJ j r _ q1 q2;omega,by omega⟩,
        ⟨.inl (by omega),fun q=>by have:=hS _ q;omega,fun j r q1 q2=>by have:=iJ j r _ q1 q2;omega,by omega⟩⟩,fun k hk=>hb1.block k (hS k hk),hL1,cq⟩
      rw[hJ]
      rintro e W2 ⟨⟨v,rfl⟩,y,A,S,hi,m,hk,hl,hD⟩
      refine⟨none,W2.putObj (w.heap.size+1) (.loop {rec .ready none with state:=.exhausted}),by have:=run_endLoop (P:=P) hl (by rw[Hj];simp);rw[Hj] at this ⊢;exact this,?_⟩
      have m4:=m.put (.loop {rec .ready none with state:=.exhausted}) (by omega)
      have hD4:(W2.putObj (w.heap.size+1) (.loop {rec .ready none with state:=.exhausted})).heap[w.heap.size]?=some (.deferred (some [])):=(World.putObj_heap_other (by omega)).trans hD
      have hkp:=Nat.le_of_ble_eq_true c5
      have H5:cz o n A S (· <(acc y).nx+1) (ni (acc y)) (iL (acc y)) a (W2.putObj (w.heap.size+1) (.loop {rec .ready none with state:=.exhausted})):=
       ⟨H.size,H.eY,fun t e he=>(CM y t e he).2.2.2 A m.TB,fun t e he _=>⟨Sy.mono (fun j hj=>Nat.lt_succ_of_lt (X9 y j hj)) (CM y t e he).2.1,(CM y t e he).2.2.1 A⟩,
        fun j x hj=>⟨Nat.lt_succ_of_lt (m4.dD j x hj).1,R2.mono (fun j hj=>Nat.lt_succ_of_lt hj) (m4.dD j x hj).2.1,(m4.dD j x hj).2.2⟩,m4.bB,fun j x hj=>gB (yI (c3 y) hj),
        ⟨fun j hj=>Nat.lt_succ_of_lt (X9 y j (Nat.lt_of_lt_of_le (np j hj) hkp)),H.wO.2.trans (m.TB.mono fun j hj=>Nat.lt_of_lt_of_le (np j hj) hkp)⟩⟩
      have H6:=H5.lZ (w':=W2.putObj (w.heap.size+1) (.loop {rec .ready none with state:=.exhausted})) (S':=S) (acc y).nx (some (.ext (.Df w.heap.size))) (fun y e=>by cases e;exact⟨Nat.lt_succ_self _,tv,tv⟩) (fun y e=>by cases e;exact gB rfl)
       (m4.bB.put _ (L2 w.heap.size) hD4 fun b e=>by
        have e:b=w.heap.size:=e
        subst e
        exact⟨m4.d1.1,m4.d1.2.2.2,m4.d1.2.1,fun i ri _ hi=>m4.d1.2.2.1 i ri hi⟩)
      refine⟨fe a [cD w.heap.size],Xu H.eY _ _,yL w.heap.size _ _ _ hg.2 (after y w.heap.size a _ hi ⟨⟨A,S,H6⟩,fun t e he=>(CM y t e he).1,np⟩).get⟩
     cases H8
    cases H8
   cases H8
  cases H8
 cases H8
theorem rg_ (k:Q .normal a w)(ht:Xs st=true:=by kernel_rfl):At mo P T B Q st a w:=by
 unfold Xs at ht
 split at ht
 .exact⟨k⟩
 cases ht
def Bh:List Nat->iu->iu
 |[],Q=>Q
 |D::Ds,Q=>Lf D (Bh Ds Q)
theorem E7:∀ {Ds:List Nat} {e:Exit} {a:Act} {w:World},Bh Ds Q e a w↔Q e (fe a (Ds.map cD)) w
 |[],e,a,w=>by rw[List.map_nil,kE];exact Iff.rfl
 |D::Ds,e,a,w=>by
  show Bh Ds Q e (fe a [cD D]) w↔_
  rw[E7,yK];rfl
def TC (σ:gH)(j:Nat):gH:=⟨σ.env,(j,none)::σ.rs,σ.nx⟩
def lkD:List Nat->List Nat->gH->Prop
 |[],[],_=>True
 |j::js,D::Ds,σ=>iL σ j=some (.ext (.Df D))/\lkD js Ds (TC σ j)
 |_,_,_=>False
theorem und {D j:Nat}(h:iK o n σ a w)(hj:iL σ j=some (.ext (.Df D))):w.heap[D]?=some (.deferred (some []))/\iK o n (TC σ j) a (w.putObj D (.deferred none)):=by
 obtain⟨⟨A,S,H⟩,h0,np⟩:=h
 have hm:bq A (iL σ) j=some (L2 D):=by show(iL σ j).map _=_;rw[hj];rfl
 refine⟨H.bB.ok j _ hm,⟨A,S,?_⟩,h0,np⟩
 exact H.lZ j none (fun y e=>by cases e) (fun y e=>by cases e) (H.bB.mut j hm ⟨rfl,rfl,rfl,by rw[World.putObj_size];exact Nat.le_refl _,fun k _ hn=>World.putObj_heap_other fun e=>hn e⟩)
theorem E8 {fn:Func}{R:Ending->World->Prop}:∀ {js Ds:List Nat} {σ:gH} {w:World},iK o n σ a w->lkD js Ds σ->(∀w',iK o n (js.foldl TC σ) a w'->LeavesInM Fence.wide 2 P fn a.tmps R [] .returning w')->LeavesInM Fence.wide 2 P fn a.tmps R (Ds.map cD) .returning w
 |[],[],σ,w,h,_,k=>k w h
 |j::js,D::Ds,σ,w,h,hl,k=>by
  obtain⟨h1,h2⟩:=und h hl.1
  exact⟨by simp,.inl ⟨D,_,rfl,run_takeDeferred h1,E8 h2 hl.2 k⟩⟩
 |[],_::_,_,_,_,hl,_=>hl.elim
 |_::_,[],_,_,_,hl,_=>hl.elim
theorem aar {o:Orig}{fn:Func}{rs:List Ty}{fx:iI rs}(js Ds:List Nat)(y:iI rs)(h:iK (bD.of o) n σ a w)(e:y=fx)(hl:lkD js Ds σ:=by first|exact tv|exact⟨by kernel_rfl,tv⟩|exact⟨by kernel_rfl,by kernel_rfl,tv⟩)(ht:DO B st=true:=by kernel_rfl)(hy:Zb P fn rs (js.foldl TC σ)=some ⟨y⟩:=by kernel_rfl):At ⟨none,Ds.map cD⟩ P T B (Bh Ds (bodyPostM Fence.wide 2 P fn (Hy o fun S v w'=>jS S w' rs v fx))) st a w:=by
 subst e
 have Lv:=h.ok.choose_spec.choose_spec.eY
 have key:LeavesInM Fence.wide 2 P fn a.tmps (Hy o fun S v w'=>jS S w' rs v y) (Ds.map cD) .returning w:=by
  refine E8 h hl fun w' h'=>?_
  obtain⟨⟨A,S,H⟩,h0⟩:=h'
  obtain⟨ys,h1,hy⟩:=oZ H hy
  obtain⟨h2,hy⟩:=oW hy
  obtain⟨x,h3,hy⟩:=uc H (T':=qN o w') (fun k hk=>sI hk) (fun c hc j hj z hz=>(oO H h2 c hc j hj z hz).up fun k hk=>sI hk) hy
  have hx:x=y:=by have:=Option.some.inj hy;exact congrArg ULift.down this
  subst hx
  exact⟨_,lF (ys:=ys.map (Sy.den A)) h1,_,rfl,F8 h3,xE H.bB.oK⟩
 have e1:∀e,(e= .normal\/e= .ret)->Bh Ds (bodyPostM Fence.wide 2 P fn (Hy o fun S v w'=>jS S w' rs v y)) e a w:=fun e he=>by
  rw[E7]
  have:LeavesInM Fence.wide 2 P fn (fe a (Ds.map cD)).tmps (Hy o fun S v w'=>jS S w' rs v y) (fe a (Ds.map cD)).defers .returning w:=by
   show LeavesInM Fence.wide 2 P fn a.tmps _ (a.defers++Ds.map cD) .returning w
   rw[Lv];exact key
  rcases he with rfl|rfl<;>exact this
 unfold DO at ht
 split at ht
 .rename_i p r
  refine⟨?_⟩
  show(sub B p).jK ⟨none,Ds.map cD⟩ P (post ⟨none,Ds.map cD⟩ P B _ r) a w
  have hc:sub B p= .ret:=by
   cases hc:sub B p<;>rw[hc] at ht<;>first|rfl|cases ht
  rw[hc]
  exact vO (kF (e1 _ (.inr rfl)))
 .exact⟨e1 _ (.inl rfl)⟩
 cases ht
theorem Xv {f:FuncId}(fn:Func)(n:Nat){args:List Value}{R:Ending->World->Prop}(hf:P.funcs[f]?=some fn)
  (k:∀a,T7 n a (Hu ((List.range args.length).zip args))->(sub (fn.body.getD .skip) []).wp P (bodyPostM Fence.wide 2 P fn R) a w) (hb:fn.body.isSome=true:=by kernel_rfl) (hn:fn.ntmps=n:=by kernel_rfl) (hl:decide (args.length<=n)=true:=by kernel_rfl):Calls P f args.toArray w R:=by
 obtain⟨B,hb⟩:=Option.isSome_iff_exists.1 hb
 rw[hb] at k
 have hl:=of_decide_eq_true hl
 refine callsIn_wide.1 (callsIn_of_wp_marks (F:=Fence.wide) (n:=2) hf hb tv (wpIn_wide.2 ?_) rfl)
 rw[<-Hv B]
 refine k _ ⟨?_,rfl,fun e he=>?_⟩
 .simp;omega
 obtain⟨x,hx,rfl⟩:=List.mem_map.1 he
 obtain⟨j,hj,rfl⟩:=List.getElem_of_mem hx
 have Hw:j<args.length:=by simp at hj;exact hj
 refine⟨fun _=>?_,fun hn=>(hn (fun l hl=>by simp at hl)).elim⟩
 simp only[List.getElem_zip,List.getElem_range]
 rw[Array.getElem?_append_left (by simpa using Hw)]
 simp[Hw]
theorem TD {f:FuncId}(fn:Func)(n:Nat)(T:List (cE P)){de:List (Bool×Ty)}{rs:List Ty}{oQ:ji de->Prop}{fx:ji de->iI rs}(hf:P.funcs[f]?=some fn)
  (k:∀(o:Orig) (x:ji de),oQ x->∀a w,iK (bD.of o) n (X7 de x) a w->At ⟨none,([]:List Nat).map cD⟩ P T (fn.body.getD .skip) (Bh [] (bodyPostM Fence.wide 2 P fn (Hy o fun S v w'=>jS S w' rs v (fx x)))) [.run []] a w)
  (hb:fn.body.isSome=true:=by kernel_rfl) (hn:fn.ntmps=n:=by kernel_rfl) (hl:decide (de.length<=n)=true:=by kernel_rfl):aS P f de rs oQ fx:=by
 intro o vs x hx Bw
 have hlen:=p7 hx
 refine Xv fn n hf (fun a ha=>?_) hb hn (by rw[hlen];exact hl)
 obtain⟨A,h1,h2,h3,h5,h4⟩:=p6 (o:=bD.of o) de x vs 0 L3 (fun _=>False) (o5 (fun k hk=>⟨hk,fun q=>q⟩) hx) fun _ _ q=>q
 have iP:∀t e,ni (X7 de x) t=some e->e.ch=[]/\∃y,(cZ de x 0).1[t]?=some y/\e=⟨[],y⟩:=fun t e he=>by
  obtain⟨_,y,q1,q2⟩:=j7 he
  exact⟨by rw[q2],y,by simpa using q1,q2⟩
 have H0:cz (bD.of o) n A o.S (fun _=>False) (fun _=>none) (fun _=>none) a o.w:=⟨ha.1,ha.2.1,fun _ _ q=>(by cases q),fun _ _ q=>(by cases q),fun _ _ q=>(by cases q),fZ.start (bD.of o),fun _ _ q=>(by cases q),⟨fun _ q=>q.elim,fun _ q=>q.elim⟩⟩
 have H1:=H0.ro (cV.refl _ _) h3
 have hle:∀j,FU (fun _=>False) (cZ de x 0).2 j->j<(cZ de x 0).2.length:=fun j hj=>by
  rcases hj with hj|⟨z,hz⟩
  .exact hj.elim
  have:=h5 _ hz;simpa using this
 have sJ:iK (bD.of o) n (X7 de x) a o.w:=by
  refine⟨⟨A,o.S,H1.size,H1.eY,fun t e he=>?_,fun t e he _=>?_,fun j y hj=>?_,H1.bB,H1.args,⟨fun _ q=>q.elim,fun _ q=>q.elim⟩⟩,fun t e he=>(iP t e he).1,fun _ q=>q.elim⟩
  .obtain⟨_,y,q1,rfl⟩:=iP t e he
   have hv:vs[t]?=some (y.den A):=by rw[<-h2,List.getElem?_map,q1];rfl
   have Km:=(List.getElem?_eq_some_iff.1 hv).1
   refine ha.2.2 ⟨t,[],y.den A⟩ (List.mem_map.2 ⟨(t,y.den A),?_,rfl⟩)
   refine List.mem_iff_getElem?.2 ⟨t,?_⟩
   rw[List.getElem?_zip_eq_some]
   exact⟨by simp[Km],hv⟩
  .obtain⟨_,y,q1,rfl⟩:=iP t e he
   have:=h4 y (List.mem_of_getElem? q1)
   exact⟨Sy.mono hle this.1,this.2⟩
  have:=H1.dD j y hj
  exact⟨hle j this.1,R2.mono hle this.2.1,this.2.2⟩
 have:=(k o x Bw a o.w sJ).get
 have this:(sub (fn.body.getD .skip) []).jK pl P (post pl P (fn.body.getD .skip) (bodyPostM Fence.wide 2 P fn (Hy o fun S v w'=>jS S w' rs v (fx x))) []) a o.w:=this
 exact xq.1 this
end
theorem P8:aS Tryz.prog 110 [(false,(.list .int)),(false,.int)] [(.list .int)] (fun x=>0<=(I_ x.2.1)/\(I_ x.2.1)<=((J_ x.1).length:Int)/\(J_ x.1).length<=1000000) (fun x=>(mF (J_ x.1) (I_ x.2.1),())):=by
 refine aF Tryz.f110 20 [] Tryz.func110 fun o x hd _ _ h=>?_
 obtain⟨(l:List Int),(i:Int),_⟩:=x
 have e7:=cg h 0 l
 change 0<=i/\i<=(l.length:Int)/\l.length<=1000000 at hd
 obtain⟨i0,i1,hl⟩:=hd
 refine go (pr:=(0<=(0:Int)/\(0:Int)<=(l.length:Int)/\(l.length:Int)<=2147483647)/\(0<=i/\i<=(l.length:Int))/\((List.replicate (0:Int).toNat 0).length+(l.drop i.toNat).length<=2147483647)/\(0<=i/\i<=i/\i<=(l.length:Int))/\(((List.replicate (0:Int).toNat 0)++(l.drop i.toNat)).length+(l.take i.toNat).length<=2147483647)) [] h ⟨⟨by omega,by omega,by omega⟩,ct,ln,⟨by omega,by omega,by omega⟩,ln⟩ fun _ _ h=>?_
 exact out (((((List.replicate (0:Int).toNat 0)++(l.drop i.toNat))++(l.take i.toNat)):List Int),()) h rfl
def P9:cE Tryz.prog:=plain P8
theorem TE:aS Tryz.prog 69 [(false,(.list .int))] [(.list .int)] (fun x=>(J_ x.1).length<=1000000) (fun x=>(bC (J_ x.1),())):=by
 refine aF Tryz.f69 24 [P9] Tryz.func69 fun o x hd _ _ h=>?_
 obtain⟨(l:List Int),_⟩:=x
 have e7:=cg h 0 l
 change l.length<=1000000 at hd
 have hb:=mG l l.length
 refine aC [] h fun _ _ h=>?_
 refine aK Int Int (fun i b=>⟨[(0,eo 0),(3,en b),(6,eo 0),(7,en (l.length:Int)),(8,en i)],[(0,some (.ar .int l))],1⟩) (fun i b=>0<=i/\i<=(l.length:Int)/\b=iQ l i.toNat) (fun i b=>((l.length:Int)-i).toNat) 0 0 (ir 1) h ⟨Int.le_refl _,Int.natCast_nonneg _,rfl⟩ fun i b _ _ _ cq hI h=>?_
 obtain⟨h0,h1,h2⟩:=hI
 refine aC [] h fun _ _ h=>?_
 refine ag h (fun(q1:i<(l.length:Int))=>?_) (fun(q1:¬(i<(l.length:Int)))=>?_)
 .obtain⟨b0,b1⟩:=mG l i.toNat
  rw[<-h2] at b0 b1
  refine go (pr:=(aV i l.length)/\(aV b l.length)) [] h ⟨bx,bx⟩ fun _ _ h=>?_
  refine ag h (fun(q2:(l.getD i.toNat 0)<(l.getD b.toNat 0))=>?_) (fun(q2:¬((l.getD i.toNat 0)<(l.getD b.toNat 0)))=>?_)
  .refine go (pr:=(aX .i64 (i+1))) [] h bw fun _ _ h=>?_
   exact bZ (cq (i+1) i (ir 1) h ⟨by omega,by omega,by rw[u5 l h0,<-h2,if_pos q2]⟩ (by omega))
  refine go (pr:=(aX .i64 (i+1))) [] h bw fun _ _ h=>?_
  exact bZ (cq (i+1) b (ir 1) h ⟨by omega,by omega,by rw[u5 l h0,<-h2,if_neg q2]⟩ (by omega))
 obtain⟨b0,b1⟩:=mG l i.toNat
 rw[<-h2] at b0 b1
 have he:i.toNat=l.length:=by omega
 rw[he] at h2
 refine go (pr:=(0<=b/\b<=(l.length:Int)/\l.length<=1000000)) [] h (⟨by omega,by omega,by omega⟩) fun _ _ h=>?_
 exact out ((mF l b:List Int),()) h (by rw[h2];rfl)
def TF:cE Tryz.prog:=plain TE
theorem Xw:aS Tryz.prog 114 [(false,(.list (.list .int))),(true,(.map .int .int)),(true,(.list .int))] [(.ptr (.pair (.list (.list .int)) (.pair (.map .int .int) (.pair (.map .int .int) (.list .int)))))] (fun x=>aO (K_ x.1)/\av (K_ x.1)) (fun x=>(some ((K_ x.1).map bC,(show bl .int Int from x.2.1),kJ (K_ x.1) (K_ x.1).length,(J_ x.2.2.1)),())):=by
 refine aF Tryz.f114 54 [TF] Tryz.func114 fun o x hd _ _ h=>?_
 obtain⟨(gy:List (List Int)),(lv:bl .int Int),(ds:List Int),_⟩:=x
 have e7:=eP h 0 gy
 have fS:=cg h 2 ds
 change aO gy/\av gy at hd
 obtain⟨gp,cw⟩:=hd
 have aas:=cw.1
 refine aC [] h fun _ _ h=>?_
 refine fB Int (List (List Int)) (List (Int×Int)) (fun i ts pl=>⟨[(7,ep 0),(20,eo 1),(21,en (gy.length:Int)),(22,en i)],[(0,some (.box 143 [.own 2,.mp 3,.mp 4,.own 5])),(1,some (.ar (.list .int) gy)),(2,some (.row 25 (.list .int) ts)),(3,some (.nA .int .int lv)),(4,some (.map .int .int pl)),(5,some (.ro .int ds))],6⟩) (fun i ts pl=>0<=i/\i<=(gy.length:Int)/\ts=(gy.take i.toNat).map bC/\pl=kJ gy i.toNat) (fun i ts pl=>((gy.length:Int)-i).toNat) 0 [] [] [(0,some 28675),(1,some 0),(2,none),(3,some 1),(4,some 16387),(5,some 2)] h ⟨Int.le_refl _,Int.natCast_nonneg _,rfl,rfl⟩ fun i ts pl _ _ _ cq hI h=>?_
 obtain⟨h0,h1,h2,h3⟩:=hI
 refine aC [] h fun _ _ h=>?_
 refine ag h (fun(q1:i<(gy.length:Int))=>?_) (fun(q1:¬(i<(gy.length:Int)))=>?_)
 .have hm:(gy.getD i.toNat [])∈gy:=af (by omega)
  have Oy:=cw.2 _ hm
  have UI:=D9 cw i.toNat
  have HJ:=fh (gy.getD i.toNat [])
  have hts:ts.length=i.toNat:=by rw[h2,List.length_map,List.length_take];omega
  have Yd:=xT (kJ gy i.toNat) (bC (gy.getD i.toNat []))
  refine go (pr:=(aV i gy.length)/\((gy.getD i.toNat []).length<=1000000)) [] h ⟨bx,by omega⟩ fun _ _ h=>?_
  refine aK Int (List (Int×Int)) (fun j pm=>⟨[(7,ep 0),(10,eo 1),(20,eo 2),(21,en (gy.length:Int)),(22,en i),(28,eo 1),(29,en ((bC (gy.getD i.toNat [])).length:Int)),(30,en j)],[(0,some (.box 143 [.own 3,.mp 4,.mp 5,.own 6])),(1,some (.ro .int (bC (gy.getD i.toNat [])))),(2,some (.ar (.list .int) gy)),(3,some (.row 25 (.list .int) ts)),(4,some (.nA .int .int lv)),(5,some (.map .int .int pm)),(6,some (.ro .int ds))],7⟩) (fun j pm=>0<=j/\j<=((bC (gy.getD i.toNat [])).length:Int)/\pm=sR (kJ gy i.toNat) (bC (gy.getD i.toNat [])) j.toNat) (fun j pm=>(((bC (gy.getD i.toNat [])).length:Int)-j).toNat) 0 pl (rk [0,20486,1,2,3,4,5]) h ⟨Int.le_refl _,Int.natCast_nonneg _,h3⟩ fun j pm _ _ _ fQ hI h=>?_
  obtain⟨j0,j1,j2⟩:=hI
  refine aC [] h fun _ _ h=>?_
  refine ag h (fun(q2:j<((bC (gy.getD i.toNat [])).length:Int))=>?_) (fun(q2:¬(j<((bC (gy.getD i.toNat [])).length:Int)))=>?_)
  .have hk:=gp _ hm _ (xR (af (l:=bC (gy.getD i.toNat [])) (i:=j.toNat) (d:=0) (by omega)))
   have hpj:=Yd j.toNat
   rw[<-j2] at hpj
   refine go (pr:=(aV j (bC (gy.getD i.toNat [])).length)/\(dc .int ((bC (gy.getD i.toNat [])).getD j.toNat 0))/\(pm.length<=2147483647)/\(aX .i64 (j+1))) [] h ⟨bx,wk,ln,bw⟩ fun _ _ h=>?_
   exact bZ (fQ (j+1) (cB pm ((bC (gy.getD i.toNat [])).getD j.toNat 0) j) (ir 7) h ⟨by omega,by omega,by rw[KB j0,<-j2]⟩ (by omega))
  have hj:j.toNat=(bC (gy.getD i.toNat [])).length:=by omega
  have hpm:=j2
  rw[hj] at hpm
  refine go (pr:=(ts.length+([bC (gy.getD i.toNat [])]:List (List Int)).length<=2147483647)/\(aX .i64 (i+1))) [] h ⟨ln,bw⟩ fun _ _ h=>?_
  exact bZ (cq (i+1) (ts++([bC (gy.getD i.toNat [])]:List (List Int))) pm (rk [0,2,32775,4,5,6]) h ⟨by omega,by omega,by rw[KD [] h0 q1,<-h2],by rw[KC h0];exact hpm⟩ (by omega))
 have he:i.toNat=gy.length:=by omega
 rw[he] at h2 h3
 rw[List.take_length] at h2
 refine aC [] h fun _ _ h=>?_
 exact out (((some (ts,(lv,(pl,ds)))):Option ((List (List Int))×(bl .int Int)×(bl .int Int)×List Int)),()) h (by rw[h2,h3];rfl)
def Xx:cE Tryz.prog:=plain Xw
theorem Xy:aS Tryz.prog 80 [(false,gX),(false,fR),(false,(.list (.list .int)))] [(.ptr (.pair (.list (.list .int)) (.pair (.map .int .int) (.pair (.map .int .int) (.list .int))))),.int] (fun x=>bz (I_ x.1.1)/\aO (K_ x.2.2.1)/\av (K_ x.2.2.1)) (fun x=>((bT (I_ x.1.1) (E_ x.1.2) (J_ x.2.1.1) (J_ x.2.1.2) (K_ x.2.2.1)).1,(bT (I_ x.1.1) (E_ x.1.2) (J_ x.2.1.1) (J_ x.2.1.2) (K_ x.2.2.1)).2,())):=by
 refine aF Tryz.f80 135 [wm,Xx] Tryz.func80 fun o x hd _ _ h=>?_
 obtain⟨⟨(n:Int),(E:List (Int×Int))⟩,⟨(V:List Int),(L:List Int)⟩,(T:List (List Int)),_⟩:=x
 have e7:=gL h 0 E
 have eZ:=cg h 1 V
 have fS:=cg h 2 L
 have jm:=eP h 3 T
 change bz n/\aO T/\av T at hd
 obtain⟨hn,gp,cw⟩:=hd
 have aas:=cw.1
 refine go (pr:=(bz n)) [] h hn fun _ _ h=>?_
 refine ag h (fun(q1:¬(aA n E V L=0))=>?_) (fun(q1:aA n E V L=0)=>?_)
 .refine aC [] h fun _ _ h=>?_
  exact out ((none:Option ((List (List Int))×(bl .int Int)×(bl .int Int)×List Int)),(aA n E V L:Int),()) h (by simp only[bT,if_pos q1];rfl)
 have gw:=q1
 obtain⟨hr,_,hL,_⟩:=aD gw
 obtain⟨r1,r2,r3,_⟩:=aN hr
 have vf:=ay hL (by omega)
 refine aC [] h fun _ _ h=>?_
 refine ag h (fun(q2:¬((T.length:Int)=n))=>?_) (fun(q2:(T.length:Int)=n)=>?_)
 .refine aC [] h fun _ _ h=>?_
  exact out ((none:Option ((List (List Int))×(bl .int Int)×(bl .int Int)×List Int)),((5:Int):Int),()) h (by rw[xW gw q2];rfl)
 have hT:=q2
 refine go (pr:=(aX .i64 (2*(L.length:Int)))/\(aX .i64 (2*(L.length:Int)))/\(0<=(0:Int)/\(0:Int)<=2*(L.length:Int)/\2*(L.length:Int)<=2147483647)) [] h ⟨bw,bw,⟨by omega,by omega,by omega⟩⟩ fun _ _ h=>?_
 refine fB Int (List (Int×Int)) (List Int) (fun i lv ds=>⟨[(2,eo 0),(3,ep 1),(9,em 2),(10,eo 3),(44,eo 4),(45,en (L.length:Int)),(46,en i)],[(0,some (.ar (.list .int) T)),(1,some (.box 24 [.v (.int .i64 n),.own 5])),(2,some (.map .int .int lv)),(3,some (.row 3 .int ds)),(4,some (.ar .int L)),(5,some (.ar fA E))],6⟩) (fun i lv ds=>0<=i/\i<=(L.length:Int)/\lv=r8 E L i.toNat/\ds=dA L i.toNat) (fun i lv ds=>((L.length:Int)-i).toNat) 0 [] [] (rk [3,4,77828,102404,2,0]) h ⟨Int.le_refl _,Int.natCast_nonneg _,rfl,rfl⟩ fun i lv ds _ _ _ cq hI h=>?_
 obtain⟨i0,i1,i2,i3⟩:=hI
 refine aC [] h fun _ _ h=>?_
 refine ag h (fun(q3:i<(L.length:Int))=>?_) (fun(q3:¬(i<(L.length:Int)))=>?_)
 .obtain⟨k1,k2,_⟩:=hL i.toNat (by omega)
  have MN:=Ig E L i.toNat
  rw[<-i2] at MN
  have vj:=jX L i.toNat
  rw[<-i3] at vj
  have hs1:=xV lv (2*(L.getD i.toNat 0)) (E.getD (L.getD i.toNat 0).toNat (0,0)).1
  have hs4:=dh (vp lv (2*(L.getD i.toNat 0)) (E.getD (L.getD i.toNat 0).toNat (0,0)).1) (2*(L.getD i.toNat 0)+1) ((ah (vp lv (2*(L.getD i.toNat 0)) (E.getD (L.getD i.toNat 0).toNat (0,0)).1) (2*(L.getD i.toNat 0)+1)).getD 0)
  unfold vp at hs1 hs4
  have Oy:=dh lv (2*(L.getD i.toNat 0)) ((ah lv (2*(L.getD i.toNat 0))).getD 0)
  refine go (pr:=(aV i L.length)/\(aX .i64 (2*(L.getD i.toNat 0)))/\(aX .i64 (2*(L.getD i.toNat 0)))/\(aX .i64 ((2*(L.getD i.toNat 0))+1))/\(aV (L.getD i.toNat 0) E.length)/\(aV (L.getD i.toNat 0) E.length)/\(dc .int (2*(L.getD i.toNat 0)))/\(lv.length<=2147483647)/\(cU .int (2*(L.getD i.toNat 0))=cU .int (2*(L.getD i.toNat 0)))/\(dc .int (2*(L.getD i.toNat 0)))/\((cB lv (2*(L.getD i.toNat 0)) ((ah lv (2*(L.getD i.toNat 0))).getD 0)).length<=2147483647)/\(dc .int ((2*(L.getD i.toNat 0))+1))/\((cB (cB lv (2*(L.getD i.toNat 0)) ((ah lv (2*(L.getD i.toNat 0))).getD 0)) (2*(L.getD i.toNat 0)) ((E.getD (L.getD i.toNat 0).toNat (0,0)).1)).length<=2147483647)/\(cU .int ((2*(L.getD i.toNat 0))+1)=cU .int ((2*(L.getD i.toNat 0))+1))/\(dc .int ((2*(L.getD i.toNat 0))+1))/\((cB (cB (cB lv (2*(L.getD i.toNat 0)) ((ah lv (2*(L.getD i.toNat 0))).getD 0)) (2*(L.getD i.toNat 0)) ((E.getD (L.getD i.toNat 0).toNat (0,0)).1)) ((2*(L.getD i.toNat 0))+1) ((ah (cB (cB lv (2*(L.getD i.toNat 0)) ((ah lv (2*(L.getD i.toNat 0))).getD 0)) (2*(L.getD i.toNat 0)) ((E.getD (L.getD i.toNat 0).toNat (0,0)).1)) ((2*(L.getD i.toNat 0))+1)).getD 0)).length<=2147483647)/\(aX .i64 (2*(L.getD i.toNat 0)))/\(aX .i64 (2*(L.getD i.toNat 0)))/\(aX .i64 ((2*(L.getD i.toNat 0))+1))/\(ds.length+([2*(L.getD i.toNat 0),(2*(L.getD i.toNat 0))+1]:List Int).length<=2147483647)/\(aX .i64 (i+1))) [] h ⟨bx,bw,bw,bw,bx,bx,wk,ln,rfl,wk,ln,wk,ln,rfl,wk,ln,bw,bw,bw,ln,bw⟩ fun _ _ h=>?_
  exact bZ (cq (i+1) (cB (cB (cB (cB lv (2*(L.getD i.toNat 0)) ((ah lv (2*(L.getD i.toNat 0))).getD 0)) (2*(L.getD i.toNat 0)) ((E.getD (L.getD i.toNat 0).toNat (0,0)).1)) ((2*(L.getD i.toNat 0))+1) ((ah (cB (cB lv (2*(L.getD i.toNat 0)) ((ah lv (2*(L.getD i.toNat 0))).getD 0)) (2*(L.getD i.toNat 0)) ((E.getD (L.getD i.toNat 0).toNat (0,0)).1)) ((2*(L.getD i.toNat 0))+1)).getD 0)) ((2*(L.getD i.toNat 0))+1) ((E.getD (L.getD i.toNat 0).toNat (0,0)).2)) (ds++([2*(L.getD i.toNat 0),(2*(L.getD i.toNat 0))+1]:List Int)) (rk [0,1,2,147462,4,5]) h ⟨by omega,by omega,by rw[NR i0,<-i2];rfl,by rw[NS i0,<-i3]⟩ (by omega))
 have he:i.toNat=L.length:=by omega
 rw[he] at i2 i3
 have Bp:=i2
 have oG:=i3
 refine aC [] h fun _ _ h=>?_
 refine aK Int (List (Int×Int)) (fun v P=>⟨[(2,eo 0),(9,em 1),(10,eo 2),(13,em 3),(85,eo 0),(86,en (T.length:Int)),(87,en v)],[(0,some (.ar (.list .int) T)),(1,some (.map .int .int lv)),(2,some (.row 3 .int ds)),(3,some (.map .int .int P))],4⟩) (fun v P=>0<=v/\v<=(T.length:Int)/\Ay lv T v.toNat=some P) (fun v P=>((T.length:Int)-v).toNat) 0 [] (rk [0,2,3,12294]) h ⟨Int.le_refl _,Int.natCast_nonneg _,rfl⟩ fun v P _ _ _ fQ hI h=>?_
 obtain⟨v0,v1,v2⟩:=hI
 refine aC [] h fun _ _ h=>?_
 refine ag h (fun(q4:v<(T.length:Int))=>?_) (fun(q4:¬(v<(T.length:Int)))=>?_)
 .have hm:(T.getD v.toNat [])∈T:=af (by omega)
  have hs3:=cw.2 _ hm
  have Jk:=B4 cw v2
  refine go (pr:=(aV v T.length)) [] h bx fun _ _ h=>?_
  refine aK Int (List (Int×Int)) (fun j Q=>⟨[(2,eo 0),(9,em 1),(10,eo 2),(13,em 3),(14,en v),(85,eo 0),(86,en (T.length:Int)),(87,en v),(92,eo 4),(93,en ((T.getD v.toNat []).length:Int)),(94,en j)],[(0,some (.ar (.list .int) T)),(1,some (.map .int .int lv)),(2,some (.row 3 .int ds)),(3,some (.map .int .int Q)),(4,some (.ar .int (T.getD v.toNat [])))],5⟩) (fun j Q=>0<=j/\j<=((T.getD v.toNat []).length:Int)/\CS lv v (T.getD v.toNat []) P j.toNat=some Q) (fun j Q=>(((T.getD v.toNat []).length:Int)-j).toNat) 0 P (rk [0,1,2,3,12292]) h ⟨Int.le_refl _,Int.natCast_nonneg _,rfl⟩ fun j Q _ _ _ sj hI h=>?_
  obtain⟨j0,j1,j2⟩:=hI
  refine aC [] h fun _ _ h=>?_
  refine ag h (fun(q5:j<((T.getD v.toNat []).length:Int))=>?_) (fun(q5:¬(j<((T.getD v.toNat []).length:Int)))=>?_)
  .have hk:=gp _ hm _ (af (l:=(T.getD v.toNat [])) (i:=j.toNat) (d:=0) (by omega))
   have hQl:=B3 j2
   refine go (pr:=(aV j (T.getD v.toNat []).length)/\(dc .int ((T.getD v.toNat []).getD j.toNat 0))/\(dc .int ((T.getD v.toNat []).getD j.toNat 0))) [] h ⟨bx,wk,wk⟩ fun _ _ h=>?_
   refine ag h (fun(q6:((((ah lv ((T.getD v.toNat []).getD j.toNat 0)).isSome)=false)\/(¬(((ah lv ((T.getD v.toNat []).getD j.toNat 0)).getD 0)=v)))\/(((ah Q ((T.getD v.toNat []).getD j.toNat 0)).isSome)=true))=>?_) (fun(q6:((((ah lv ((T.getD v.toNat []).getD j.toNat 0)).isSome)=true)/\(((ah lv ((T.getD v.toNat []).getD j.toNat 0)).getD 0)=v))/\(((ah Q ((T.getD v.toNat []).getD j.toNat 0)).isSome)=false))=>?_)
   .have hnk:¬((ah lv ((T.getD v.toNat []).getD j.toNat 0)).isSome=true/\(ah lv ((T.getD v.toNat []).getD j.toNat 0)).getD 0=v/\(ah Q ((T.getD v.toNat []).getD j.toNat 0)).isSome=false):=fun hc=>by obtain⟨y1,y2,y3⟩:=hc;rcases q6 with(z|z)|z<;>first|exact z y2|(rw[y1] at z;cases z)|(rw[y3] at z;cases z)
    have hb1:CS lv v (T.getD v.toNat []) P (j+1).toNat=none:=by rw[Ec j0 j2,if_neg hnk]
    have LZ:=Ea hb1 (m:=(T.getD v.toNat []).length) (by omega)
    have hb3:Ay lv T (v+1).toNat=none:=by rw[Ed v0 v2];exact LZ
    have abz:=Eb hb3 (m:=T.length) (by omega)
    refine aC [] h fun _ _ h=>?_
    exact out ((none:Option ((List (List Int))×(bl .int Int)×(bl .int Int)×List Int)),((5:Int):Int),()) h (by rw[Ee gw hT (by rw[<-Bp];exact abz)];rfl)
   have hck:(ah lv ((T.getD v.toNat []).getD j.toNat 0)).isSome=true/\(ah lv ((T.getD v.toNat []).getD j.toNat 0)).getD 0=v/\(ah Q ((T.getD v.toNat []).getD j.toNat 0)).isSome=false:=by obtain⟨⟨z1,z2⟩,z3⟩:=q6;exact⟨z1,z2,z3⟩
   refine go (pr:=(dc .int ((T.getD v.toNat []).getD j.toNat 0))/\(Q.length<=2147483647)/\(aX .i64 (j+1))) [] h ⟨wk,ln,bw⟩ fun _ _ h=>?_
   exact bZ (sj (j+1) (cB Q ((T.getD v.toNat []).getD j.toNat 0) j) (ir 5) h ⟨by omega,by omega,by rw[Ec j0 j2,if_pos hck]⟩ (by omega))
  have CG:j.toNat=(T.getD v.toNat []).length:=by omega
  have r7:=j2
  rw[CG] at r7
  refine go (pr:=(aX .i64 (v+1))) [] h bw fun _ _ h=>?_
  exact bZ (fQ (v+1) Q (ir 4) h ⟨by omega,by omega,by rw[Ed v0 v2];exact r7⟩ (by omega))
 have hve:v.toNat=T.length:=by omega
 have Qa:=v2
 rw[hve] at Qa
 have Jk:=B4 cw v2
 refine aC [] h fun _ _ h=>?_
 refine ag h (fun(q7:¬((P.length:Int)=(lv.length:Int)))=>?_) (fun(q7:(P.length:Int)=(lv.length:Int))=>?_)
 .refine aC [] h fun _ _ h=>?_
  exact out ((none:Option ((List (List Int))×(bl .int Int)×(bl .int Int)×List Int)),((5:Int):Int),()) h (by rw[Bp] at Qa q7;rw[Ef gw hT Qa q7];rfl)
 refine go (pr:=(aO T/\av T)) [] h (⟨gp,cw⟩) fun _ _ h=>?_
 exact out ((some (T.map bC,lv,kJ T T.length,ds):Option ((List (List Int))×(bl .int Int)×(bl .int Int)×List Int)),((0:Int):Int),()) h (by rw[Bp] at Qa q7;rw[B5 gw hT Qa q7,Bp,oG];rfl)
def Xz:cE Tryz.prog:=plain Xy
theorem Qb:aS Tryz.prog 116 [(false,(.ptr (.pair (.list (.list .int)) (.pair (.map .int .int) (.pair (.map .int .int) (.list .int)))))),(false,.int),(false,.int)] [.int,.bool] (fun x=>xU (show Option ((List (List Int))×(bl .int Int)×(bl .int Int)×List Int) from x.1) (I_ x.2.1)/\-1<=(I_ x.2.2.1)/\(I_ x.2.2.1)<=1/\-9223372036854775808<=(I_ x.2.1)/\(I_ x.2.1)<=9223372036854775807) (fun x=>((cW (show Option ((List (List Int))×(bl .int Int)×(bl .int Int)×List Int) from x.1) (I_ x.2.1) (I_ x.2.2.1)).1,(cW (show Option ((List (List Int))×(bl .int Int)×(bl .int Int)×List Int) from x.1) (I_ x.2.1) (I_ x.2.2.1)).2,())):=by
 refine aF Tryz.f116 48 [] Tryz.func116 fun o x hd _ _ h=>?_
 obtain⟨(r:Option ((List (List Int))×(bl .int Int)×(bl .int Int)×List Int)),(d:Int),(s:Int),_⟩:=x
 change xU r d/\-1<=s/\s<=1/\-9223372036854775808<=d/\d<=9223372036854775807 at hd
 obtain⟨hr,s0,s1,d0,d1⟩:=hd
 obtain⟨⟨T,lv,pl,ds⟩,rfl⟩:=xU.some hr
 change ∀v,ah lv d=some v->_ at hr
 refine aC [] h fun _ _ h=>?_
 refine ag h (fun(q1:((some (T,lv,pl,ds)).isNone)=true)=>?_) (fun(q1:((some (T,lv,pl,ds)).isNone)=false)=>?_)
 .cases q1
 refine go (pr:=((some (T,lv,pl,ds)).isSome=true)/\(dc .int d)) [] h ⟨rfl,wk⟩ fun _ _ h=>?_
 refine ag h (fun(q2:((ah lv d).isSome)=false)=>?_) (fun(q2:((ah lv d).isSome)=true)=>?_)
 .have hv:ah lv d=none:=by cases hq:ah lv d with|none=>rfl|some _=>rw[hq] at q2;simp at q2
  refine aC [] h fun _ _ h=>?_
  exact out (((0:Int):Int),(false:Bool),()) h (by simp only[cW,hv];rfl)
 obtain⟨v,hv⟩:∃v,ah lv d=some v:=Option.isSome_iff_exists.1 (by simpa using q2)
 have hg:(ah lv d).getD 0=v:=by rw[hv];rfl
 obtain⟨v0,v1,v2,v3,v4⟩:=hr v hv
 rw[<-hg] at v0 v1 v2 v4
 have hmd:=Int.emod_nonneg ((ah pl d).getD 0+s+(T.getD ((ah lv d).getD 0).toNat []).length) (show((T.getD ((ah lv d).getD 0).toNat []).length:Int)≠0 by omega)
 have Fq:=Int.emod_lt_of_pos ((ah pl d).getD 0+s+(T.getD ((ah lv d).getD 0).toNat []).length) (show 0<((T.getD ((ah lv d).getD 0).toNat []).length:Int) by omega)
 refine go (pr:=((some (T,lv,pl,ds)).isSome=true)/\(aV ((ah lv d).getD 0) T.length)/\((some (T,lv,pl,ds)).isSome=true)/\(dc .int d)/\(aX .i64 (((ah pl d).getD 0)+s))/\(aX .i64 ((((ah pl d).getD 0)+s)+((T.getD ((ah lv d).getD 0).toNat []).length:Int)))/\(0<=(((ah pl d).getD 0)+s)+((T.getD ((ah lv d).getD 0).toNat []).length:Int)/\0<((T.getD ((ah lv d).getD 0).toNat []).length:Int))/\(aV (((((ah pl d).getD 0)+s)+((T.getD ((ah lv d).getD 0).toNat []).length:Int))%((T.getD ((ah lv d).getD 0).toNat []).length:Int)) (T.getD ((ah lv d).getD 0).toNat []).length)) [] h ⟨rfl,bx,rfl,wk,bw,bw,⟨by omega,by omega⟩,bx⟩ fun _ _ h=>?_
 exact out ((((T.getD ((ah lv d).getD 0).toNat []).getD (((((ah pl d).getD 0)+s)+((T.getD ((ah lv d).getD 0).toNat []).length:Int))%((T.getD ((ah lv d).getD 0).toNat []).length:Int)).toNat 0):Int),(true:Bool),()) h (by simp only[cW,hv];rfl)
def Qc:cE Tryz.prog:=plain Qb
theorem TG:aS Tryz.prog 82 [(false,(.ptr (.pair (.list (.list .int)) (.pair (.map .int .int) (.pair (.map .int .int) (.list .int)))))),(false,.int)] [.int,.bool] (fun x=>xU (show Option ((List (List Int))×(bl .int Int)×(bl .int Int)×List Int) from x.1) (aq (I_ x.2.1))/\0<=(I_ x.2.1)/\(I_ x.2.1)<=1000000) (fun x=>((cW (show Option ((List (List Int))×(bl .int Int)×(bl .int Int)×List Int) from x.1) (aq (I_ x.2.1)) (-1)).1,(cW (show Option ((List (List Int))×(bl .int Int)×(bl .int Int)×List Int) from x.1) (aq (I_ x.2.1)) (-1)).2,())):=by
 refine aF Tryz.f82 12 [Qc] Tryz.func82 fun o x hd _ _ h=>?_
 obtain⟨(r:Option ((List (List Int))×(bl .int Int)×(bl .int Int)×List Int)),(d:Int),_⟩:=x
 change xU r (aq d)/\0<=d/\d<=1000000 at hd
 obtain⟨hr,d0,d1⟩:=hd
 obtain⟨t0,t1⟩:0<=(if d%2=0 then d+1 else d-1)/\(if d%2=0 then d+1 else d-1)<=1000001:=by split<;>omega
 refine go (pr:=(0<=d/\d<=9223372036854775807)/\(xU r (if d%2=0 then d+1 else d-1)/\-1<=(-1:Int)/\(-1:Int)<=1/\-9223372036854775808<=(if d%2=0 then d+1 else d-1)/\(if d%2=0 then d+1 else d-1)<=9223372036854775807)) [] h ⟨⟨by omega,by omega⟩,⟨hr,by omega,by omega,by omega,by omega⟩⟩ fun _ _ h=>?_
 exact out (((cW r (if d%2=0 then d+1 else d-1) (-1:Int)).1:Int),((cW r (if d%2=0 then d+1 else d-1) (-1:Int)).2:Bool),()) h rfl
def TH:cE Tryz.prog:=plain TG
theorem TI:aS Tryz.prog 42 [(false,gX),(false,fR),(false,(.list (.list .int)))] [(.list (.pair .int (.list .int))),.int] (fun x=>bz (I_ x.1.1)/\aO (K_ x.2.2.1)/\av (K_ x.2.2.1)) (fun x=>((aa (I_ x.1.1) (E_ x.1.2) (J_ x.2.1.1) (J_ x.2.1.2) (K_ x.2.2.1)).1,(aa (I_ x.1.1) (E_ x.1.2) (J_ x.2.1.1) (J_ x.2.1.2) (K_ x.2.2.1)).2,())):=by
 refine TD Tryz.f42 103 [Xz,TH,inl [] [] Tryz.func81] Tryz.func42 fun o x hd _ _ h=>?_
 obtain⟨⟨(n:Int),(E:List (Int×Int))⟩,⟨(V:List Int),(L:List Int)⟩,(T:List (List Int)),_⟩:=x
 have e7:=gL h 0 E
 have eZ:=cg h 1 V
 have fS:=cg h 2 L
 have jm:=eP h 3 T
 change bz n/\aO T/\av T at hd
 obtain⟨hn,gp,cw⟩:=hd
 have aas:=cw.1
 refine go (pr:=(bz n/\aO T/\av T)) [] h (⟨hn,gp,cw⟩) fun _ _ h=>?_
 refine ag h (fun(q1:¬((bT n E V L T).2=0))=>?_) (fun(q1:(bT n E V L T).2=0)=>?_)
 .refine aC [] h fun _ _ h=>?_
  exact aar [] [] (([]:List (Int×List Int)),((bT n E V L T).2:Int),()) h (by simp only[aa,if_pos q1];rfl)
 obtain⟨gw,hT,hr⟩:=fN q1
 obtain⟨jZ,hV,hL,_⟩:=aD gw
 obtain⟨r1,r2,r3,_⟩:=aN jZ
 have zw:=ay hV r1
 have vf:=ay hL (by omega)
 have Z8:=hT.len
 have vj:=jX L L.length
 refine go (pr:=(aX .i64 ((V.length:Int)-1))) [] h bw fun _ _ h=>?_
 refine aK Int (List (Int×List Int)) (fun i out=>⟨[(2,eo 0),(4,ep 1),(8,ep 2),(10,ep 3),(11,en i)],[(0,some (.ar (.list .int) T)),(1,some (.box 27 [.own 4,.own 5])),(2,some (.box 113 [.pd 6])),(3,some (.box 71 [.own 7])),(4,some (.ar .int V)),(5,some (.ar .int L)),(6,some (.ext (.uK (.pair (.list (.list .int)) (.pair (.map .int .int) (.pair (.map .int .int) (.list .int)))) ((bT n E V L T).1)))),(7,some (.row 75 (.pair .int (.list .int)) out))],8⟩) (fun i out=> -1<=i/\i<(V.length:Int)/\out=tK V T (V.length-(i+1).toNat)) (fun i out=>(i+1).toNat) ((V.length:Int)-1) [] [(0,some 3),(1,some 4100),(2,some 45060),(3,some 65540),(4,some 1),(5,some 2),(6,some 28676),(7,none)] h ⟨by omega,by omega,by rw[show V.length-((V.length:Int)-1+1).toNat=0 by omega];rfl⟩ fun i out _ _ _ cq hI h=>?_
 obtain⟨h0,h1,h2⟩:=hI
 refine aC [] h fun _ _ h=>?_
 refine ag h (fun(q2:(0:Int)<=i)=>?_) (fun(q2:¬((0:Int)<=i))=>?_)
 .have i0:0<=i:=q2
  have i1:=h1
  obtain⟨v0,v1,_⟩:=hV i.toNat (by omega)
  have CV:=nS V T (V.length-(i+1).toNat)
  rw[<-h2] at CV
  refine go (pr:=(aV i V.length)/\(aV (V.getD i.toNat 0) T.length)) [] h ⟨bx,bx⟩ fun _ _ h=>?_
  refine ag h (fun(q3:((T.getD (V.getD i.toNat 0).toNat []).length:Int)=0)=>?_) (fun(q3:¬(((T.getD (V.getD i.toNat 0).toNat []).length:Int)=0))=>?_)
  .refine go (pr:=(aX .i64 ((-1)-(V.getD i.toNat 0)))/\(out.length+([((-1)-(V.getD i.toNat 0),[])]:List (Int×List Int)).length<=2147483647)/\(aX .i64 (i-1))) [] h ⟨bw,ln,bw⟩ fun _ _ h=>?_
   exact bZ (cq (i-1) (out++([((-1)-(V.getD i.toNat 0),[])]:List (Int×List Int))) (rk [0,1,2,3,4,5,6,77832]) h ⟨by omega,by omega,by rw[sY i0 i1,if_pos (by omega),<-h2]⟩ (by omega))
  refine go (pr:=(aX .i64 (i-1))) [] h bw fun _ _ h=>?_
  exact bZ (cq (i-1) out (ir 8) h ⟨by omega,by omega,by rw[sY i0 i1,if_neg (by omega),<-h2]⟩ (by omega))
 have hi:V.length-(i+1).toNat=V.length:=by omega
 rw[hi] at h2
 have CV:=nS V T V.length
 rw[<-h2] at CV
 refine aC [] h fun _ _ h=>?_
 refine E6 (Y:=(List (Int×Int))) E5 (fun m=>⟨[(8,ep 0),(10,ep 1),(13,ep 2),(58,some ⟨[],.one (.nh 115 [(3,0)])⟩)],[(0,some (.box 113 [.pd 4])),(1,some (.box 71 [.own 5])),(2,some (.box 57 [.mp 6])),(3,some (.box 113 [.pd 4])),(4,some (.ext (.uK (.pair (.list (.list .int)) (.pair (.map .int .int) (.pair (.map .int .int) (.list .int)))) ((bT n E V L T).1)))),(5,some (.row 75 (.pair .int (.list .int)) out)),(6,some (.map .int .int m))],7⟩) 5 (fun k=>fun m=>m=N0 (dA L L.length) k/\True) ([]) (rk [2,3,12296,24584,6,7,8200]) (show kW (El vB) from(bT n E V L T).1) (T.map bC,(r8 E L L.length,(kJ T T.length,dA L L.length))) h hr ⟨rfl,tv⟩ (fun k m _ _ _ _ _ _ _ _ _ fQ Ym hI h=>?_) (fun m D1 _ _ hI h=>?_)
 .obtain⟨h4,_⟩:=hI
  change k<(dA L L.length).length at Ym
  have Q1:aU L ((dA L L.length).getD k 0):=(cO _).1 (aB.2 ⟨k,Ym,rfl⟩)
  obtain⟨_,x0,x1⟩:=sX gw hT cw Q1
  have uS:=B8 (dA L L.length) k
  rw[<-h4] at uS
  refine go (pr:=(dc .int ((dA L L.length).getD k 0))/\(m.length<=2147483647)) [] h ⟨wk,ln⟩ fun _ _ h=>?_
  exact rg_ (fQ (cB m ((dA L L.length).getD k 0) ((dA L L.length).getD k 0)) (ir 7) h ⟨by rw[h4];rfl,tv⟩)
 obtain⟨h4,_⟩:=hI
 change m=N0 (dA L L.length) (dA L L.length).length at h4
 have hmd:∀y,(ah m y).isSome=true->aU L y:=fun y hy=>(cO y).1 (by rw[h4] at hy;have:=(vV (Nat.le_refl _) y).1 hy;rwa[List.take_length] at this)
 have uS:=B8 (dA L L.length) (dA L L.length).length
 rw[<-h4] at uS
 refine aC [] h fun _ _ h=>?_
 refine E6 (Y:=(List (Int×Int))×(List (Int×List Int))) E5 (fun x_=>(fun(m2:List (Int×Int)) (o2:List (Int×List Int))=>⟨[(8,ep 0),(10,ep 1),(13,ep 2),(64,some ⟨[],.one (.nh 115 [(3,0)])⟩)],[(0,some (.box 113 [.pd 4])),(1,some (.box 71 [.own 6])),(2,some (.box 57 [.mp 7])),(3,some (.box 113 [.pd 4])),(4,some (.ext (.uK (.pair (.list (.list .int)) (.pair (.map .int .int) (.pair (.map .int .int) (.list .int)))) ((bT n E V L T).1)))),(5,some (.ext (.Df D1))),(6,some (.row 75 (.pair .int (.list .int)) o2)),(7,some (.map .int .int m2))],8⟩) x_.1 x_.2) 5 (fun k=>fun x_=>(fun(m2:List (Int×Int)) (o2:List (Int×List Int))=>x4 L (bT n E V L T).1 (dA L L.length) out k m2 o2) x_.1 x_.2) (m,out) (rk [0,1,2,4104,4,7,5,6]) (show kW (El vB) from(bT n E V L T).1) (T.map bC,(r8 E L L.length,(kJ T T.length,dA L L.length))) h hr ⟨by rw[h4];rfl,rfl,by rw[h4];exact UE _ _,hmd,Nat.le_refl _⟩ (fun k x_ _ _ _ _ _ _ _ _ _ sj Ym hI h=>?_) (fun x_ D2 _ _ hI h=>?_)
 .obtain⟨m2,o2⟩:=x_
  obtain⟨k1,k2,k3,k4,k5⟩:=hI
  dsimp only at k1 k2 k3 k4 k5
  change k<(dA L L.length).length at Ym
  have Q1:aU L ((dA L L.length).getD k 0):=(cO _).1 (aB.2 ⟨k,Ym,rfl⟩)
  obtain⟨_,x0,x1⟩:=sX gw hT cw Q1
  have oT:m2.length<=(dA L L.length).length:=N2 k3 k4
  refine go (pr:=(dc .int ((dA L L.length).getD k 0))) [] h wk fun _ _ h=>?_
  refine ag h (fun(q4:((ah m2 ((dA L L.length).getD k 0)).isSome)=false)=>?_) (fun(q4:((ah m2 ((dA L L.length).getD k 0)).isSome)=true)=>?_)
  .refine aC [] h fun _ _ h=>?_
   exact rg_ (sj (m2,o2) (ir 8) h (RP (by rw[<-k1];exact q4) ⟨k1,k2,k3,k4,k5⟩))
  have aat:(ah m2 ((dA L L.length).getD k 0)).isSome=true:=q4
  refine aC [] h fun _ _ h=>?_
  refine sK Int Bool (List (Int×Int)) (List Int) (fun x ok mm acc=>⟨[(8,ep 0),(10,ep 1),(13,ep 2),(15,en ((dA L L.length).getD k 0)),(18,ep 5),(19,en x),(20,some ⟨[],.one (.b (.raw ok))⟩),(65,en ((dA L L.length).getD k 0))],[(0,some (.box 113 [.pd 4])),(1,some (.box 71 [.own 7])),(2,some (.box 57 [.mp 8])),(3,some (.box 113 [.pd 4])),(4,some (.ext (.uK (.pair (.list (.list .int)) (.pair (.map .int .int) (.pair (.map .int .int) (.list .int)))) ((bT n E V L T).1)))),(5,some (.box 75 [.v (.int .i64 ((dA L L.length).getD k 0)),.own 9])),(6,some (.ext (.Df D1))),(7,some (.row 75 (.pair .int (.list .int)) o2)),(8,some (.map .int .int mm)),(9,some (.row 3 .int acc))],10⟩) (fun x ok mm acc=>(ok=true/\(ah mm x).isSome=true/\iR (bT n E V L T).1 mm.length mm x acc=iR (bT n E V L T).1 m2.length m2 ((dA L L.length).getD k 0) []\/ok=false/\(mm,acc)=iR (bT n E V L T).1 m2.length m2 ((dA L L.length).getD k 0) [])/\KN mm/\(∀y,(ah mm y).isSome=true->aU L y)/\acc.length+mm.length<=10000) (fun x ok mm acc=>mm.length) ((dA L L.length).getD k 0) true m2 [] [(0,some 0),(1,some 1),(2,some 2),(3,some 3),(4,some 4),(5,some 53256),(6,some 5),(7,some 6),(8,some 7),(9,none)] h ⟨.inl ⟨rfl,aat,rfl⟩,k3,k4,by simp only[List.length_nil];omega⟩ fun x ok mm acc _ _ _ Fs hI h=>?_
  obtain⟨hor,kk,kd,kl⟩:=hI
  refine aC [] h fun _ _ h=>?_
  refine ag h (fun(q5:ok=true)=>?_) (fun(q5:ok=false)=>?_)
  .obtain⟨_,hs,ho⟩:=hor.resolve_right fun z=>by rw[q5] at z;cases z.1
   have hxn:=kd x hs
   obtain⟨ZM,y0,y1⟩:=sX gw hT cw hxn
   have ZM:xU (bT n E V L T).1 (aq x):=by rw[hr];exact ZM
   have abV:=Az kk hs
   have hnn:aU L (cW (bT n E V L T).1 (aq x) (-1)).1:=by rw[hr];exact(jk gw hT hxn).1
   obtain⟨_,z0,z1⟩:=sX gw hT cw hnn
   refine go (pr:=(dc .int x)/\(acc.length+([x]:List Int).length<=2147483647)/\(xU ((bT n E V L T).1) (aq x)/\0<=x/\x<=1000000)/\(dc .int ((cW ((bT n E V L T).1) (aq x) (-1)).1))) [] h ⟨wk,ln,⟨ZM,by omega,by omega⟩,wk⟩ fun _ _ h=>?_
   exact bZ (Fs ((cW ((bT n E V L T).1) (aq x) (-1)).1) ((ah (wG mm x) ((cW ((bT n E V L T).1) (aq x) (-1)).1)).isSome) (wG mm x) (acc++([x]:List Int)) (rk [0,1,2,3,4,5,6,7,8,32778]) h ⟨RO kk hs ho,NT kk x,vW kd x,by rw[List.length_append];simp only[List.length_cons,List.length_nil];omega⟩ (by omega))
  obtain⟨_,hR⟩:=hor.resolve_left fun z=>by rw[q5] at z;cases z.1
  refine go (pr:=(o2.length+([(((dA L L.length).getD k 0),acc)]:List (Int×List Int)).length<=2147483647)) [] h ln fun _ _ h=>?_
  exact rg_ (sj (mm,(o2++([(((dA L L.length).getD k 0),acc)]:List (Int×List Int)))) (rk [0,1,2,3,4,6,16394,8]) h (N1 Ym (by rw[<-k1];exact aat) (by rw[<-k1];exact hR) kk kd ⟨k1,k2,k3,k4,k5⟩))
 obtain⟨m2,o2⟩:=x_
 obtain⟨k1,k2,k3,k4,k5⟩:=hI
 dsimp only at k1 k2 k3 k4 k5
 change o2=(dJ (bT n E V L T).1 (dA L L.length) out (dA L L.length).length).2 at k2
 refine aC [] h fun _ _ h=>?_
 exact aar [8,5] [D2,D1] ((o2:List (Int×List Int)),((0:Int):Int),()) h (by rw[k2,h2,mJ q1])
def tG:cE Tryz.prog:=plain TI
theorem Lg:aS Tryz.prog 138 [(false,gX),(false,.int)] [.int] (fun x=>0<=(I_ x.2.1)/\(I_ x.2.1)/2<((E_ x.1.2).length:Int)/\(I_ x.2.1)<=1000000) (fun x=>(bJ (E_ x.1.2) (I_ x.2.1),())):=by
 refine aF Tryz.f138 22 [] Tryz.func138 fun o x hd _ _ h=>?_
 obtain⟨⟨(n:Int),(E:List (Int×Int))⟩,(d:Int),_⟩:=x
 have e7:=gL h 0 E
 change 0<=d/\d/2<(E.length:Int)/\d<=1000000 at hd
 obtain⟨d0,d1,d2⟩:=hd
 refine go (pr:=(0<=d/\0<(2:Int))) [] h (⟨by omega,by omega⟩) fun _ _ h=>?_
 refine ag h (fun(q1:d%2=0)=>?_) (fun(q1:¬(d%2=0))=>?_)
 .refine go (pr:=(0<=d/\0<(2:Int)/\aX .i64 d)/\(aV (d/2) E.length)) [] h ⟨⟨by omega,by omega,⟨by omega,by omega⟩⟩,bx⟩ fun _ _ h=>?_
  exact out (((E.getD (d/2).toNat (0,0)).2:Int),()) h (by unfold bJ;first|rw[if_pos q1];rfl|rw[if_neg q1];rfl)
 refine go (pr:=(0<=d/\0<(2:Int)/\aX .i64 d)/\(aV (d/2) E.length)) [] h ⟨⟨by omega,by omega,⟨by omega,by omega⟩⟩,bx⟩ fun _ _ h=>?_
 exact out (((E.getD (d/2).toNat (0,0)).1:Int),()) h (by unfold bJ;first|rw[if_pos q1];rfl|rw[if_neg q1];rfl)
def yM:cE Tryz.prog:=plain Lg
theorem TJ:aS Tryz.prog 124 [(false,gX),(false,(.map .int (.list .int))),(false,.int),(false,.int)] [(.map .int .int)] (fun x=>bh (I_ x.1.1) (E_ x.1.2)=0/\Zr (E_ x.1.2) (show bl .int (List Int) from x.2.1)/\0<=(I_ x.2.2.1)/\(I_ x.2.2.1)<1024) (fun x=>(dI (E_ x.1.2) (show bl .int (List Int) from x.2.1) (I_ x.2.2.1) (I_ x.2.2.2.1),())):=by
 refine aF Tryz.f124 74 [yM,inl [] [(6,false)] Tryz.func146,inl [] [] Tryz.func137,inl [] [] Tryz.func145] Tryz.func124 fun o x hd _ _ h=>?_
 obtain⟨⟨(n:Int),(E:List (Int×Int))⟩,(M:bl .int (List Int)),(a:Int),(shut:Int),_⟩:=x
 have e7:=gL h 0 E
 change bh n E=0/\Zr E M/\0<=a/\a<1024 at hd
 obtain⟨hr,hD,ha0,Yk⟩:=hd
 obtain⟨hn0,zB,hE,_⟩:=aN hr
 refine go (pr:=(dc .int a)/\(([]:bl .int Int).length<=2147483647)/\(([]:List Int).length+([a]:List Int).length<=2147483647)/\(¬((([a]:List Int).length:Int)=0))/\(aV (0:Int) ([a]:List Int).length)/\(0<=(1:Int)/\(1:Int)<=(([a]:List Int).length:Int))) [] h ⟨wk,ln,ln,by simp,bx,ct⟩ fun _ _ h=>?_
 refine go_loop (Int×Bool×List Int×(List (Int×Int))×Nat) (fun x_=>(fun(v:Int) (ok:Bool) (q:List Int) (m:List (Int×Int)) (k:Nat)=>⟨[(1,em 0),(3,en shut),(4,ep 1),(9,em 2),(10,some ⟨[],.one (.nh 145 [(3,0)])⟩),(11,some ⟨[],.one (.nh 146 [(3,0)])⟩),(12,en v),(13,some ⟨[],.one (.b (.raw ok))⟩)],[(0,some (.vF .int (.list .int) M)),(1,some (.box 24 [.v (.int .i64 n),.own 4])),(2,some (.map .int .int m)),(3,some (.box 25 [.own 5])),(4,some (.ar fA E)),(5,some (.row 3 .int q))],6⟩) x_.1 x_.2.1 x_.2.2.1 x_.2.2.2.1 x_.2.2.2.2) (fun x_=>(fun(v:Int) (ok:Bool) (q:List Int) (m:List (Int×Int)) (k:Nat)=>B0 E M a shut v ok q m k/\True) x_.1 x_.2.1 x_.2.2.1 x_.2.2.2.1 x_.2.2.2.2) (fun x_=>(fun(v:Int) (ok:Bool) (q:List Int) (m:List (Int×Int)) (k:Nat)=>2*E.length+3-k) x_.1 x_.2.1 x_.2.2.1 x_.2.2.2.1 x_.2.2.2.2) (a,true,[],[(a,0)],0) (rk [1,2,8194,28802,0,70274]) h ⟨B0.init E M a shut,tv⟩ fun x_ _ _ _ cq hI h=>?_
 obtain⟨v,ok,q,m,k⟩:=x_
 obtain⟨hR,_⟩:=hI
 dsimp only at hR
 refine aC [] h fun _ _ h=>?_
 refine ag h (fun(q1:ok=true)=>?_) (fun(q1:ok=false)=>?_)
 .have g1:=(hR.go q1).1
  obtain⟨b1,b2⟩:=g1.bd
  obtain⟨v1,v2⟩:=RM hr ha0 Yk v g1.vU
  refine go (pr:=(dc .int v)) [] h wk fun _ _ h=>?_
  refine fB Int (List (Int×Int)) (List Int) (fun i ml ql=>⟨[(1,em 0),(3,en shut),(4,ep 1),(9,em 2),(10,some ⟨[],.one (.nh 145 [(3,0)])⟩),(11,some ⟨[],.one (.nh 146 [(3,0)])⟩),(12,en v),(42,eo 4),(43,en (((ah M v).getD []).length:Int)),(44,en i)],[(0,some (.vF .int (.list .int) M)),(1,some (.box 24 [.v (.int .i64 n),.own 5])),(2,some (.map .int .int ml)),(3,some (.box 25 [.own 6])),(4,some (.ar .int ((ah M v).getD []))),(5,some (.ar fA E)),(6,some (.row 3 .int ql))],7⟩) (fun i ml ql=>0<=i/\i<=(((ah M v).getD []).length:Int)/\(((ah M v).getD []).take i.toNat).foldl (dV E v shut) (m,q)=(ml,ql)/\Gm E a v k ml ql) (fun i ml ql=>((((ah M v).getD []).length:Int)-i).toNat) 0 m q (rk [0,1,2,3,12294,4,5]) h ⟨by omega,by omega,rfl,g1⟩ fun i ml ql _ _ _ fQ hI h=>?_
  obtain⟨i0,i1,hf,hM⟩:=hI
  have i2:(((ah M v).getD []).length:Int)<=9223372036854775807:=xB h 4 (t:=.int) (l:=((ah M v).getD []))
  refine aC [] h fun _ _ h=>?_
  refine ag h (fun(q2:i<(((ah M v).getD []).length:Int))=>?_) (fun(q2:¬(i<(((ah M v).getD []).length:Int)))=>?_)
  .have q2_:=q2
   obtain⟨d1,d2⟩:=hD v (((ah M v).getD []).getD i.toNat 0) (fC.2 ⟨i.toNat,by omega,rfl⟩)
   obtain⟨w1,w2,w3⟩:=DY hr d1 d2
   obtain⟨b3,b4⟩:=hM.bd
   have c1:=hM.c
   have c2:=hM.n
   refine go (pr:=(aV i ((ah M v).getD []).length)/\(0<=(((ah M v).getD []).getD i.toNat 0)/\(((ah M v).getD []).getD i.toNat 0)/2<(E.length:Int)/\(((ah M v).getD []).getD i.toNat 0)<=1000000)/\(dc .int (bJ E (((ah M v).getD []).getD i.toNat 0)))) [] h ⟨bx,⟨d1,d2,by omega⟩,wk⟩ fun _ _ h=>?_
   refine ag h (fun(q3:(((ah ml (bJ E (((ah M v).getD []).getD i.toNat 0))).isSome)=true)\/(bJ E (((ah M v).getD []).getD i.toNat 0)=shut))=>?_) (fun(q3:(((ah ml (bJ E (((ah M v).getD []).getD i.toNat 0))).isSome)=false)/\(¬(bJ E (((ah M v).getD []).getD i.toNat 0)=shut)))=>?_)
   .refine go (pr:=(aX .i64 (i+1))) [] h bw fun _ _ h=>?_
    exact bZ (fQ (i+1) ml ql (ir 7) h ⟨by omega,by omega,by rw[kI _ _ i0 q2_,hf];exact if_pos q3,hM⟩ (QI))
   refine go (pr:=(dc .int v)/\(aX .i64 (((ah ml v).getD 0)+1))/\(dc .int (bJ E (((ah M v).getD []).getD i.toNat 0)))/\(ml.length<=2147483647)/\(ql.length+([bJ E (((ah M v).getD []).getD i.toNat 0)]:List Int).length<=2147483647)/\(aX .i64 (i+1))) [] h ⟨wk,bw,wk,ln,ln,bw⟩ fun _ _ h=>?_
   exact bZ (fQ (i+1) (cB ml (bJ E (((ah M v).getD []).getD i.toNat 0)) (((ah ml v).getD 0)+1)) (ql++([bJ E (((ah M v).getD []).getD i.toNat 0)]:List Int)) (rk [0,1,2,3,4,5,127175]) h ⟨by omega,by omega,by rw[kI _ _ i0 q2_,hf];exact if_neg (Zq q3),hM.Zs (List.mem_cons_of_mem _ w3) (Zq q3)⟩ (QI))
  have hS {q3:List Int}:=hR.step (q2:=q3) (by assumption) (show ff E M v shut (m,q)=(ml,ql) by rw[List.take_of_length_le (by omega)] at hf;exact hf) hM
  have c2:=hM.n
  obtain⟨b3,b4⟩:=hM.bd
  by_cases z1:ql=[]
  .refine Ur [yM,inl [] [(6,true)] Tryz.func146,inl [] [] Tryz.func137,inl [] [] Tryz.func145] ?_
   refine go (pr:=((ql.length:Int)=0)) [] h (by rw[z1];rfl) fun _ _ h=>?_
   exact bZ (cq (0,false,ql,ml,k+1) (rk [0,1,2,3,5,6]) h ⟨hS.1 z1,tv⟩ (by have:=hR.kB;dsimp only;omega))
  have Yb:0<ql.length:=List.length_pos_iff.2 z1
  refine Ur [yM,inl [] [(6,false)] Tryz.func146,inl [] [] Tryz.func137,inl [] [] Tryz.func145] ?_
  refine go (pr:=(¬((ql.length:Int)=0))/\(aV (0:Int) ql.length)/\(0<=(1:Int)/\(1:Int)<=(ql.length:Int))) [] h ⟨by omega,bx,ct⟩ fun _ _ h=>?_
  exact bZ (cq ((ql.getD 0 0),true,(ql.drop 1),ml,k+1) (rk [0,1,2,3,5,8839]) h ⟨(hS (q3:=[])).2 _ _ (RL z1),tv⟩ (by have:=hR.kB;dsimp only;omega))
 refine aC [] h fun _ _ h=>?_
 exact out ((m:bl .int Int),()) h (congrArg (·,()) (hR.done q1))
def TK:cE Tryz.prog:=plain TJ
theorem XA:aS Tryz.prog 123 [(false,gX),(false,fR)] [(.map .int (.list .int))] (fun x=>aA (I_ x.1.1) (E_ x.1.2) (J_ x.2.1.1) (J_ x.2.1.2)=0) (fun x=>(bV (E_ x.1.2) (J_ x.2.1.2),())):=by
 refine aF Tryz.f123 51 [] Tryz.func123 fun o x hd _ _ h=>?_
 obtain⟨⟨(n:Int),(E:List (Int×Int))⟩,⟨(V:List Int),(L:List Int)⟩,_⟩:=x
 have e7:=gL h 0 E
 have eZ:=cg h 1 V
 have fS:=cg h 2 L
 change aA n E V L=0 at hd
 refine aC [(10,true)] h fun _ _ h=>?_
 refine aK Int (List (Int×List Int)) (fun i m=>⟨[(2,ep 0),(5,em 1),(12,eo 2),(13,en (L.length:Int)),(14,en i)],[(0,some (.box 24 [.v (.int .i64 n),.own 3])),(1,some (.ext (.fc 4 .int none .int 3 m))),(2,some (.ar .int L)),(3,some (.ar fA E))],5⟩) (fun i m=>0<=i/\i<=(L.length:Int)/\m=bV E (L.take i.toNat)) (fun i m=>((L.length:Int)-i).toNat) 0 [] (rk [3,12291,2,0,12291]) h ⟨by omega,by omega,rfl⟩ fun i m _ _ _ cq hI h=>?_
 obtain⟨h0,h0b,hm⟩:=hI
 refine aC [] h fun _ _ h=>?_
 refine ag h (fun(q1:i<(L.length:Int))=>?_) (fun(q1:¬(i<(L.length:Int)))=>?_)
 .obtain⟨⟨f1,f2,f3⟩,⟨f4,f5,f6,f7⟩,f8,f9,f10,f11⟩:=rO hd hm h0 q1
  refine go (pr:=(aV i L.length)/\(aV (L.getD i.toNat 0) E.length)/\(aV (L.getD i.toNat 0) E.length)/\(dc .int ((E.getD (L.getD i.toNat 0).toNat (0,0)).1))/\(aX .i64 (2*(L.getD i.toNat 0)))/\(((ah m ((E.getD (L.getD i.toNat 0).toNat (0,0)).1)).getD []).length+([2*(L.getD i.toNat 0)]:List Int).length<=2147483647)/\(dc .int ((E.getD (L.getD i.toNat 0).toNat (0,0)).1))/\(zY (k:=.int) (some ((E.getD (L.getD i.toNat 0).toNat (0,0)).1)) ((E.getD (L.getD i.toNat 0).toNat (0,0)).1))/\(m.length<=2147483647)/\(dc .int ((E.getD (L.getD i.toNat 0).toNat (0,0)).2))/\(aX .i64 (2*(L.getD i.toNat 0)))/\(aX .i64 ((2*(L.getD i.toNat 0))+1))/\(((ah (cB m ((E.getD (L.getD i.toNat 0).toNat (0,0)).1) (((ah m ((E.getD (L.getD i.toNat 0).toNat (0,0)).1)).getD [])++([2*(L.getD i.toNat 0)]:List Int))) ((E.getD (L.getD i.toNat 0).toNat (0,0)).2)).getD []).length+([(2*(L.getD i.toNat 0))+1]:List Int).length<=2147483647)/\(dc .int ((E.getD (L.getD i.toNat 0).toNat (0,0)).2))/\(zY (k:=.int) (some ((E.getD (L.getD i.toNat 0).toNat (0,0)).2)) ((E.getD (L.getD i.toNat 0).toNat (0,0)).2))/\((cB m ((E.getD (L.getD i.toNat 0).toNat (0,0)).1) (((ah m ((E.getD (L.getD i.toNat 0).toNat (0,0)).1)).getD [])++([2*(L.getD i.toNat 0)]:List Int))).length<=2147483647)/\(aX .i64 (i+1))) [] h ⟨bx,bx,bx,wk,bw,ln,wk,rfl,ln,wk,bw,bw,ln,wk,rfl,ln,bw⟩ fun _ _ h=>?_
  exact bZ (cq (i+1) (cB (cB m ((E.getD (L.getD i.toNat 0).toNat (0,0)).1) (((ah m ((E.getD (L.getD i.toNat 0).toNat (0,0)).1)).getD [])++([2*(L.getD i.toNat 0)]:List Int))) ((E.getD (L.getD i.toNat 0).toNat (0,0)).2) (((ah (cB m ((E.getD (L.getD i.toNat 0).toNat (0,0)).1) (((ah m ((E.getD (L.getD i.toNat 0).toNat (0,0)).1)).getD [])++([2*(L.getD i.toNat 0)]:List Int))) ((E.getD (L.getD i.toNat 0).toNat (0,0)).2)).getD [])++([(2*(L.getD i.toNat 0))+1]:List Int))) (rk [0,1,2,3,155653]) h ⟨by omega,by omega,by rw[Gj h0 q1,<-hm];rfl⟩ (QI))
 refine aC [] h fun _ _ h=>?_
 exact out ((m:bl .int (List Int)),()) h (by rw[hm,List.take_of_length_le (by omega)])
def XB:cE Tryz.prog:=plain XA
theorem Qd:aS Tryz.prog 103 [(false,gX),(false,fR)] [(.list fR),.int] (fun x=>bz (I_ x.1.1)) (fun x=>(if aA (I_ x.1.1) (E_ x.1.2) (J_ x.2.1.1) (J_ x.2.1.2)≠0 then[] else nO (E_ x.1.2) (J_ x.2.1.1) (J_ x.2.1.2),aA (I_ x.1.1) (E_ x.1.2) (J_ x.2.1.1) (J_ x.2.1.2),())):=by
 refine aF Tryz.f103 106 [XB,TK,wm] Tryz.func103 fun o x hd _ _ h=>?_
 obtain⟨⟨(n:Int),(E:List (Int×Int))⟩,⟨(V:List Int),(L:List Int)⟩,_⟩:=x
 have e7:=gL h 0 E
 have eZ:=cg h 1 V
 have fS:=cg h 2 L
 change bz n at hd
 refine go (pr:=(bz n)) [] h hd fun _ _ h=>?_
 refine ag h (fun(q1:¬(aA n E V L=0))=>?_) (fun(q1:aA n E V L=0)=>?_)
 .refine aC [] h fun _ _ h=>?_
  exact out (([]:List ((List Int)×List Int)),(aA n E V L:Int),()) h (congrArg (fun z=>(z,aA n E V L,())) (if_pos (c:=aA n E V L≠0) q1).symm)
 have hp:=q1
 obtain⟨hr,hVr,hLr,eE⟩:=aD hp
 obtain⟨hn0,zB,hEn,_⟩:=aN hr
 have hVn:=ay hVr hn0
 have UD:=ay hLr (by omega)
 refine go (pr:=(aA n E V L=0)) [] h hp fun _ _ h=>?_
 refine fB Int (List (Int×Int)) (List (List Int×List Int)) (fun i pm ou=>⟨[(2,ep 0),(3,ep 1),(7,em 2),(8,em 3),(9,eo 4),(30,eo 5),(31,en (V.length:Int)),(32,en i)],[(0,some (.box 24 [.v (.int .i64 n),.own 6])),(1,some (.box 27 [.own 5,.own 7])),(2,some (.nA .int (.list .int) (bV E L))),(3,some (.map .int .int pm)),(4,some (.ext (.nest 8 none 27 fR 3 ou))),(5,some (.ar .int V)),(6,some (.ar fA E)),(7,some (.ar .int L))],9⟩) (fun i pm ou=>0<=i/\i<=(V.length:Int)/\oD E V L i pm ou) (fun i pm ou=>((V.length:Int)-i).toNat) 0 [] [] [(0,some 3),(1,some 4099),(2,some 49155),(3,some 57347),(4,none),(5,some 1),(6,some 0),(7,some 2),(8,none)] h ⟨by omega,by omega,oD.zero E V L⟩ fun i pm ou _ _ _ cq hI h=>?_
 obtain⟨i0,i1,hP⟩:=hI
 refine aC [] h fun _ _ h=>?_
 refine ag h (fun(q2:i<(V.length:Int))=>?_) (fun(q2:¬(i<(V.length:Int)))=>?_)
 .obtain⟨x1,x2,_⟩:=hVr i.toNat (by omega)
  have nP:=Nat.le_trans hP.n (Nat.mul_le_mul_right 3000 (show i.toNat<=1024 by omega))
  have oP:=hP.o
  refine go (pr:=(aV i V.length)/\(dc .int (V.getD i.toNat 0))) [] h ⟨bx,wk⟩ fun _ _ h=>?_
  refine ag h (fun(q3:((ah pm (V.getD i.toNat 0)).isSome)=false)=>?_) (fun(q3:((ah pm (V.getD i.toNat 0)).isSome)=true)=>?_)
  .obtain⟨R1,_,R3,_⟩:=D3 (shut:= -1) (D4 hr (xP hp) (V.getD i.toNat 0))
   refine go (pr:=(bh n E=0/\Zr E (bV E L)/\0<=(V.getD i.toNat 0)/\(V.getD i.toNat 0)<1024)) [] h (⟨hr,xP hp,x1,by omega⟩) fun _ _ h=>?_
   refine sK (Int->Bool) Nat (Option (Int×Int)) (List (Int×Int)) (fun lf cnt cur nj=>⟨[(2,ep 0),(3,ep 1),(7,em 2),(8,em 3),(9,eo 4),(11,en (V.getD i.toNat 0)),(30,eo 5),(31,en (V.length:Int)),(32,en i),(48,ep 6)],[(0,some (.box 24 [.v (.int .i64 n),.own 7])),(1,some (.box 27 [.own 5,.own 8])),(2,some (.nA .int (.list .int) (bV E L))),(3,some (.map .int .int nj)),(4,some (.ext (.nest 9 none 27 fR 3 ou))),(5,some (.ar .int V)),(6,some (.iter .int .int (dI E (bV E L) (V.getD i.toNat 0) (-1:Int)) lf cnt cur)),(7,some (.ar fA E)),(8,some (.ar .int L))],10⟩) (fun lf cnt cur nj=>RN (dI E (bV E L) (V.getD i.toNat 0) (-1)) pm (ou.length:Int) lf cnt nj/\True) (fun lf cnt cur nj=>cnt) (fun z=>(ah (dI E (bV E L) (V.getD i.toNat 0) (-1)) z).isSome) ((dI E (bV E L) (V.getD i.toNat 0) (-1)).length) none pm (rk [0,1,2,3,4,5,73737,6,7,8]) h ⟨RN.start _ _ _,tv⟩ fun lf cnt cur nj _ _ _ fQ hI h=>?_
   obtain⟨hT,_⟩:=hI
   refine aC [] h fun _ _ h=>?_
   refine BU ⟨.int,.int,(dI E (bV E L) (V.getD i.toNat 0) (-1:Int)),lf,cnt,cur,6,49⟩ h (fun(eZ:∀x:Int,lf x=false) _ _ h=>?_) (fun(k1:Int) (v1:Int) (c1:Nat) (eZ:lf k1=true) (QJ: -9223372036854775808<=k1/\k1<=9223372036854775807) (Ki:ah (dI E (bV E L) (V.getD i.toNat 0) (-1:Int)) k1=some v1) (zT:c1<cnt) _ _ h=>?_)
   .obtain⟨hI2,ZI⟩:=hP.new i0 q2 q3 R3 (by omega) (hT.fin eZ)
    obtain⟨⟨a1,a2⟩,a3⟩:=oD.at2 ZI
    refine go (pr:=(ou.length+([([],[])]:List ((List Int)×List Int)).length<=2147483647)/\(dc .int (V.getD i.toNat 0))/\(aV ((ah nj (V.getD i.toNat 0)).getD 0) (ou++([([],[])]:List ((List Int)×List Int))).length)/\((((ou++([([],[])]:List ((List Int)×List Int))).getD ((ah nj (V.getD i.toNat 0)).getD 0).toNat ([],[])).1).length+([(V.getD i.toNat 0)]:List Int).length<=2147483647)/\(aV ((ah nj (V.getD i.toNat 0)).getD 0) (ou++([([],[])]:List ((List Int)×List Int))).length)/\(aV ((ah nj (V.getD i.toNat 0)).getD 0) (ou++([([],[])]:List ((List Int)×List Int))).length)/\(aV ((ah nj (V.getD i.toNat 0)).getD 0) (ou++([([],[])]:List ((List Int)×List Int))).length)/\(zX (some (((ah nj (V.getD i.toNat 0)).getD 0).toNat*2+0)) (((ah nj (V.getD i.toNat 0)).getD 0).toNat*2+0))/\(aX .i64 (i+1))) [(59,true)] h ⟨ln,wk,bx,ln,bx,bx,bx,rfl,bw⟩ fun _ _ h=>?_
    exact bZ (cq (i+1) nj ((ou++([([],[])]:List ((List Int)×List Int))).set ((ah nj (V.getD i.toNat 0)).getD 0).toNat (((((ou++([([],[])]:List ((List Int)×List Int))).getD ((ah nj (V.getD i.toNat 0)).getD 0).toNat ([],[])).1)++([(V.getD i.toNat 0)]:List Int)),((ou++([([],[])]:List ((List Int)×List Int))).getD ((ah nj (V.getD i.toNat 0)).getD 0).toNat ([],[])).2)) (rk [0,1,2,3,20490,5,7,8,94218]) h ⟨by omega,by omega,hI2⟩ (QI))
   have nT:=hT.n
   refine go (pr:=(dc .int k1)/\(nj.length<=2147483647)) [] h ⟨wk,ln⟩ fun _ _ h=>?_
   exact bZ (fQ (fun z=>lf z && !decide (z=k1)) c1 (some (k1,v1)) (cB nj k1 (ou.length:Int)) (ir 10) h ⟨hT.step eZ Ki zT,tv⟩ (zT))
  obtain⟨⟨a1,a2⟩,a3⟩:=hP.at_ i0 i1 (x:=(V.getD i.toNat 0)) q3
  have hI1:=hP.met i0 q2 q3
  refine go (pr:=(dc .int (V.getD i.toNat 0))/\(aV ((ah pm (V.getD i.toNat 0)).getD 0) ou.length)/\(((ou.getD ((ah pm (V.getD i.toNat 0)).getD 0).toNat ([],[])).1).length+([(V.getD i.toNat 0)]:List Int).length<=2147483647)/\(aV ((ah pm (V.getD i.toNat 0)).getD 0) ou.length)/\(aV ((ah pm (V.getD i.toNat 0)).getD 0) ou.length)/\(aV ((ah pm (V.getD i.toNat 0)).getD 0) ou.length)/\(zX (some (((ah pm (V.getD i.toNat 0)).getD 0).toNat*2+0)) (((ah pm (V.getD i.toNat 0)).getD 0).toNat*2+0))/\(aX .i64 (i+1))) [] h ⟨wk,bx,ln,bx,bx,bx,rfl,bw⟩ fun _ _ h=>?_
  exact bZ (cq (i+1) pm (ou.set ((ah pm (V.getD i.toNat 0)).getD 0).toNat ((((ou.getD ((ah pm (V.getD i.toNat 0)).getD 0).toNat ([],[])).1)++([(V.getD i.toNat 0)]:List Int)),(ou.getD ((ah pm (V.getD i.toNat 0)).getD 0).toNat ([],[])).2)) (rk [0,1,2,3,4,5,6,7,122889]) h ⟨by omega,by omega,hI1⟩ (QI))
 have hF:=hP.fin q2
 refine aC [] h fun _ _ h=>?_
 refine aK Int (List (List Int×List Int)) (fun j o2=>⟨[(2,ep 0),(8,em 1),(9,eo 2),(78,eo 3),(79,en (L.length:Int)),(80,en j)],[(0,some (.box 24 [.v (.int .i64 n),.own 4])),(1,some (.map .int .int pm)),(2,some (.ext (.nest 5 none 27 fR 3 o2))),(3,some (.ar .int L)),(4,some (.ar fA E))],6⟩) (fun j o2=>0<=j/\j<=(L.length:Int)/\Gp E V L j ou.length o2) (fun j o2=>((L.length:Int)-j).toNat) 0 ou (rk [0,3,4,7,6,8]) h ⟨by omega,by omega,hF.2.2⟩ fun j o2 _ _ _ sj hI h=>?_
 obtain⟨j0,j1,hE⟩:=hI
 refine aC [] h fun _ _ h=>?_
 refine ag h (fun(q4:j<(L.length:Int))=>?_) (fun(q4:¬(j<(L.length:Int)))=>?_)
 .obtain⟨⟨f1,f2,f3⟩,⟨f4,f5,f6,f7⟩,_⟩:=rO hp rfl j0 q4
  obtain⟨⟨a1,a2⟩,_⟩:=hP.at_ i0 i1 (x:=(E.getD (L.getD j.toNat 0).toNat (0,0)).1) (hP.all q2 (ug hp j0 q4).1)
  have n2:=hE.n
  have n3:=hE.at_ ((ah pm (E.getD (L.getD j.toNat 0).toNat (0,0)).1).getD 0).toNat
  refine go (pr:=(aV j L.length)/\(aV (L.getD j.toNat 0) E.length)/\(dc .int ((E.getD (L.getD j.toNat 0).toNat (0,0)).1))/\(aV ((ah pm ((E.getD (L.getD j.toNat 0).toNat (0,0)).1)).getD 0) o2.length)/\(((o2.getD ((ah pm ((E.getD (L.getD j.toNat 0).toNat (0,0)).1)).getD 0).toNat ([],[])).2).length+([(L.getD j.toNat 0)]:List Int).length<=2147483647)/\(aV ((ah pm ((E.getD (L.getD j.toNat 0).toNat (0,0)).1)).getD 0) o2.length)/\(aV ((ah pm ((E.getD (L.getD j.toNat 0).toNat (0,0)).1)).getD 0) o2.length)/\(aV ((ah pm ((E.getD (L.getD j.toNat 0).toNat (0,0)).1)).getD 0) o2.length)/\(zX (some (((ah pm ((E.getD (L.getD j.toNat 0).toNat (0,0)).1)).getD 0).toNat*2+1)) (((ah pm ((E.getD (L.getD j.toNat 0).toNat (0,0)).1)).getD 0).toNat*2+1))/\(aX .i64 (j+1))) [] h ⟨bx,bx,wk,bx,ln,bx,bx,bx,rfl,bw⟩ fun _ _ h=>?_
  exact bZ (sj (j+1) (o2.set ((ah pm ((E.getD (L.getD j.toNat 0).toNat (0,0)).1)).getD 0).toNat ((o2.getD ((ah pm ((E.getD (L.getD j.toNat 0).toNat (0,0)).1)).getD 0).toNat ([],[])).1,(((o2.getD ((ah pm ((E.getD (L.getD j.toNat 0).toNat (0,0)).1)).getD 0).toNat ([],[])).2)++([(L.getD j.toNat 0)]:List Int)))) (rk [0,1,2,3,4,102406]) h ⟨by omega,by omega,hE.step hF.1 j0 q4⟩ (QI))
 refine aC [] h fun _ _ h=>?_
 exact out ((o2:List ((List Int)×List Int)),((0:Int):Int),()) h (by have e1:=hE.f;rw[List.take_of_length_le (by omega)] at e1;exact Gq hp e1)
def E9:cE Tryz.prog:=plain Qd
theorem Lh:aS Tryz.prog 122 [(false,gX),(false,.int)] [.int] (fun x=>0<=(I_ x.2.1)/\(I_ x.2.1)/2<((E_ x.1.2).length:Int)/\(I_ x.2.1)<=1000000) (fun x=>(ak (E_ x.1.2) (I_ x.2.1),())):=by
 refine aF Tryz.f122 22 [] Tryz.func122 fun o x hd _ _ h=>?_
 obtain⟨⟨(n:Int),(E:List (Int×Int))⟩,(d:Int),_⟩:=x
 have e7:=gL h 0 E
 change 0<=d/\d/2<(E.length:Int)/\d<=1000000 at hd
 obtain⟨d0,d1,d2⟩:=hd
 refine go (pr:=(0<=d/\0<(2:Int))) [] h (⟨by omega,by omega⟩) fun _ _ h=>?_
 refine ag h (fun(q1:d%2=0)=>?_) (fun(q1:¬(d%2=0))=>?_)
 .refine go (pr:=(0<=d/\0<(2:Int)/\aX .i64 d)/\(aV (d/2) E.length)) [] h ⟨⟨by omega,by omega,⟨by omega,by omega⟩⟩,bx⟩ fun _ _ h=>?_
  exact out (((E.getD (d/2).toNat (0,0)).1:Int),()) h (by simp only[ak,if_pos q1];rfl)
 refine go (pr:=(0<=d/\0<(2:Int)/\aX .i64 d)/\(aV (d/2) E.length)) [] h ⟨⟨by omega,by omega,⟨by omega,by omega⟩⟩,bx⟩ fun _ _ h=>?_
 exact out (((E.getD (d/2).toNat (0,0)).2:Int),()) h (by simp only[ak,if_neg q1];rfl)
def Li:cE Tryz.prog:=plain Lh
theorem Lj:aS Tryz.prog 45 [(false,gX),(false,.int)] [.int] (fun x=>0<=(I_ x.2.1)/\(I_ x.2.1)/2<((E_ x.1.2).length:Int)/\(I_ x.2.1)<=1000000) (fun x=>(ak (E_ x.1.2) (I_ x.2.1),())):=by
 refine aF Tryz.f45 22 [] Tryz.func45 fun o x hd _ _ h=>?_
 obtain⟨⟨(n:Int),(E:List (Int×Int))⟩,(d:Int),_⟩:=x
 have e7:=gL h 0 E
 change 0<=d/\d/2<(E.length:Int)/\d<=1000000 at hd
 obtain⟨d0,d1,d2⟩:=hd
 refine go (pr:=(0<=d/\0<(2:Int))) [] h (⟨by omega,by omega⟩) fun _ _ h=>?_
 refine ag h (fun(q1:d%2=0)=>?_) (fun(q1:¬(d%2=0))=>?_)
 .refine go (pr:=(0<=d/\0<(2:Int)/\aX .i64 d)/\(aV (d/2) E.length)) [] h ⟨⟨by omega,by omega,⟨by omega,by omega⟩⟩,bx⟩ fun _ _ h=>?_
  exact out (((E.getD (d/2).toNat (0,0)).1:Int),()) h (by simp only[ak,if_pos q1];rfl)
 refine go (pr:=(0<=d/\0<(2:Int)/\aX .i64 d)/\(aV (d/2) E.length)) [] h ⟨⟨by omega,by omega,⟨by omega,by omega⟩⟩,bx⟩ fun _ _ h=>?_
 exact out (((E.getD (d/2).toNat (0,0)).2:Int),()) h (by simp only[ak,if_neg q1];rfl)
def qE:cE Tryz.prog:=plain Lj
theorem TL:aS Tryz.prog 102 [(false,gX),(false,fR),(false,(.list (.list .int)))] [(.list .int),.int] (fun x=>bz (I_ x.1.1)/\aO (K_ x.2.2.1)/\av (K_ x.2.2.1)) (fun x=>((cK (I_ x.1.1) (E_ x.1.2) (J_ x.2.1.1) (J_ x.2.1.2) (K_ x.2.2.1)).1,(cK (I_ x.1.1) (E_ x.1.2) (J_ x.2.1.1) (J_ x.2.1.2) (K_ x.2.2.1)).2,())):=by
 refine aF Tryz.f102 120 [Li,E9,tG] Tryz.func102 fun o x hd _ _ h=>?_
 obtain⟨⟨(n:Int),(E:List (Int×Int))⟩,⟨(V:List Int),(L:List Int)⟩,(T:List (List Int)),_⟩:=x
 have e7:=gL h 0 E
 have eZ:=cg h 1 V
 have fS:=cg h 2 L
 have jm:=eP h 3 T
 change bz n/\aO T/\av T at hd
 obtain⟨hn,gp,cw⟩:=hd
 refine go (pr:=(bz n/\aO T/\av T)) [] h (⟨hn,gp,cw⟩) fun _ _ h=>?_
 refine ag h (fun(q1:¬((aa n E V L T).2=0))=>?_) (fun(q1:(aa n E V L T).2=0)=>?_)
 .refine aC [] h fun _ _ h=>?_
  exact out (([]:List Int),((aa n E V L T).2:Int),()) h (by simp only[cK,if_pos q1];rfl)
 have lU:=q1
 obtain⟨gw,hT,hW⟩:=bS lU
 have hP:=fo gw
 obtain⟨jZ,hV,hL,_⟩:=aD gw
 obtain⟨r1,r2,r3,_⟩:=aN jZ
 have zw:=ay hV r1
 have vf:=ay hL (by omega)
 have Jk:=hP.len
 have GK:=hW.len
 have XC:=nV (fun k=>(hP.bd k).1) (P:=(az n E V L))
 refine go (pr:=(bz n)) [] h hn fun _ _ h=>?_
 refine ag h (fun(q2:¬(aA n E V L=0))=>?_) (fun(q2:aA n E V L=0)=>?_)
 .exact(q2 gw).elim
 refine aC [] h fun _ _ h=>?_
 refine aK Int (List (Int×Int)) (fun i m=>⟨[(3,ep 0),(8,eo 1),(10,eo 2),(11,em 3),(46,eo 2),(47,en ((az n E V L).length:Int)),(48,en i)],[(0,some (.box 24 [.v (.int .i64 n),.own 4])),(1,some (.ro (.pair .int (.list .int)) ((aa n E V L T).1))),(2,some (.ro fR (az n E V L))),(3,some (.map .int .int m)),(4,some (.ar fA E))],5⟩) (fun i m=>0<=i/\i<=((az n E V L).length:Int)/\m=um (az n E V L) i.toNat) (fun i m=>(((az n E V L).length:Int)-i).toNat) 0 [] (rk [4,28676,69636,114692,0]) h ⟨Int.le_refl _,Int.natCast_nonneg _,rfl⟩ fun i m _ _ _ cq hI h=>?_
 obtain⟨i0,i1,i2⟩:=hI
 refine aC [] h fun _ _ h=>?_
 refine ag h (fun(q3:i<((az n E V L).length:Int))=>?_) (fun(q3:¬(i<((az n E V L).length:Int)))=>?_)
 .obtain⟨qb1,qb2⟩:=hP.bd i.toNat
  have uS:=XC i.toNat
  have WW:i.toNat*V.length<=1048576:=Nat.le_trans (Nat.mul_le_mul (show i.toNat<=1024 by omega) (show V.length<=1024 by omega)) (by decide)
  rw[<-i2] at uS
  refine go (pr:=(aV i (az n E V L).length)) [] h bx fun _ _ h=>?_
  refine aK Int (List (Int×Int)) (fun j mm=>⟨[(3,ep 0),(8,eo 1),(10,eo 2),(11,em 3),(12,en i),(46,eo 2),(47,en ((az n E V L).length:Int)),(48,en i),(54,eo 4),(55,en ((((az n E V L).getD i.toNat ([],[])).1).length:Int)),(56,en j)],[(0,some (.box 24 [.v (.int .i64 n),.own 5])),(1,some (.ro (.pair .int (.list .int)) ((aa n E V L T).1))),(2,some (.ro fR (az n E V L))),(3,some (.map .int .int mm)),(4,some (.ro .int (((az n E V L).getD i.toNat ([],[])).1))),(5,some (.ar fA E))],6⟩) (fun j mm=>0<=j/\j<=(((az n E V L).getD i.toNat ([],[])).1.length:Int)/\mm=qJ (um (az n E V L) i.toNat) ((az n E V L).getD i.toNat ([],[])).1 i j.toNat) (fun j mm=>((((az n E V L).getD i.toNat ([],[])).1.length:Int)-j).toNat) 0 m (rk [0,1,2,3,12293,4]) h ⟨Int.le_refl _,Int.natCast_nonneg _,i2⟩ fun j mm _ _ _ fQ hI h=>?_
  obtain⟨j0,j1,j2⟩:=hI
  refine aC [] h fun _ _ h=>?_
  refine ag h (fun(q4:j<((((az n E V L).getD i.toNat ([],[])).1).length:Int))=>?_) (fun(q4:¬(j<((((az n E V L).getD i.toNat ([],[])).1).length:Int)))=>?_)
  .have hvm:=hP.sub i.toNat _ (af (l:=((az n E V L).getD i.toNat ([],[])).1) (i:=j.toNat) (d:=0) (by omega))
   have Fg:=(aG.1 hV).2 _ hvm
   have we:=jo (m:=um (az n E V L) i.toNat) (vs:=((az n E V L).getD i.toNat ([],[])).1) (c:=i) j.toNat
   rw[<-j2,<-i2] at we
   refine go (pr:=(aV j (((az n E V L).getD i.toNat ([],[])).1).length)/\(dc .int ((((az n E V L).getD i.toNat ([],[])).1).getD j.toNat 0))/\(mm.length<=2147483647)/\(aX .i64 (j+1))) [] h ⟨bx,wk,ln,bw⟩ fun _ _ h=>?_
   exact bZ (fQ (j+1) (cB mm ((((az n E V L).getD i.toNat ([],[])).1).getD j.toNat 0) i) (ir 6) h ⟨by omega,by omega,by rw[pn j0,<-j2]⟩ (by omega))
  have CG:j.toNat=((az n E V L).getD i.toNat ([],[])).1.length:=by omega
  have r7:=j2
  rw[CG] at r7
  refine go (pr:=(aX .i64 (i+1))) [] h bw fun _ _ h=>?_
  exact bZ (cq (i+1) mm (rk [0,1,2,3,5]) h ⟨by omega,by omega,by rw[En i0,<-r7]⟩ (by omega))
 have oz:i.toNat=(az n E V L).length:=by omega
 rw[oz] at i2
 refine go (pr:=(0<=((az n E V L).length:Int)/\((az n E V L).length:Int)<=((az n E V L).length:Int)/\((az n E V L).length:Int)<=2147483647)) [] h (⟨by omega,by omega,by omega⟩) fun _ _ h=>?_
 refine aK Int (List Int) (fun i fs=>⟨[(3,ep 0),(10,eo 1),(11,em 2),(16,eo 3),(68,eo 4),(69,en (((aa n E V L T).1).length:Int)),(70,en i)],[(0,some (.box 24 [.v (.int .i64 n),.own 5])),(1,some (.ro fR (az n E V L))),(2,some (.map .int .int m)),(3,some (.row 3 .int fs)),(4,some (.ro (.pair .int (.list .int)) ((aa n E V L T).1))),(5,some (.ar fA E))],6⟩) (fun i fs=>0<=i/\i<=((aa n E V L T).1.length:Int)/\fs=oE E (az n E V L) (aa n E V L T).1 i.toNat) (fun i fs=>(((aa n E V L T).1.length:Int)-i).toNat) 0 (List.replicate (az n E V L).length 0) (rk [0,2,3,12293,1,4]) h ⟨Int.le_refl _,Int.natCast_nonneg _,rfl⟩ fun i fs _ _ _ sj hI h=>?_
 obtain⟨k0,k1,k2⟩:=hI
 refine aC [] h fun _ _ h=>?_
 refine ag h (fun(q5:i<(((aa n E V L T).1).length:Int))=>?_) (fun(q5:¬(i<(((aa n E V L T).1).length:Int)))=>?_)
 .have rT:((aa n E V L T).1.getD i.toNat (0,[]))∈(aa n E V L T).1:=af (by omega)
  have R6:=qo gw hW rT
  obtain⟨pi,pi0,_,pi1⟩:=Ca hP R6
  have HJ:=vY (E:=E) (P:=(az n E V L)) (W:=(aa n E V L T).1) i.toNat
  rw[<-k2] at HJ
  have Nq:=N3 (E:=E) (P:=(az n E V L)) (W:=(aa n E V L T).1) i.toNat
  rw[<-k2] at Nq
  have My:=u9 gw hW rT
  have hky:=hW.key _ rT
  rw[<-i2] at pi1
  refine go (pr:=(aV i ((aa n E V L T).1).length)/\(aX .i64 ((-1)-((((aa n E V L T).1).getD i.toNat (0,[])).1)))) [] h ⟨bx,bw⟩ fun _ _ h=>?_
  refine ag h (fun(q6:(0:Int)<(((((aa n E V L T).1).getD i.toNat (0,[])).2).length:Int))=>?_) (fun(q6:¬((0:Int)<(((((aa n E V L T).1).getD i.toNat (0,[])).2).length:Int)))=>?_)
  .have QC:fV E ((aa n E V L T).1.getD i.toNat (0,[]))=ak E ((aa n E V L T).1.getD i.toNat (0,[])).1:=if_neg (by omega)
   obtain⟨_,Jh⟩:=hky.resolve_left fun z=>by omega
   obtain⟨_,d0,d1,d2⟩:=cv gw Jh
   rw[QC] at pi1 R6
   have pi2:(ah m (ak E ((aa n E V L T).1.getD i.toNat (0,[])).1)).getD 0=(pi:Int):=by rw[pi1];rfl
   have Fg:=(aG.1 hV).2 _ R6
   have abA:=Nq ((ah m (ak E ((aa n E V L T).1.getD i.toNat (0,[])).1)).getD 0).toNat
   refine go (pr:=(0<=((((aa n E V L T).1).getD i.toNat (0,[])).1)/\((((aa n E V L T).1).getD i.toNat (0,[])).1)/2<(E.length:Int)/\((((aa n E V L T).1).getD i.toNat (0,[])).1)<=1000000)/\(dc .int (ak E ((((aa n E V L T).1).getD i.toNat (0,[])).1)))/\(aV ((ah m (ak E ((((aa n E V L T).1).getD i.toNat (0,[])).1))).getD 0) fs.length)/\(aX .i64 ((fs.getD ((ah m (ak E ((((aa n E V L T).1).getD i.toNat (0,[])).1))).getD 0).toNat 0)+1))/\(aV ((ah m (ak E ((((aa n E V L T).1).getD i.toNat (0,[])).1))).getD 0) fs.length)/\(aV ((ah m (ak E ((((aa n E V L T).1).getD i.toNat (0,[])).1))).getD 0) fs.length)/\(aX .i64 (i+1))) [] h ⟨⟨by omega,by omega,by omega⟩,wk,bx,bw,bx,bx,bw⟩ fun _ _ h=>?_
   exact bZ (sj (i+1) (fs.set ((ah m (ak E ((((aa n E V L T).1).getD i.toNat (0,[])).1))).getD 0).toNat ((fs.getD ((ah m (ak E ((((aa n E V L T).1).getD i.toNat (0,[])).1))).getD 0).toNat 0)+1)) (ir 6) h ⟨by omega,by omega,by rw[AF k0,QC,<-k2,<-i2]⟩ (by omega))
  have QC:fV E ((aa n E V L T).1.getD i.toNat (0,[]))= -1-((aa n E V L T).1.getD i.toNat (0,[])).1:=if_pos (by omega)
  rw[QC] at pi1 R6
  have pi2:(ah m (-1-((aa n E V L T).1.getD i.toNat (0,[])).1)).getD 0=(pi:Int):=by rw[pi1];rfl
  have Fg:=(aG.1 hV).2 _ R6
  have abA:=Nq ((ah m (-1-((aa n E V L T).1.getD i.toNat (0,[])).1)).getD 0).toNat
  refine go (pr:=(dc .int ((-1)-((((aa n E V L T).1).getD i.toNat (0,[])).1)))/\(aV ((ah m ((-1)-((((aa n E V L T).1).getD i.toNat (0,[])).1))).getD 0) fs.length)/\(aX .i64 ((fs.getD ((ah m ((-1)-((((aa n E V L T).1).getD i.toNat (0,[])).1))).getD 0).toNat 0)+1))/\(aV ((ah m ((-1)-((((aa n E V L T).1).getD i.toNat (0,[])).1))).getD 0) fs.length)/\(aV ((ah m ((-1)-((((aa n E V L T).1).getD i.toNat (0,[])).1))).getD 0) fs.length)/\(aX .i64 (i+1))) [] h ⟨wk,bx,bw,bx,bx,bw⟩ fun _ _ h=>?_
  exact bZ (sj (i+1) (fs.set ((ah m ((-1)-((((aa n E V L T).1).getD i.toNat (0,[])).1))).getD 0).toNat ((fs.getD ((ah m ((-1)-((((aa n E V L T).1).getD i.toNat (0,[])).1))).getD 0).toNat 0)+1)) (ir 6) h ⟨by omega,by omega,by rw[AF k0,QC,<-k2,<-i2]⟩ (by omega))
 have ru:i.toNat=(aa n E V L T).1.length:=by omega
 rw[ru] at k2
 have HJ:=vY (E:=E) (P:=(az n E V L)) (W:=(aa n E V L T).1) (aa n E V L T).1.length
 rw[<-k2] at HJ
 refine aC [] h fun _ _ h=>?_
 refine aK Int (List Int) (fun i gs=>⟨[(16,eo 0),(20,eo 1),(94,eo 2),(95,en ((az n E V L).length:Int)),(96,en i)],[(0,some (.row 3 .int fs)),(1,some (.row 3 .int gs)),(2,some (.ro fR (az n E V L)))],3⟩) (fun i gs=>0<=i/\i<=((az n E V L).length:Int)/\gs=zf (az n E V L) fs i.toNat) (fun i gs=>(((az n E V L).length:Int)-i).toNat) 0 [] [(0,some 3),(1,none),(2,some 1)] h ⟨Int.le_refl _,Int.natCast_nonneg _,rfl⟩ fun i gs _ _ _ Fs hI h=>?_
 obtain⟨g0,g1,g2⟩:=hI
 refine aC [] h fun _ _ h=>?_
 refine ag h (fun(q7:i<((az n E V L).length:Int))=>?_) (fun(q7:¬(i<((az n E V L).length:Int)))=>?_)
 .obtain⟨qb1,qb2⟩:=hP.bd i.toNat
  have Nq:=N3 (E:=E) (P:=(az n E V L)) (W:=(aa n E V L T).1) (aa n E V L T).1.length i.toNat
  rw[<-k2] at Nq
  have EW:=Cb (P:=(az n E V L)) (fs:=fs) i.toNat
  rw[<-g2] at EW
  refine go (pr:=(aV i (az n E V L).length)/\(aX .i64 (2-((((az n E V L).getD i.toNat ([],[])).1).length:Int)))/\(aX .i64 ((2-((((az n E V L).getD i.toNat ([],[])).1).length:Int))+((((az n E V L).getD i.toNat ([],[])).2).length:Int)))/\(aV i fs.length)/\(aX .i64 (((2-((((az n E V L).getD i.toNat ([],[])).1).length:Int))+((((az n E V L).getD i.toNat ([],[])).2).length:Int))-(fs.getD i.toNat 0)))/\(0<(2:Int)/\aX .i64 (((2-((((az n E V L).getD i.toNat ([],[])).1).length:Int))+((((az n E V L).getD i.toNat ([],[])).2).length:Int))-(fs.getD i.toNat 0)))/\(gs.length+([Int.tdiv (((2-((((az n E V L).getD i.toNat ([],[])).1).length:Int))+((((az n E V L).getD i.toNat ([],[])).2).length:Int))-(fs.getD i.toNat 0)) 2]:List Int).length<=2147483647)/\(aX .i64 (i+1))) [(115,true)] h ⟨bx,bw,bw,bx,bw,⟨by omega,⟨by omega,by omega⟩⟩,ln,bw⟩ fun _ _ h=>?_
  exact bZ (Fs (i+1) (gs++([Int.tdiv (((2-((((az n E V L).getD i.toNat ([],[])).1).length:Int))+((((az n E V L).getD i.toNat ([],[])).2).length:Int))-(fs.getD i.toNat 0)) 2]:List Int)) (rk [0,94211,2]) h ⟨by omega,by omega,by rw[KI g0,<-g2]⟩ (by omega))
 have zV:i.toNat=(az n E V L).length:=by omega
 rw[zV] at g2
 refine aC [] h fun _ _ h=>?_
 exact out ((gs:List Int),((0:Int):Int),()) h (by simp only[cK,if_neg (show ¬(aa n E V L T).2≠0 by rw[lU];exact fun q=>q rfl)];rw[<-k2,<-g2])
def TM:cE Tryz.prog:=plain TL
theorem XD:aS Tryz.prog 60 [(false,gX),(false,fR),(false,(.list (.list .int)))] [.int] (fun x=>bz (I_ x.1.1)/\aO (K_ x.2.2.1)/\av (K_ x.2.2.1)) (fun x=>(fW (I_ x.1.1) (E_ x.1.2) (J_ x.2.1.1) (J_ x.2.1.2) (K_ x.2.2.1),())):=by
 refine aF Tryz.f60 30 [TM] Tryz.func60 fun o x hd _ _ h=>?_
 obtain⟨⟨(n:Int),(E:List (Int×Int))⟩,⟨(V:List Int),(L:List Int)⟩,(T:List (List Int)),_⟩:=x
 have e7:=gL h 0 E
 have eZ:=cg h 1 V
 have fS:=cg h 2 L
 have jm:=eP h 3 T
 change bz n/\aO T/\av T at hd
 obtain⟨hn,gp,cw⟩:=hd
 refine go (pr:=(bz n/\aO T/\av T)) [] h (⟨hn,gp,cw⟩) fun _ _ h=>?_
 refine ag h (fun(q1:¬((cK n E V L T).2=0))=>?_) (fun(q1:(cK n E V L T).2=0)=>?_)
 .refine aC [] h fun _ _ h=>?_
  exact out (((cK n E V L T).2:Int),()) h (by simp only[fW,if_pos q1];rfl)
 have EW:=KJ q1
 have hpv:=Gu q1
 refine aC [] h fun _ _ h=>?_
 refine go_loop (Int) (fun i=>⟨[(21,eo 0),(22,en (((cK n E V L T).1).length:Int)),(23,en i)],[(0,some (.ro .int ((cK n E V L T).1)))],1⟩) (fun i=>0<=i/\∀j:Nat,(j:Int)<i->(cK n E V L T).1.getD j 0=0) (fun i=>(((cK n E V L T).1.length:Int)-i).toNat) (0) (rk [24580]) h ⟨Int.le_refl _,fun j hj=>by omega⟩ fun i _ _ _ cq hI h=>?_
 obtain⟨i0,i1⟩:=hI
 refine aC [] h fun _ _ h=>?_
 refine ag h (fun(q2:i<(((cK n E V L T).1).length:Int))=>?_) (fun(q2:¬(i<(((cK n E V L T).1).length:Int)))=>?_)
 .refine go (pr:=(aV i ((cK n E V L T).1).length)) [] h bx fun _ _ h=>?_
  refine ag h (fun(q3:¬((((cK n E V L T).1).getD i.toNat 0)=0))=>?_) (fun(q3:(((cK n E V L T).1).getD i.toNat 0)=0)=>?_)
  .refine aC [] h fun _ _ h=>?_
   exact out (((6:Int):Int),()) h (by rw[N4 q1 i0 q2 q3])
  refine go (pr:=(aX .i64 (i+1))) [] h bw fun _ _ h=>?_
  exact bZ (cq (i+1) (ir 1) h ⟨by omega,fun j hj=>if z:(j:Int)<i then i1 j z else by rw[show j=i.toNat by omega];exact q3⟩ (by omega))
 refine aC [] h fun _ _ h=>?_
 exact out (((0:Int):Int),()) h (by rw[RR q1 (fun j hj=>i1 j (by omega))])
def XE:cE Tryz.prog:=plain XD
theorem Qe:aS Tryz.prog 104 [(false,gX),(false,(.pair .int (.list .int)))] [.int] (fun x=>((J_ x.2.1.2).length=0/\-1<=-1-(I_ x.2.1.1)/\-1-(I_ x.2.1.1)<=1000000)\/((J_ x.2.1.2).length≠0/\0<=(I_ x.2.1.1)/\(I_ x.2.1.1)/2<((E_ x.1.2).length:Int)/\(I_ x.2.1.1)<=1000000)) (fun x=>(fV (E_ x.1.2) ((I_ x.2.1.1),(J_ x.2.1.2)),())):=by
 refine aF Tryz.f104 34 [] Tryz.func104 fun o x hd _ _ h=>?_
 obtain⟨⟨(n:Int),(E:List (Int×Int))⟩,⟨(k:Int),(ds:List Int)⟩,_⟩:=x
 have e7:=gL h 0 E
 have eZ:=cg h 1 ds
 change (ds.length=0/\-1<=-1-k/\-1-k<=1000000)\/(ds.length≠0/\0<=k/\k/2<(E.length:Int)/\k<=1000000) at hd
 refine aC [] h fun _ _ h=>?_
 refine ag h (fun(q1:(ds.length:Int)=0)=>?_) (fun(q1:¬((ds.length:Int)=0))=>?_)
 .have hk:=hd.resolve_right fun z=>z.1 (by omega)
  refine go (pr:=(aX .i64 ((-1)-k))) [] h bw fun _ _ h=>?_
  exact out (((-1)-k:Int),()) h (by unfold fV;rw[if_pos (show(k,ds).2.length=0 by show ds.length=0;omega)])
 have hk:=hd.resolve_left fun z=>by omega
 refine go (pr:=(0<=k/\0<(2:Int))) [] h (⟨by omega,by omega⟩) fun _ _ h=>?_
 refine ag h (fun(q2:k%2=0)=>?_) (fun(q2:¬(k%2=0))=>?_)
 .refine go (pr:=(0<=k/\0<(2:Int)/\aX .i64 k)/\(aV (k/2) E.length)) [] h ⟨⟨by omega,by omega,⟨by omega,by omega⟩⟩,bx⟩ fun _ _ h=>?_
  exact out (((E.getD (k/2).toNat (0,0)).1:Int),()) h (by unfold fV ak;rw[if_neg (show ¬(k,ds).2.length=0 by show ¬ds.length=0;omega),if_pos (show(k,ds).1%2=0 from q2)])
 refine go (pr:=(0<=k/\0<(2:Int)/\aX .i64 k)/\(aV (k/2) E.length)) [] h ⟨⟨by omega,by omega,⟨by omega,by omega⟩⟩,bx⟩ fun _ _ h=>?_
 exact out (((E.getD (k/2).toNat (0,0)).2:Int),()) h (by unfold fV ak;rw[if_neg (show ¬(k,ds).2.length=0 by show ¬ds.length=0;omega),if_neg (show ¬(k,ds).1%2=0 from q2)])
def Qf:cE Tryz.prog:=plain Qe
theorem Qg:aS Tryz.prog 61 [(false,gX),(false,fR),(false,(.list (.list .int)))] [(.map .int .int),.int] (fun x=>bz (I_ x.1.1)/\aO (K_ x.2.2.1)/\av (K_ x.2.2.1)/\(aa (I_ x.1.1) (E_ x.1.2) (J_ x.2.1.1) (J_ x.2.1.2) (K_ x.2.2.1)).2=0) (fun x=>(bL (E_ x.1.2) (az (I_ x.1.1) (E_ x.1.2) (J_ x.2.1.1) (J_ x.2.1.2)) (aa (I_ x.1.1) (E_ x.1.2) (J_ x.2.1.1) (J_ x.2.1.2) (K_ x.2.2.1)).1 (aa (I_ x.1.1) (E_ x.1.2) (J_ x.2.1.1) (J_ x.2.1.2) (K_ x.2.2.1)).1.length,((az (I_ x.1.1) (E_ x.1.2) (J_ x.2.1.1) (J_ x.2.1.2)).length:Int),())):=by
 refine aF Tryz.f61 72 [Qf,E9,tG] Tryz.func61 fun o x hd _ _ h=>?_
 obtain⟨⟨(n:Int),(E:List (Int×Int))⟩,⟨(V:List Int),(L:List Int)⟩,(T:List (List Int)),_⟩:=x
 have e7:=gL h 0 E
 have eZ:=cg h 1 V
 have fS:=cg h 2 L
 have jm:=eP h 3 T
 change bz n/\aO T/\av T/\(aa n E V L T).2=0 at hd
 obtain⟨hn,gp,cw,lU⟩:=hd
 obtain⟨gw,hT,hW⟩:=bS lU
 have hP:=fo gw
 obtain⟨jZ,hV,hL,_⟩:=aD gw
 obtain⟨r1,r2,r3,_⟩:=aN jZ
 have zw:=ay hV r1
 have vf:=ay hL (by omega)
 have Jk:=hP.len
 have GK:=hW.len
 have XC:=nV (fun k=>(hP.bd k).1) (P:=(az n E V L))
 refine go (pr:=(bz n)) [] h hn fun _ _ h=>?_
 refine aK Int (List (Int×Int)) (fun i m=>⟨[(2,eo 0),(3,ep 1),(4,ep 2),(8,eo 3),(10,em 4),(27,eo 3),(28,en ((az n E V L).length:Int)),(29,en i)],[(0,some (.ar (.list .int) T)),(1,some (.box 24 [.v (.int .i64 n),.own 5])),(2,some (.box 27 [.own 6,.own 7])),(3,some (.ro fR (az n E V L))),(4,some (.map .int .int m)),(5,some (.ar fA E)),(6,some (.ar .int V)),(7,some (.ar .int L))],8⟩) (fun i m=>0<=i/\i<=((az n E V L).length:Int)/\m=um (az n E V L) i.toNat) (fun i m=>(((az n E V L).length:Int)-i).toNat) 0 [] (rk [3,4,4100,24580,49156,0,1,2]) h ⟨Int.le_refl _,Int.natCast_nonneg _,rfl⟩ fun i m _ _ _ cq hI h=>?_
 obtain⟨i0,i1,i2⟩:=hI
 refine aC [] h fun _ _ h=>?_
 refine ag h (fun(q1:i<((az n E V L).length:Int))=>?_) (fun(q1:¬(i<((az n E V L).length:Int)))=>?_)
 .obtain⟨qb1,qb2⟩:=hP.bd i.toNat
  have uS:=XC i.toNat
  have WW:i.toNat*V.length<=1048576:=Nat.le_trans (Nat.mul_le_mul (show i.toNat<=1024 by omega) (show V.length<=1024 by omega)) (by decide)
  rw[<-i2] at uS
  refine go (pr:=(aV i (az n E V L).length)) [] h bx fun _ _ h=>?_
  refine aK Int (List (Int×Int)) (fun j mm=>⟨[(2,eo 0),(3,ep 1),(4,ep 2),(8,eo 3),(10,em 4),(11,en i),(27,eo 3),(28,en ((az n E V L).length:Int)),(29,en i),(35,eo 5),(36,en ((((az n E V L).getD i.toNat ([],[])).1).length:Int)),(37,en j)],[(0,some (.ar (.list .int) T)),(1,some (.box 24 [.v (.int .i64 n),.own 6])),(2,some (.box 27 [.own 7,.own 8])),(3,some (.ro fR (az n E V L))),(4,some (.map .int .int mm)),(5,some (.ro .int (((az n E V L).getD i.toNat ([],[])).1))),(6,some (.ar fA E)),(7,some (.ar .int V)),(8,some (.ar .int L))],9⟩) (fun j mm=>0<=j/\j<=(((az n E V L).getD i.toNat ([],[])).1.length:Int)/\mm=qJ (um (az n E V L) i.toNat) ((az n E V L).getD i.toNat ([],[])).1 i j.toNat) (fun j mm=>((((az n E V L).getD i.toNat ([],[])).1.length:Int)-j).toNat) 0 m (rk [0,1,2,3,4,12296,5,6,7]) h ⟨Int.le_refl _,Int.natCast_nonneg _,i2⟩ fun j mm _ _ _ fQ hI h=>?_
  obtain⟨j0,j1,j2⟩:=hI
  refine aC [] h fun _ _ h=>?_
  refine ag h (fun(q2:j<((((az n E V L).getD i.toNat ([],[])).1).length:Int))=>?_) (fun(q2:¬(j<((((az n E V L).getD i.toNat ([],[])).1).length:Int)))=>?_)
  .have hvm:=hP.sub i.toNat _ (af (l:=((az n E V L).getD i.toNat ([],[])).1) (i:=j.toNat) (d:=0) (by omega))
   have Fg:=(aG.1 hV).2 _ hvm
   have we:=jo (m:=um (az n E V L) i.toNat) (vs:=((az n E V L).getD i.toNat ([],[])).1) (c:=i) j.toNat
   rw[<-j2,<-i2] at we
   refine go (pr:=(aV j (((az n E V L).getD i.toNat ([],[])).1).length)/\(dc .int ((((az n E V L).getD i.toNat ([],[])).1).getD j.toNat 0))/\(mm.length<=2147483647)/\(aX .i64 (j+1))) [] h ⟨bx,wk,ln,bw⟩ fun _ _ h=>?_
   exact bZ (fQ (j+1) (cB mm ((((az n E V L).getD i.toNat ([],[])).1).getD j.toNat 0) i) (ir 9) h ⟨by omega,by omega,by rw[pn j0,<-j2]⟩ (by omega))
  have CG:j.toNat=((az n E V L).getD i.toNat ([],[])).1.length:=by omega
  have r7:=j2
  rw[CG] at r7
  refine go (pr:=(aX .i64 (i+1))) [] h bw fun _ _ h=>?_
  exact bZ (cq (i+1) mm (rk [0,1,2,3,4,6,7,8]) h ⟨by omega,by omega,by rw[En i0,<-r7]⟩ (by omega))
 have oz:i.toNat=(az n E V L).length:=by omega
 rw[oz] at i2
 refine go (pr:=(bz n/\aO T/\av T)) [] h (⟨hn,gp,cw⟩) fun _ _ h=>?_
 refine aK Int (List (Int×Int)) (fun i om=>⟨[(3,ep 0),(8,eo 1),(10,em 2),(15,em 3),(54,eo 4),(55,en (((aa n E V L T).1).length:Int)),(56,en i)],[(0,some (.box 24 [.v (.int .i64 n),.own 5])),(1,some (.ro fR (az n E V L))),(2,some (.map .int .int m)),(3,some (.map .int .int om)),(4,some (.ro (.pair .int (.list .int)) ((aa n E V L T).1))),(5,some (.ar fA E))],6⟩) (fun i om=>0<=i/\i<=((aa n E V L T).1.length:Int)/\om=bL E (az n E V L) (aa n E V L T).1 i.toNat) (fun i om=>(((aa n E V L T).1.length:Int)-i).toNat) 0 [] (rk [1,3,4,4104,24584,5]) h ⟨Int.le_refl _,Int.natCast_nonneg _,rfl⟩ fun i om _ _ _ sj hI h=>?_
 obtain⟨k0,k1,k2⟩:=hI
 refine aC [] h fun _ _ h=>?_
 refine ag h (fun(q3:i<(((aa n E V L T).1).length:Int))=>?_) (fun(q3:¬(i<(((aa n E V L T).1).length:Int)))=>?_)
 .have rT:((aa n E V L T).1.getD i.toNat (0,[]))∈(aa n E V L T).1:=af (by omega)
  have R6:=qo gw hW rT
  have Fg:=(aG.1 hV).2 _ R6
  have My:=u9 gw hW rT
  have hcd:=OD gw hW rT
  have CV:=Cc (E:=E) (P:=(az n E V L)) (W:=(aa n E V L T).1) i.toNat
  rw[<-k2] at CV
  refine go (pr:=(aV i ((aa n E V L T).1).length)/\(((((aa n E V L T).1).getD i.toNat (0,[])).2.length=0/\-1<=-1-(((aa n E V L T).1).getD i.toNat (0,[])).1/\-1-(((aa n E V L T).1).getD i.toNat (0,[])).1<=1000000)\/((((aa n E V L T).1).getD i.toNat (0,[])).2.length≠0/\0<=(((aa n E V L T).1).getD i.toNat (0,[])).1/\(((aa n E V L T).1).getD i.toNat (0,[])).1/2<(E.length:Int)/\(((aa n E V L T).1).getD i.toNat (0,[])).1<=1000000))/\(dc .int (fV E (((aa n E V L T).1).getD i.toNat (0,[]))))/\(dc .int ((((aa n E V L T).1).getD i.toNat (0,[])).1))/\(om.length<=2147483647)/\(aX .i64 (i+1))) [] h ⟨bx,hcd,wk,wk,ln,bw⟩ fun _ _ h=>?_
  exact bZ (sj (i+1) (cB om ((((aa n E V L T).1).getD i.toNat (0,[])).1) ((ah m (fV E (((aa n E V L T).1).getD i.toNat (0,[])))).getD 0)) (ir 6) h ⟨by omega,by omega,by rw[KK k0,<-k2,<-i2]⟩ (by omega))
 have ru:i.toNat=(aa n E V L T).1.length:=by omega
 rw[ru] at k2
 refine aC [] h fun _ _ h=>?_
 exact out ((om:bl .int Int),(((az n E V L).length:Int):Int),()) h (by rw[<-k2])
def Qh:cE Tryz.prog:=plain Qg
abbrev Qi:ur:=⟨[.box 138 [.mp 1,.own 2,.own 3,.int],.map .int .int,.row 3 .int,.row 3 .int],[.ptr 0 0,.int],[.box 138 [.mp 1,.own 2,.own 3,.int],.map .int .int,.row 3 .int,.row 3 .int],[.int],1⟩
theorem aau:gQ Tryz.prog 106 Qi (fun x=>(-9223372036854775808<=(I_ x.2.2.1)/\(I_ x.2.2.1)<=9223372036854775807)/\(show bl .int Int from x.1.2.1).length<=1000000/\(J_ x.1.2.2.1).length<=1000000/\(J_ x.1.2.2.2.1).length<=1000000/\-1000000<=(I_ x.1.1.2.2.2.1)/\(I_ x.1.1.2.2.2.1)<=1000000) (fun x=>((((),(),(),iC (show bl .int Int from x.1.2.1) (I_ x.1.1.2.2.2.1) (I_ x.2.2.1),()),bQ (show bl .int Int from x.1.2.1) (J_ x.1.2.2.1) (I_ x.2.2.1),bX (show bl .int Int from x.1.2.1) (J_ x.1.2.2.1) (I_ x.2.2.1),ck (show bl .int Int from x.1.2.1) (J_ x.1.2.2.1) (J_ x.1.2.2.2.1) (I_ x.2.2.1),()),(c9 (show bl .int Int from x.1.2.1) (J_ x.1.2.2.1) (I_ x.2.2.1),()))):=by
 refine ij Tryz.f106 58 [] Qi Tryz.func106 fun o A x hd _ _ h=>?_
 obtain⟨⟨⟨_,_,_,(g:Int),_⟩,(M:bl .int Int),(L:List Int),(U:List Int),_⟩,⟨_,(x:Int),_⟩⟩:=x
 have fS:=cg h 2 L
 have jm:=cg h 3 U
 change (-9223372036854775808<=x/\x<=9223372036854775807)/\M.length<=1000000/\L.length<=1000000/\U.length<=1000000/\-1000000<=g/\g<=1000000 at hd
 obtain⟨⟨x0,x1⟩,hM,hL,hU,g0,g1⟩:=hd
 refine go (pr:=(dc .int x)) [] h wk fun _ _ h=>?_
 refine ag h (fun(q1:((ah M x).isSome)=true)=>?_) (fun(q1:((ah M x).isSome)=false)=>?_)
 .refine aC [] h fun _ _ h=>?_
  obtain⟨i,hi⟩:=Option.isSome_iff_exists.1 q1
  exact pE ((((),(),(),g,()),M,L,U,()),(((ah M x).getD 0),())) (ir 4) h (by simp only[bQ,bX,ck,iC,c9,hi];rfl)
 refine go (pr:=(dc .int x)/\(M.length<=2147483647)/\(L.length+([x]:List Int).length<=2147483647)/\(U.length+([(L.length:Int)]:List Int).length<=2147483647)/\(aX .i64 (g+1))) [] h ⟨wk,ln,ln,ln,bw⟩ fun _ _ h=>?_
 have hi:ah M x=none:=by cases hq:ah M x with|none=>rfl|some _=>rw[hq] at q1;cases q1
 exact pE ((((),(),(),g+1,()),(cB M x (L.length:Int)),(L++([x]:List Int)),(U++([(L.length:Int)]:List Int)),()),((L.length:Int),())) (rk [0,1,135172,180228]) h (by simp only[bQ,bX,ck,iC,c9,hi];rfl)
def UY:cE Tryz.prog:=uv aau
abbrev Jw:ur:=⟨[.box 138 [.mp 1,.own 2,.own 3,.int],.map .int .int,.row 3 .int,.row 3 .int],[.ptr 0 0,.int],[.box 138 [.mp 1,.own 2,.own 3,.int],.map .int .int,.row 3 .int,.row 3 .int],[.int],1⟩
theorem XF:gQ Tryz.prog 107 Jw (fun x=>gM (J_ x.1.2.2.2.1)/\0<=(I_ x.2.2.1)/\(I_ x.2.2.1)<((J_ x.1.2.2.2.1).length:Int)/\(J_ x.1.2.2.2.1).length<=1000000) (fun x=>((((),(),(),(I_ x.1.1.2.2.2.1),()),(show bl .int Int from x.1.2.1),(J_ x.1.2.2.1),ia (J_ x.1.2.2.2.1) (I_ x.2.2.1),()),(tg (J_ x.1.2.2.2.1) (I_ x.2.2.1),()))):=by
 refine ij Tryz.f107 41 [] Jw Tryz.func107 fun o A x hd _ _ h=>?_
 obtain⟨⟨⟨_,_,_,(g:Int),_⟩,(M:bl .int Int),(L:List Int),(U:List Int),_⟩,⟨_,(i:Int),_⟩⟩:=x
 have fS:=cg h 2 L
 have jm:=cg h 3 U
 change gM U/\0<=i/\i<(U.length:Int)/\U.length<=1000000 at hd
 obtain⟨hU,i0,i1,hUl⟩:=hd
 refine aC [] h fun _ _ h=>?_
 refine fB Int (List Int) Nat (fun k c f=>⟨[(0,ep 0),(1,en k)],[(0,some (.box 138 [.mp 1,.own 2,.own 3,.v (.int .i64 g)])),(1,some (.map .int .int M)),(2,some (.row 3 .int L)),(3,some (.row 3 .int c))],4⟩) (fun k c f=>0<=k/\k<(c.length:Int)/\gM c/\c.length=U.length/\k.toNat<f/\Fk f c k=Fk (i.toNat+1) U i) (fun k c f=>f) i U (i.toNat+1) (ir 4) h ⟨i0,i1,hU,rfl,Nat.lt_succ_self _,rfl⟩ fun k c f _ _ _ cq hI h=>?_
 obtain⟨k0,k1,k2,k3,k4,k5⟩:=hI
 refine go (pr:=(aV k c.length)) [] h bx fun _ _ h=>?_
 refine ag h (fun(q1:¬((c.getD k.toNat 0)=k))=>?_) (fun(q1:(c.getD k.toNat 0)=k)=>?_)
 .have hy:=eD k2 k0 (show k<(c.length:Int) by omega)
  have hz:=eD k2 hy.1 (show c.getD k.toNat 0<(c.length:Int) by omega)
  have Kf:(c.set k.toNat (c.getD (c.getD k.toNat 0).toNat 0)).length=c.length:=List.length_set ..
  have hn:(c.set k.toNat (c.getD (c.getD k.toNat 0).toNat 0)).getD k.toNat 0=c.getD (c.getD k.toNat 0).toNat 0:=by rw[mO (by omega),if_pos rfl]
  refine go (pr:=(aV k c.length)/\(aV (c.getD k.toNat 0) c.length)/\(aV k c.length)/\(aV k c.length)/\(aV k (c.set k.toNat (c.getD (c.getD k.toNat 0).toNat 0)).length)) [] h ⟨bx,bx,bx,bx,bx⟩ fun _ _ h=>?_
  exact bZ (cq ((c.set k.toNat (c.getD (c.getD k.toNat 0).toNat 0)).getD k.toNat 0) (c.set k.toNat (c.getD (c.getD k.toNat 0).toNat 0)) (f-1) (ir 4) h ⟨by rw[hn];exact hz.1,by rw[hn,Kf];omega,(Iy k2 k0 (by omega)).1,by omega,by rw[hn];omega,by rw[<-k5,hvS (by omega) q1]⟩ (by omega))
 refine aC [] h fun _ _ h=>?_
 have he:Fk (i.toNat+1) U i=(c,k):=by rw[<-k5];exact hvE (by omega) q1
 exact pE ((((),(),(),g,()),M,L,c,()),(k,())) (ir 4) h (by simp only[ia,tg,he];rfl)
def Qj:cE Tryz.prog:=uv XF
abbrev Qk:ur:=⟨[.box 138 [.mp 1,.own 2,.own 3,.int],.map .int .int,.row 3 .int,.row 3 .int],[.ptr 0 0,.int],[.box 138 [.mp 1,.own 2,.own 3,.int],.map .int .int,.row 3 .int,.row 3 .int],[.bool],1⟩
theorem aav:gQ Tryz.prog 63 Qk (fun x=>(-9223372036854775808<=(I_ x.2.2.1)/\(I_ x.2.2.1)<=9223372036854775807)/\(show bl .int Int from x.1.2.1).length<=900000/\(J_ x.1.2.2.1).length<=900000/\(J_ x.1.2.2.2.1).length<=900000/\-900000<=(I_ x.1.1.2.2.2.1)/\(I_ x.1.1.2.2.2.1)<=900000) (fun x=>((((),(),(),iC (show bl .int Int from x.1.2.1) (I_ x.1.1.2.2.2.1) (I_ x.2.2.1),()),bQ (show bl .int Int from x.1.2.1) (J_ x.1.2.2.1) (I_ x.2.2.1),bX (show bl .int Int from x.1.2.1) (J_ x.1.2.2.1) (I_ x.2.2.1),ck (show bl .int Int from x.1.2.1) (J_ x.1.2.2.1) (J_ x.1.2.2.2.1) (I_ x.2.2.1),()),(decide (c9 (show bl .int Int from x.1.2.1) (J_ x.1.2.2.1) (I_ x.2.2.1)=((J_ x.1.2.2.1).length:Int)),()))):=by
 refine ij Tryz.f63 20 [Ot,UY] Qk Tryz.func63 fun o A x hd _ _ h=>?_
 obtain⟨⟨⟨_,_,_,(g:Int),_⟩,(M:bl .int Int),(L:List Int),(U:List Int),_⟩,⟨_,(x:Int),_⟩⟩:=x
 have fS:=cg h 2 L
 have jm:=cg h 3 U
 change (-9223372036854775808<=x/\x<=9223372036854775807)/\M.length<=900000/\L.length<=900000/\U.length<=900000/\-900000<=g/\g<=900000 at hd
 obtain⟨⟨x0,x1⟩,hM,hL,hU,g0,g1⟩:=hd
 refine go (pr:=(dc .int x)) [] h wk fun _ _ h=>?_
 refine ag h (fun(q1:true=false)=>?_) (fun(q1:true=true)=>?_)
 .cases q1
 refine go (pr:=((-9223372036854775808<=x/\x<=9223372036854775807)/\M.length<=1000000/\L.length<=1000000/\U.length<=1000000/\-1000000<=g/\g<=1000000)) [] h (⟨⟨by omega,by omega⟩,by omega,by omega,by omega,by omega,by omega⟩) fun _ _ h=>?_
 exact pE ((((),(),(),iC M g x,()),bQ M L x,bX M L x,ck M L U x,()),(decide (c9 M L x=(L.length:Int)),())) (rk [0,53253,53254,53255]) h rfl
def UZ:cE Tryz.prog:=uv aav
abbrev Fa:ur:=⟨[.box 138 [.mp 1,.own 2,.own 3,.int],.map .int .int,.row 3 .int,.row 3 .int],[.ptr 0 0],[.box 138 [.mp 1,.own 2,.own 3,.int],.map .int .int,.row 3 .int,.row 3 .int],[.int],1⟩
theorem TN:gQ Tryz.prog 65 Fa (fun _=>True) (fun x=>((((),(),(),(I_ x.1.1.2.2.2.1),()),(show bl .int Int from x.1.2.1),(J_ x.1.2.2.1),(J_ x.1.2.2.2.1),()),((I_ x.1.1.2.2.2.1),()))):=by
 refine ij Tryz.f65 9 [] Fa Tryz.func65 fun o A x hd _ _ h=>?_
 obtain⟨⟨⟨_,_,_,(g:Int),_⟩,(M:bl .int Int),(L:List Int),(U:List Int),_⟩,⟨_,_⟩⟩:=x
 have fS:=cg h 2 L
 have jm:=cg h 3 U
 refine aC [] h fun _ _ h=>?_
 exact pE ((((),(),(),g,()),M,L,U,()),(g,())) (ir 4) h rfl
def TO:cE Tryz.prog:=uv TN
abbrev Ql:ur:=⟨[.row 3 .int],[.own 0],[.box 138 [.mp 1,.own 2,.own 3,.int],.map .int .int,.row 3 .int,.row 3 .int],[.ptr 0 0],0⟩
theorem aaw:gQ Tryz.prog 62 Ql (fun x=>(J_ x.1.1)=[]) (fun x=>((((),(),(),(0:Int),()),([]:List (Int×Int)),([]:List Int),([]:List Int),()),((),()))):=by
 refine ij Tryz.f62 20 [] Ql Tryz.func62 fun o A x hd _ _ h=>?_
 obtain⟨⟨(Z:List Int),_⟩,⟨_,_⟩⟩:=x
 have e7:=cg h 0 Z
 change Z=[] at hd
 have hz:Z.length=0:=by rw[hd];rfl
 refine aC [] h fun _ _ h=>?_
 refine go_loop (Int) (fun i=>⟨[(3,ep 0),(9,eo 1),(10,en (Z.length:Int)),(11,en i)],[(0,some (.box 138 [.mp 2,.v (.slice none 0 0),.v (.slice none 0 0),.v (.int .i64 0)])),(1,some (.row 3 .int Z)),(2,some (.map .int .int ([]:bl .int Int)))],3⟩) (fun i=>i=0/\True) (fun i=>0) (0) (rk [12289,0,4097]) h ⟨rfl,tv⟩ fun i _ _ _ cq hI h=>?_
 obtain⟨i0,_⟩:=hI
 refine aC [] h fun _ _ h=>?_
 refine ag h (fun(q1:i<(Z.length:Int))=>?_) (fun(q1:¬(i<(Z.length:Int)))=>?_)
 .omega
 refine aC [] h fun _ _ h=>?_
 exact pE ((((),(),(),(0:Int),()),([]:bl .int Int),[],[],()),((),())) [(0,some 0),(1,some 2),(2,none),(3,none)] h rfl
def U0:cE Tryz.prog:=uv aaw
abbrev Jx:ur:=⟨[.box 138 [.mp 1,.own 2,.own 3,.int],.map .int .int,.row 3 .int,.row 3 .int],[.ptr 0 0,.int,.int],[.box 138 [.mp 1,.own 2,.own 3,.int],.map .int .int,.row 3 .int,.row 3 .int],[.bool],1⟩
theorem XG:gQ Tryz.prog 64 Jx (fun x=>(-9223372036854775808<=(I_ x.2.2.1)/\(I_ x.2.2.1)<=9223372036854775807)/\(-9223372036854775808<=(I_ x.2.2.2.1)/\(I_ x.2.2.2.1)<=9223372036854775807)/\lu (show bl .int Int from x.1.2.1) (J_ x.1.2.2.1) (J_ x.1.2.2.2.1)/\(J_ x.1.2.2.1).length<=900000/\-900000<=(I_ x.1.1.2.2.2.1)/\(I_ x.1.1.2.2.2.1)<=900000) (fun x=>((((),(),(),Iz (show bl .int Int from x.1.2.1) (J_ x.1.2.2.1) (J_ x.1.2.2.2.1) (I_ x.1.1.2.2.2.1) (I_ x.2.2.1) (I_ x.2.2.2.1),()),Sj (show bl .int Int from x.1.2.1) (J_ x.1.2.2.1) (I_ x.2.2.1) (I_ x.2.2.2.1),Ou (show bl .int Int from x.1.2.1) (J_ x.1.2.2.1) (I_ x.2.2.1) (I_ x.2.2.2.1),KR (show bl .int Int from x.1.2.1) (J_ x.1.2.2.1) (J_ x.1.2.2.2.1) (I_ x.2.2.1) (I_ x.2.2.2.1),()),(Ow (show bl .int Int from x.1.2.1) (J_ x.1.2.2.1) (J_ x.1.2.2.2.1) (I_ x.2.2.1) (I_ x.2.2.2.1),()))):=by
 refine ij Tryz.f64 52 [Ot,UY,Qj] Jx Tryz.func64 fun o A x hd _ _ h=>?_
 obtain⟨⟨⟨_,_,_,(g:Int),_⟩,(M:bl .int Int),(L:List Int),(U:List Int),_⟩,⟨_,(x:Int),(y:Int),_⟩⟩:=x
 have fS:=cg h 2 L
 have jm:=cg h 3 U
 change (-9223372036854775808<=x/\x<=9223372036854775807)/\(-9223372036854775808<=y/\y<=9223372036854775807)/\lu M L U/\L.length<=900000/\-900000<=g/\g<=900000 at hd
 obtain⟨⟨x0,x1⟩,⟨y0,y1⟩,hR,hL,g0,g1⟩:=hd
 obtain⟨YK,a0,a1,_⟩:=hR.put x
 obtain⟨Ul,b0,b1,_⟩:=YK.put y
 have w1:=hR.len
 have w2:M.length<=L.length:=hR.th
 have w3:=YK.len
 have w4:=YK.th
 have w5:=Ul.len
 have w6:=Ul.th
 have w7:=pG M L x
 have w8:=pG (bQ M L x) (bX M L x) y
 have w9:=Ox M g x
 have w10:=Ox (bQ M L x) (iC M g x) y
 obtain⟨c1,c2,c3,c4,c5,c6,c7,c8⟩:=UJ Ul.ok (i:=c9 M L x) a0 (by omega) b0 (by omega)
 refine go (pr:=(dc .int x)/\((true=true)->(dc .int y))) [] h ⟨wk,fun _=>wk⟩ fun _ _ h=>?_
 refine ag h (fun(q1:(true=false)\/(true=false))=>?_) (fun(q1:(true=true)/\(true=true))=>?_)
 .rcases q1 with q|q<;>cases q
 refine go (pr:=((-9223372036854775808<=x/\x<=9223372036854775807)/\M.length<=1000000/\L.length<=1000000/\U.length<=1000000/\-1000000<=g/\g<=1000000)/\((-9223372036854775808<=y/\y<=9223372036854775807)/\(bQ M L x).length<=1000000/\(bX M L x).length<=1000000/\(ck M L U x).length<=1000000/\-1000000<=(iC M g x)/\(iC M g x)<=1000000)/\(gM (ck (bQ M L x) (bX M L x) (ck M L U x) y)/\0<=(c9 M L x)/\(c9 M L x)<((ck (bQ M L x) (bX M L x) (ck M L U x) y).length:Int)/\(ck (bQ M L x) (bX M L x) (ck M L U x) y).length<=1000000)/\(gM (ia (ck (bQ M L x) (bX M L x) (ck M L U x) y) (c9 M L x))/\0<=(c9 (bQ M L x) (bX M L x) y)/\(c9 (bQ M L x) (bX M L x) y)<((ia (ck (bQ M L x) (bX M L x) (ck M L U x) y) (c9 M L x)).length:Int)/\(ia (ck (bQ M L x) (bX M L x) (ck M L U x) y) (c9 M L x)).length<=1000000)) [] h ⟨⟨⟨by omega,by omega⟩,by omega,by omega,by omega,by omega,by omega⟩,⟨⟨by omega,by omega⟩,by omega,by omega,by omega,by omega,by omega⟩,⟨Ul.ok,by omega,by omega,by omega⟩,⟨by assumption,by omega,by omega,by omega⟩⟩ fun _ _ h=>?_
 refine ag h (fun(q2:tg (ck (bQ M L x) (bX M L x) (ck M L U x) y) (c9 M L x)=tg (ia (ck (bQ M L x) (bX M L x) (ck M L U x) y) (c9 M L x)) (c9 (bQ M L x) (bX M L x) y))=>?_) (fun(q2:¬(tg (ck (bQ M L x) (bX M L x) (ck M L U x) y) (c9 M L x)=tg (ia (ck (bQ M L x) (bX M L x) (ck M L U x) y) (c9 M L x)) (c9 (bQ M L x) (bX M L x) y)))=>?_)
 .refine aC [] h fun _ _ h=>?_
  have q9:rU M L U x y=rV M L U x y:=q2
  exact pE ((((),(),(),iC (bQ M L x) (iC M g x) y,()),bQ (bQ M L x) (bX M L x) y,bX (bQ M L x) (bX M L x) y,ia (ia (ck (bQ M L x) (bX M L x) (ck M L U x) y) (c9 M L x)) (c9 (bQ M L x) (bX M L x) y),()),(false,())) (rk [0,98309,98310,98311]) h (by simp only[Iz,Sj,Ou,KR,Ow,if_pos q9];rfl)
 refine go (pr:=(aV (max (tg (ck (bQ M L x) (bX M L x) (ck M L U x) y) (c9 M L x)) (tg (ia (ck (bQ M L x) (bX M L x) (ck M L U x) y) (c9 M L x)) (c9 (bQ M L x) (bX M L x) y))) (ia (ia (ck (bQ M L x) (bX M L x) (ck M L U x) y) (c9 M L x)) (c9 (bQ M L x) (bX M L x) y)).length)/\(aV (max (tg (ck (bQ M L x) (bX M L x) (ck M L U x) y) (c9 M L x)) (tg (ia (ck (bQ M L x) (bX M L x) (ck M L U x) y) (c9 M L x)) (c9 (bQ M L x) (bX M L x) y))) (ia (ia (ck (bQ M L x) (bX M L x) (ck M L U x) y) (c9 M L x)) (c9 (bQ M L x) (bX M L x) y)).length)/\(aX .i64 ((iC (bQ M L x) (iC M g x) y)-1))) [] h ⟨bx,bx,bw⟩ fun _ _ h=>?_
 have q9:¬rU M L U x y=rV M L U x y:=q2
 exact pE ((((),(),(),(iC (bQ M L x) (iC M g x) y)-1,()),bQ (bQ M L x) (bX M L x) y,bX (bQ M L x) (bX M L x) y,((ia (ia (ck (bQ M L x) (bX M L x) (ck M L U x) y) (c9 M L x)) (c9 (bQ M L x) (bX M L x) y)).set (max (tg (ck (bQ M L x) (bX M L x) (ck M L U x) y) (c9 M L x)) (tg (ia (ck (bQ M L x) (bX M L x) (ck M L U x) y) (c9 M L x)) (c9 (bQ M L x) (bX M L x) y))).toNat (min (tg (ck (bQ M L x) (bX M L x) (ck M L U x) y) (c9 M L x)) (tg (ia (ck (bQ M L x) (bX M L x) (ck M L U x) y) (c9 M L x)) (c9 (bQ M L x) (bX M L x) y)))),()),(true,())) (rk [0,98309,98310,98311]) h (by simp only[Iz,Sj,Ou,KR,Ow,if_neg q9];rfl)
def Qm:cE Tryz.prog:=uv XG
end Go.Proofs.YtnfdimfepbbbpaaGreat
