/-
  Texts joined by program: WkS, WkU, WkQ, WkH, WkRa, WkC1, WkRb, WkVf, WkC2, Shelf, WkL, WkM, WkI, WkJ, WkK, WkV, WkVa, WkRc, VTL1, VTA3, DartsJ, VRF, VTR1, VTR2.
-/
import Derived.Test.YtnfdimfepbbbpaaGreatJAuditAgrees4
import Derived.Test.YtnfdimfepbbbpaaGreatProg
import Derived.Tactics
import Derived.Tactics2
import Derived.Defers
import Derived.Recover
import Derived.Laws.Pointers
import Derived.Ground.Names2Prog
import Derived.Shelf.Slices.Clone
import Derived.Shelf.SlSortCmp.NoneTotal
import Derived.Shelf.SlicesG.Cmp
import Derived.Ground.SlsfProg
import Derived.Ground.SlgcProg
import Derived.WalkKit
import Derived.Deep.RegionWith
import Derived.Sort.OwnSortedInts
import Derived.RangeFuncNested
import Derived.RangeFuncBound
import Derived.RangeFuncCalls
import Derived.RangeFuncLeaves
import Derived.Shelf.Abstract
import Derived.Shelf.RegionOpen
import Derived.OwnWalkIn
import Derived.TacticsInMore
import Derived.LoopNIn
import Derived.LoopIn
import Derived.RangeFuncRecord
set_option linter.unusedSimpArgs false
set_option linter.unusedVariables false
set_option maxRecDepth 100000
set_option maxHeartbeats 8000000
namespace Go.Proofs.YtnfdimfepbbbpaaGreat
open Go.RowKit
theorem aba (p:Addr)(w:World)(hc:∃x,w.cell? p=some (.bool x))(hz:w.frozen? p=false):
  CallsD Tryz.prog 125 #[.pointer (some p)] .returning w fun e u' w'=>e= .returned (.tuple #[])/\u'= .returning/\w'=w.setCell p (.bool true):=by
 obtain⟨x,hc⟩:=hc
 refine callsD_of_wpS Tryz.func125 rfl fun abb cs hu=>?_
 apply wpS_region
 simp[wpOpsS,go_sem,recoverD,hu,Tryz.ntmps125,Exit.thenS,hc,hz,bodyPostS,results,Tryz.results125]
 cases abb
 simp_all
theorem abc (sb pb:Nat)(x:Int)(w:World)(vI:(w.alloc (.cells #[.bool false] 4)).cell? ⟨sb,0,none⟩=some (.map (some pb)))(hl:∃v,(Instr.lookup 57 (.map (some pb)) (.int .i64 x) false).run Tryz.prog (w.alloc (.cells #[.bool false] 4))= .ok v (w.alloc (.cells #[.bool false] 4))):
  Calls Tryz.prog 105 #[.pointer (some ⟨sb,0,none⟩),.int .i64 x] w (Ans (.bool true) w):=by
 obtain⟨v,hl⟩:=hl
 have hmf:∀(fn:Fn) (first cap:Array Value) (w:World),(Instr.makeFunc fn first cap).run Tryz.prog w= .ok (.func fn first cap) w:=fun _ _ _ _=>rfl
 go_enter_defers Tryz.func105,Tryz.ntmps105
 go_wp2
 refine leaves_cons (f:=125) (args:= #[.pointer (some ⟨w.heap.size,0,none⟩)]) (by simp) (by simp[go_sem]) ?_
 refine(aba ⟨w.heap.size,0,none⟩ _ ⟨true,by simp[go_sem]⟩ (by simp[go_sem])).mono ?_
 rintro e u' w'' ⟨rfl,rfl,rfl⟩
 simp[Leaves,settle,results,Tryz.results105,go_sem]
 exact⟨rfl,kM _ _⟩
def V3 (b:Nat)(cr:List (Nat×Nat))(ys:List Sy):Tr Out:=match cr,ys with
 |[],[.one (.ptr j 0),.one (.v (.int .i64 x))]=>.res j fun z=>match z with
  | .box _ (.mp q::_)=>.res q fun y=>match y with
   | .map .int .int _=>.ret ⟨[cA .int (show Int from x)],[],.one (.b (.lit true)),[]⟩
   |_=>.fail
  |_=>.fail
 |_,_=>.fail
theorem Sk:x4 Tryz.prog 105 V3:=by
 intro o n A S F s r a w b B cr ys out H hF Uh AK h cE mN hB
 unfold V3 at h
 split at h
 .rename_i j x
  obtain⟨z,hz,h⟩:=aY h
  split at h
  .rename_i bt q l
   obtain⟨y,hy,h⟩:=aY h
   split at h
   .rename_i m
    have e:=aW h
    subst e
    have hx:cA .int (show Int from x):=cE _ (List.mem_singleton.2 rfl)
    have hm:bw A r j=some (Rs.of (.box (A.b j) bt ((Sc.mp q::l).map (Sc.den A)))):=by simp[bw,hz,R2.den]
    have hb:w.heap[A.b j]?=some (.cells (((Sc.mp q::l).map (Sc.den A)).toArray) bt (0,0)):=H.bB.ok j _ hm
    obtain⟨_,hbl,_⟩:=H.bB.own j _ (A.b j) hm rfl
    have hq:bw A r q=some (rU (A.m q) m):=by simp[bw,hy,R2.den]
    obtain⟨pb,hpb,pQ⟩:∃pb,A.m q=some pb/\mz S w pb m:=H.bB.ok q _ hq
    obtain⟨_,XQ,_⟩:=H.bB.own q _ pb hq hpb
    have Hl:=kM w (.cells #[.bool false] 4)
    obtain⟨zs,iY,_,_⟩:=pQ.keep (w':=w.alloc (.cells #[.bool false] 4)) (fun k hk=>Hl.block k (H.bB.iI k hk)) (Hl.block pb XQ)
    have zV:=iY.look (P:=Tryz.prog) (t:=57) (kt:=3) (et:=3) (by kernel_rfl) (by kernel_rfl) (z:=.int .i64 0) (by kernel_rfl) hx
    have kr:(w.alloc (.cells #[.bool false] 4)).cell? ⟨A.b j,0,none⟩=some (.map (some pb)):=by
     rw[cell_of_row _ _ _ _ _ _ ((Hl.block _ hbl).trans hb)]
     show some (Value.map (A.m q))=_
     rw[hpb]
    refine(abc (A.b j) pb x w kr ⟨_,zV⟩).mono fun e w' hw=>?_
    obtain⟨rfl,hbw⟩:=hw
    refine⟨_,rfl,A,S,?_,rfl,tv,tv⟩
    exact⟨H.size,H.fh,H.env,fun t e he hc=>⟨Sy.mono (fun _=>.inl) (H.l8 t e he hc).1,(H.l8 t e he hc).2⟩,fun j x hj=>⟨.inl (H.dB j x hj).1,R2.mono (fun _=>.inl) (H.dB j x hj).2.1,(H.dB j x hj).2.2⟩,H.bB.on hbw,H.args,⟨fun j hj=>.inl (H.s8.1 j hj),H.s8.2⟩⟩
   cases h
  cases h
 cases h
def I8:dy Tryz.prog:=⟨_,V3,Sk⟩
abbrev fR:=List (Int×Int)
def bD (M:fR)(L:List Int)(x:Int):fR:=if(af M x).isSome then M else b9 M x (L.length:Int)
def bT (M:fR)(L:List Int)(x:Int):List Int:=if(af M x).isSome then L else L++[x]
def cg (M:fR)(L U:List Int)(x:Int):List Int:=if(af M x).isSome then U else U++[(L.length:Int)]
def gR (M:fR)(g x:Int):Int:=if(af M x).isSome then g else g+1
def cV (M:fR)(L:List Int)(x:Int):Int:=(af M x).getD (L.length:Int)
def CY:Nat->List Int->Int->List Int×Int
 |0,U,i=>(U,i)
 |f+1,U,i=>if U.getD i.toNat 0=i then(U,i) else CY f (U.set i.toNat (U.getD (U.getD i.toNat 0).toNat 0)) ((U.set i.toNat (U.getD (U.getD i.toNat 0).toNat 0)).getD i.toNat 0)
theorem hvS {f:Nat}{c:List Int}{k:Int}(hf:0<f)(h:¬c.getD k.toNat 0=k):CY f c k=CY (f-1) (c.set k.toNat (c.getD (c.getD k.toNat 0).toNat 0)) ((c.set k.toNat (c.getD (c.getD k.toNat 0).toNat 0)).getD k.toNat 0):=by
 obtain⟨q,rfl⟩:∃q,f=q+1:=⟨f-1,by omega⟩
 rw[show q+1-1=q by omega]
 conv=>lhs;unfold CY
 rw[if_neg h]
theorem hvE {f:Nat}{c:List Int}{k:Int}(hf:0<f)(h:c.getD k.toNat 0=k):CY f c k=(c,k):=by
 obtain⟨q,rfl⟩:∃q,f=q+1:=⟨f-1,by omega⟩
 unfold CY
 rw[if_pos h]
def gu (U:List Int)(i:Int):List Int:=(CY (i.toNat+1) U i).1
def iq (U:List Int)(i:Int):Int:=(CY (i.toNat+1) U i).2
theorem vc:∀(f:Nat) (U:List Int) (i:Int),fW U->0<=i->i<(U.length:Int)->i.toNat<f->
  (CY f U i).2=aD U i/\fW (CY f U i).1/\(CY f U i).1.length=U.length/\∀j,0<=j->j<(U.length:Int)->aD (CY f U i).1 j=aD U j
 |0,_,_,_,_,_,h=>by omega
 |f+1,U,i,hU,h0,h1,hf=>by
  unfold CY
  split
  .rename_i he
   exact⟨(dm hU h0 h1 he).symm,hU,rfl,fun _ _ _=>rfl⟩
  rename_i he
  have hy:=dX hU h0 h1
  have hz:=dX hU hy.1 (show U.getD i.toNat 0<(U.length:Int) by omega)
  obtain⟨k1,k2⟩:=CX hU h0 h1
  have hn:(U.set i.toNat (U.getD (U.getD i.toNat 0).toNat 0)).getD i.toNat 0=U.getD (U.getD i.toNat 0).toNat 0:=by rw[lK (by omega),if_pos rfl]
  have hl:(U.set i.toNat (U.getD (U.getD i.toNat 0).toNat 0)).length=U.length:=List.length_set ..
  rw[hn]
  obtain⟨q1,q2,q3,q4⟩:=vc f (U.set i.toNat (U.getD (U.getD i.toNat 0).toNat 0)) (U.getD (U.getD i.toNat 0).toNat 0) k1 hz.1 (by omega) (by omega)
  refine⟨?_,q2,by omega,fun j j0 j1=>by rw[q4 j j0 (by omega),k2 j j0 j1]⟩
  rw[q1,k2 _ hz.1 (by omega),tV hU hy.1 (by omega),tV hU h0 h1]
def QY (M:fR)(L:List Int)(x y:Int):fR:=bD (bD M L x) (bT M L x) y
def LQ (M:fR)(L:List Int)(x y:Int):List Int:=bT (bD M L x) (bT M L x) y
def OH (M:fR)(L U:List Int)(x y:Int):List Int:=gu (gu (cg (bD M L x) (bT M L x) (cg M L U x) y) (cV M L x)) (cV (bD M L x) (bT M L x) y)
def sM (M:fR)(L U:List Int)(x y:Int):Int:=iq (cg (bD M L x) (bT M L x) (cg M L U x) y) (cV M L x)
def sN (M:fR)(L U:List Int)(x y:Int):Int:=iq (gu (cg (bD M L x) (bT M L x) (cg M L U x) y) (cV M L x)) (cV (bD M L x) (bT M L x) y)
def I9 (M:fR)(L U:List Int)(x y:Int):List Int:=if sM M L U x y=sN M L U x y then OH M L U x y else(OH M L U x y).set (max (sM M L U x y) (sN M L U x y)).toNat (min (sM M L U x y) (sN M L U x y))
def E3 (M:fR)(L U:List Int)(g x y:Int):Int:=if sM M L U x y=sN M L U x y then gR (bD M L x) (gR M g x) y else gR (bD M L x) (gR M g x) y-1
def LR (M:fR)(L U:List Int)(x y:Int):Bool:=if sM M L U x y=sN M L U x y then false else true
structure gT (M:fR)(L U:List Int):Prop where
 ok:fW U
 len:U.length=L.length
 at_:∀x i,af M x=some i->0<=i/\i<(L.length:Int)/\L.getD i.toNat 0=x
 nG:M.length<=L.length
 ex:∀i:Nat,i<L.length->af M (L.getD i 0)=some (i:Int)
theorem qu (M:fR)(L:List Int)(x:Int):L.length<=(bT M L x).length/\(bT M L x).length<=L.length+1:=by
 unfold bT;split
 .omega
 simp
theorem OI (M:fR)(g x:Int):g<=gR M g x/\gR M g x<=g+1:=by unfold gR;split<;>omega
theorem gT.nil:gT [] [] []:=⟨fun j h=>(by simp at h),rfl,fun x i h=>(by cases h),Nat.le_refl _,fun i h=>(by simp at h)⟩
theorem gT.put {M:fR}{L U:List Int}(h:gT M L U)(x:Int):gT (bD M L x) (bT M L x) (cg M L U x)/\0<=cV M L x/\cV M L x<((bT M L x).length:Int)/\af (bD M L x) x=some (cV M L x):=by
 cases hx:af M x with
 |some i=>
  have e1:bD M L x=M:=by unfold bD;rw[hx];rfl
  have e2:bT M L x=L:=by unfold bT;rw[hx];rfl
  have e3:cg M L U x=U:=by unfold cg;rw[hx];rfl
  have e4:cV M L x=i:=by unfold cV;rw[hx];rfl
  rw[e1,e2,e3,e4]
  obtain⟨h1,h2,_⟩:=h.at_ x i hx
  exact⟨h,h1,h2,hx⟩
 |none=>
  have e1:bD M L x=b9 M x (L.length:Int):=by unfold bD;rw[hx];rfl
  have e2:bT M L x=L++[x]:=by unfold bT;rw[hx];rfl
  have e3:cg M L U x=U++[(L.length:Int)]:=by unfold cg;rw[hx];rfl
  have e4:cV M L x=(L.length:Int):=by unfold cV;rw[hx];rfl
  rw[e1,e2,e3,e4]
  have hlen:=h.len
  have uH:∀i:Nat,i<L.length->L.getD i 0≠x:=fun i hi q=>by
   have:=h.ex i hi
   rw[q,hx] at this;cases this
  refine⟨⟨?_,by simp[hlen],fun z i hz=>?_,?_,fun i hi=>?_⟩,by omega,by simp;omega,by rw[bK,if_pos rfl]⟩
  .have:=(Hj h.ok).1
   rwa[hlen] at this
  .rw[bK] at hz
   split at hz
   .rename_i q
    cases hz
    subst q
    refine⟨by omega,by simp;omega,?_⟩
    rw[Int.toNat_natCast]
    simp
   obtain⟨k1,k2,k3⟩:=h.at_ z i hz
   refine⟨k1,by simp;omega,?_⟩
   rw[List.getD_eq_getElem?_getD,List.getElem?_append_left (by omega),<-List.getD_eq_getElem?_getD];exact k3
  .have:=cQ M x (L.length:Int)
   have:=h.nG
   simp;omega
  rw[bK]
  simp at hi
  by_cases q:i<L.length
  .rw[List.getD_eq_getElem?_getD,List.getElem?_append_left q,<-List.getD_eq_getElem?_getD,if_neg fun e=>uH i q e.symm]
   exact h.ex i q
  have:i=L.length:=by omega
  subst this
  simp
theorem OJ {U:List Int}{i j:Int}(hU:fW U)(i0:0<=i)(i1:i<(U.length:Int))(j0:0<=j)(j1:j<(U.length:Int)):
  fW (gu U i)/\(gu U i).length=U.length/\fW (gu (gu U i) j)/\(gu (gu U i) j).length=U.length/\0<=iq U i/\iq U i<(U.length:Int)/\0<=iq (gu U i) j/\iq (gu U i) j<(U.length:Int):=by
 obtain⟨a1,a2,a3,_⟩:=vc (i.toNat+1) U i hU i0 i1 (Nat.lt_succ_self _)
 have a3:(gu U i).length=U.length:=a3
 have a2:fW (gu U i):=a2
 obtain⟨b1,b2,b3,_⟩:=vc (j.toNat+1) (gu U i) j a2 j0 (by omega) (Nat.lt_succ_self _)
 have b3:(gu (gu U i) j).length=(gu U i).length:=b3
 have a1:iq U i=aD U i:=a1
 have b1:iq (gu U i) j=aD (gu U i) j:=b1
 obtain⟨q1,q2,_⟩:=eP hU i0 i1
 obtain⟨r1,r2,_⟩:=eP a2 j0 (show j<((gu U i).length:Int) by omega)
 exact⟨a2,a3,b2,by omega,by rw[a1];exact q1,by rw[a1];omega,by rw[b1];exact r1,by rw[b1];omega⟩
abbrev S4:Type:=fR×(List Int×(List Int×Int))
def kg (U:List Int):Nat:=(List.range U.length).countP fun i:Nat=>decide (aD U (i:Int)=(i:Int))
structure lM (s:S4):Prop where
 rep:gT s.1 s.2.1 s.2.2.1
 cnt:s.2.2.2=(kg s.2.2.1:Int)
def Rl (s:S4)(x y:Int):Prop:=∃i j,af s.1 x=some i/\af s.1 y=some j/\aD s.2.2.1 i=aD s.2.2.1 j
def cI (s:S4)(x:Int):S4:=(bD s.1 s.2.1 x,bT s.1 s.2.1 x,cg s.1 s.2.1 s.2.2.1 x,gR s.1 s.2.2.2 x)
def Bz (s:S4)(x y:Int):S4:=(QY s.1 s.2.1 x y,LQ s.1 s.2.1 x y,I9 s.1 s.2.1 s.2.2.1 x y,E3 s.1 s.2.1 s.2.2.1 s.2.2.2 x y)
def V4 (s:S4)(x y:Int):Bool:=LR s.1 s.2.1 s.2.2.1 x y
def UG (s:S4)(x y:Int):List Int:=match af s.1 x,af s.1 y with
 |some i,some j=>gu (gu s.2.2.1 i) j
 |_,_=>s.2.2.1
def smS (s:S4)(x y:Int):S4:=(s.1,s.2.1,UG s x y,s.2.2.2)
def Ho (s:S4)(x y:Int):Bool:=match af s.1 x,af s.1 y with
 |some i,some j=>decide (iq s.2.2.1 i=iq (gu s.2.2.1 i) j)
 |_,_=>false
section
variable {s:S4}{x y a b:Int}
theorem Sl (U:List Int):kg U<=U.length:=by
 unfold kg
 have:=List.countP_le_length (p:=fun i:Nat=>decide (aD U (i:Int)=(i:Int))) (l:=List.range U.length)
 rwa[List.length_range] at this
theorem lM.nil:lM ([],[],[],0):=⟨gT.nil,rfl⟩
theorem lM.bd (h:lM s):0<=s.2.2.2/\s.2.2.2<=(s.2.1.length:Int):=by
 have:=Sl s.2.2.1
 have:=h.rep.len
 have:=h.cnt
 omega
theorem Rl.refl (h:(af s.1 x).isSome=true):Rl s x x:=by
 obtain⟨i,hi⟩:=Option.isSome_iff_exists.1 h
 exact⟨i,i,hi,hi,rfl⟩
theorem Rl.symm (h:Rl s a b):Rl s b a:=let⟨i,j,h1,h2,h3⟩:=h;⟨j,i,h2,h1,h3.symm⟩
theorem Rl.trans {c:Int}(h:Rl s a b)(k:Rl s b c):Rl s a c:=by
 obtain⟨i,j,h1,h2,h3⟩:=h
 obtain⟨j',l,k1,k2,k3⟩:=k
 rw[h2] at k1
 cases k1
 exact⟨i,l,h1,k2,h3.trans k3⟩
theorem Rl.left (h:Rl s a b):(af s.1 a).isSome=true:=let⟨i,_,h1,_⟩:=h;by rw[h1];rfl
theorem Rl.right (h:Rl s a b):(af s.1 b).isSome=true:=h.symm.left
theorem qv {p q:Nat->Bool}{l:List Nat}(h:∀x∈l,p x=q x):l.countP p=l.countP q:=by
 induction l with
 |nil=>rfl
 |cons x l ih=>
  rw[List.countP_cons,List.countP_cons,ih fun z hz=>h z (List.mem_cons_of_mem _ hz),h x List.mem_cons_self]
theorem oK {p q:Nat->Bool}{n m:Nat}(hm:m<n)(hp:p m=true)(hq:q m=false)(h:∀x,x<n->x≠m->p x=q x):(List.range n).countP q+1=(List.range n).countP p:=by
 induction n with
 |zero=>omega
 |succ n ih=>
  rw[List.range_succ,List.countP_append,List.countP_append]
  by_cases e:m=n
  .subst e
   have:=qv (p:=p) (q:=q) (l:=List.range m) fun x hx=>h x (by have:=List.mem_range.1 hx;omega) (by have:=List.mem_range.1 hx;omega)
   rw[this]
   simp[List.countP_cons,hp,hq]
  have:=ih (by omega) fun x hx=>h x (by omega)
  have e2:[n].countP q=[n].countP p:=by rw[List.countP_cons,List.countP_cons,h n (by omega) (fun z=>e z.symm)];rfl
  rw[e2];omega
theorem lM.add (h:lM s)(x:Int):lM (cI s x)/\∀a b,Rl (cI s x) a b↔Rl s a b\/(a=x/\b=x):=by
 obtain⟨M,L,U,g⟩:=s
 obtain⟨hr,hc⟩:=h
 change gT M L U at hr
 change g=(kg U:Int) at hc
 refine⟨⟨(hr.put x).1,?_⟩,fun a b=>?_⟩
 .show gR M g x=(kg (cg M L U x):Int)
  unfold gR cg
  split
  .exact hc
  have hlen:=hr.len
  obtain⟨a1,a2,a3⟩:=Hj hr.ok
  rw[hlen] at a1 a2 a3
  have e:kg (U++[(L.length:Int)])=kg U+1:=by
   unfold kg
   rw[List.length_append,List.length_singleton,List.range_succ,List.countP_append]
   have h1:=qv (p:=fun i:Nat=>decide (aD (U++[(L.length:Int)]) (i:Int)=(i:Int))) (q:=fun i:Nat=>decide (aD U (i:Int)=(i:Int))) (l:=List.range U.length) fun z hz=>by
    have hz:=List.mem_range.1 hz
    rw[a2 z (by omega) (by omega)]
   rw[h1,hlen]
   have h2:[L.length].countP (fun i:Nat=>decide (aD (U++[(L.length:Int)]) (i:Int)=(i:Int)))=1:=by
    rw[List.countP_cons]
    simp[a3]
   rw[h2]
  rw[e];omega
 show(∃i j,af (bD M L x) a=some i/\af (bD M L x) b=some j/\aD (cg M L U x) i=aD (cg M L U x) j)↔(∃i j,af M a=some i/\af M b=some j/\aD U i=aD U j)\/_
 cases hx:af M x with
 |some k=>
  have e1:bD M L x=M:=by unfold bD;rw[hx];rfl
  have e3:cg M L U x=U:=by unfold cg;rw[hx];rfl
  rw[e1,e3]
  exact⟨.inl,fun q=>q.elim id fun⟨q1,q2⟩=>by subst q1;subst q2;exact⟨k,k,hx,hx,rfl⟩⟩
 |none=>
  have e1:bD M L x=b9 M x (L.length:Int):=by unfold bD;rw[hx];rfl
  have e3:cg M L U x=U++[(L.length:Int)]:=by unfold cg;rw[hx];rfl
  rw[e1,e3]
  have hlen:=hr.len
  obtain⟨a1,a2,a3⟩:=Hj hr.ok
  rw[hlen] at a1 a2 a3
  have key:∀z i,af M z=some i->0<=i/\i<(L.length:Int)/\aD U i<=i:=fun z i hz=>by
   obtain⟨q1,q2,_⟩:=hr.at_ z i hz
   exact⟨q1,q2,(eP hr.ok q1 (by omega)).2.1⟩
  constructor
  .rintro⟨i,j,h1,h2,h3⟩
   rw[bK] at h1 h2
   by_cases qa:x=a<;>by_cases qb:x=b
   .exact .inr ⟨qa.symm,qb.symm⟩
   .rw[if_pos qa] at h1
    rw[if_neg qb] at h2
    cases h1
    obtain⟨k1,k2,k3⟩:=key b j h2
    rw[a3,a2 j k1 k2] at h3
    omega
   .rw[if_neg qa] at h1
    rw[if_pos qb] at h2
    cases h2
    obtain⟨k1,k2,k3⟩:=key a i h1
    rw[a3,a2 i k1 k2] at h3
    omega
   rw[if_neg qa] at h1
   rw[if_neg qb] at h2
   obtain⟨k1,k2,_⟩:=key a i h1
   obtain⟨l1,l2,_⟩:=key b j h2
   rw[a2 i k1 k2,a2 j l1 l2] at h3
   exact .inl ⟨i,j,h1,h2,h3⟩
  rintro(⟨i,j,h1,h2,h3⟩|⟨rfl,rfl⟩)
  .obtain⟨k1,k2,_⟩:=key a i h1
   obtain⟨l1,l2,_⟩:=key b j h2
   have qa:x≠a:=fun e=>by rw[e,h1] at hx;cases hx
   have qb:x≠b:=fun e=>by rw[e,h2] at hx;cases hx
   exact⟨i,j,by rw[bK,if_neg qa];exact h1,by rw[bK,if_neg qb];exact h2,by rw[a2 i k1 k2,a2 j l1 l2];exact h3⟩
  exact⟨_,_,by rw[bK,if_pos rfl],by rw[bK,if_pos rfl],rfl⟩
theorem lM.up (h:lM s){U':List Int}(h1:fW U')(h2:U'.length=s.2.2.1.length)(h3:∀j,0<=j->j<(s.2.2.1.length:Int)->aD U' j=aD s.2.2.1 j):lM (s.1,s.2.1,U',s.2.2.2)/\∀a b,Rl (s.1,s.2.1,U',s.2.2.2) a b↔Rl s a b:=by
 have hlen:=h.rep.len
 refine⟨⟨⟨h1,h2.trans h.rep.len,h.rep.at_,h.rep.nG,h.rep.ex⟩,?_⟩,fun a b=>?_⟩
 .show s.2.2.2=(kg U':Int)
  rw[h.cnt]
  congr 1
  unfold kg
  rw[h2]
  exact qv fun z hz=>by
   have hz:=List.mem_range.1 hz
   rw[h3 z (by omega) (by omega)]
 have key:∀z i,af s.1 z=some i->aD U' i=aD s.2.2.1 i:=fun z i hz=>by
  obtain⟨q1,q2,_⟩:=h.rep.at_ z i hz
  exact h3 i q1 (by omega)
 constructor
 .rintro⟨i,j,k1,k2,k3⟩
  have k3:aD U' i=aD U' j:=k3
  exact⟨i,j,k1,k2,by rw[<-key a i k1,<-key b j k2];exact k3⟩
 rintro⟨i,j,k1,k2,k3⟩
 exact⟨i,j,k1,k2,by show aD U' i=aD U' j;rw[key a i k1,key b j k2];exact k3⟩
theorem Uf (h:lM s){i j:Int}(hi:af s.1 x=some i)(hj:af s.1 y=some j):fW (gu (gu s.2.2.1 i) j)/\(gu (gu s.2.2.1 i) j).length=s.2.2.1.length/\(∀k,0<=k->k<(s.2.2.1.length:Int)->aD (gu (gu s.2.2.1 i) j) k=aD s.2.2.1 k)/\iq s.2.2.1 i=aD s.2.2.1 i/\iq (gu s.2.2.1 i) j=aD s.2.2.1 j:=by
 have hlen:=h.rep.len
 obtain⟨i0,i1,_⟩:=h.rep.at_ x i hi
 obtain⟨j0,j1,_⟩:=h.rep.at_ y j hj
 obtain⟨a1,a2,a3,a4⟩:=vc (i.toNat+1) s.2.2.1 i h.rep.ok i0 (by omega) (Nat.lt_succ_self _)
 have a3:(gu s.2.2.1 i).length=s.2.2.1.length:=a3
 have a2:fW (gu s.2.2.1 i):=a2
 have a4:∀k,0<=k->k<(s.2.2.1.length:Int)->aD (gu s.2.2.1 i) k=aD s.2.2.1 k:=a4
 obtain⟨b1,b2,b3,b4⟩:=vc (j.toNat+1) (gu s.2.2.1 i) j a2 j0 (by omega) (Nat.lt_succ_self _)
 have b1:iq (gu s.2.2.1 i) j=aD (gu s.2.2.1 i) j:=b1
 exact⟨b2,b3.trans a3,fun k k0 k1=>(b4 k k0 (by omega)).trans (a4 k k0 k1),a1,by rw[b1,a4 j j0 (by omega)]⟩
theorem lM.sm (h:lM s)(x y:Int):lM (smS s x y)/\(∀a b,Rl (smS s x y) a b↔Rl s a b)/\(Ho s x y=true↔Rl s x y):=by
 unfold smS UG Ho
 cases hx:af s.1 x with
 |none=>exact⟨h,fun a b=>Iff.rfl,fun q=>by simp at q,fun⟨i,_,q,_⟩=>by rw[hx] at q;cases q⟩
 |some i=>
  cases hy:af s.1 y with
  |none=>exact⟨h,fun a b=>Iff.rfl,fun q=>by simp at q,fun⟨_,j,_,q,_⟩=>by rw[hy] at q;cases q⟩
  |some j=>
   obtain⟨a1,a2,a3,a4,a5⟩:=Uf h hx hy
   obtain⟨b1,b2⟩:=h.up a1 a2 a3
   refine⟨b1,b2,?_⟩
   dsimp only
   rw[decide_eq_true_iff,a4,a5]
   constructor
   .exact fun q=>⟨i,j,hx,hy,q⟩
   rintro⟨i',j',k1,k2,k3⟩
   rw[hx] at k1
   rw[hy] at k2
   cases k1;cases k2
   exact k3
theorem Sm {M:fR}{L U:List Int}(h:gT M L U){z i:Int}(hz:af M z=some i)(x:Int):af (bD M L x) z=some i:=by
 unfold bD
 split
 .exact hz
 rename_i q
 rw[bK,if_neg]
 .exact hz
 intro e;rw[e,hz] at q;exact q rfl
theorem lM.jn (h:lM s)(x y:Int):lM (Bz s x y)/\(V4 s x y=true↔¬(Rl s x y\/x=y))/\∀a b,Rl (Bz s x y) a b↔(Rl (cI (cI s x) y) a b\/(Rl (cI (cI s x) y) a x/\Rl (cI (cI s x) y) y b)\/(Rl (cI (cI s x) y) a y/\Rl (cI (cI s x) y) x b)):=by
 obtain⟨h1,r1⟩:=h.add x
 obtain⟨h2,r2⟩:=h1.add y
 obtain⟨_,p0,p1,px⟩:=h.rep.put x
 obtain⟨_,p2,p3,py⟩:=h1.rep.put y
 have px:af (cI (cI s x) y).1 x=some (cV s.1 s.2.1 x):=Sm h1.rep px y
 have py:af (cI (cI s x) y).1 y=some (cV (cI s x).1 (cI s x).2.1 y):=py
 obtain⟨a1,a2,a3,a4,a5⟩:=Uf h2 px py
 have MY:sM s.1 s.2.1 s.2.2.1 x y=aD (cI (cI s x) y).2.2.1 (cV s.1 s.2.1 x):=a4
 have hrj:sN s.1 s.2.1 s.2.2.1 x y=aD (cI (cI s x) y).2.2.1 (cV (cI s x).1 (cI s x).2.1 y):=a5
 have hT:Rl (cI (cI s x) y) x y↔sM s.1 s.2.1 s.2.2.1 x y=sN s.1 s.2.1 s.2.2.1 x y:=by
  rw[MY,hrj]
  constructor
  .rintro⟨i,j,k1,k2,k3⟩
   rw[px] at k1
   rw[py] at k2
   cases k1;cases k2
   exact k3
  exact fun q=>⟨_,_,px,py,q⟩
 have hT2:Rl (cI (cI s x) y) x y↔Rl s x y\/x=y:=by
  rw[r2,r1]
  constructor
  .rintro((q|q)|q)
   .exact .inl q
   .exact .inr q.2.symm
   exact .inr q.1
  rintro(q|q)
  .exact .inl (.inl q)
  exact .inl (.inr ⟨rfl,q.symm⟩)
 have hS:∀U',I9 s.1 s.2.1 s.2.2.1 x y=U'->Bz s x y=((cI (cI s x) y).1,(cI (cI s x) y).2.1,U',E3 s.1 s.2.1 s.2.2.1 s.2.2.2 x y):=fun U' e=>by rw[<-e];rfl
 have hU2:OH s.1 s.2.1 s.2.2.1 x y=gu (gu (cI (cI s x) y).2.2.1 (cV s.1 s.2.1 x)) (cV (cI s x).1 (cI s x).2.1 y):=rfl
 have hb:V4 s x y=true↔¬sM s.1 s.2.1 s.2.2.1 x y=sN s.1 s.2.1 s.2.2.1 x y:=by
  unfold V4 LR
  split
  .rename_i q;exact⟨(fun z=>by cases z),fun z=>(z q).elim⟩
  rename_i q;exact⟨fun _=>q,fun _=>rfl⟩
 rw[hb,<-hT,hT2]
 generalize QZ:cI (cI s x) y=s2 at*
 have abM:=h2.rep.len
 obtain⟨i0,i1,_⟩:=h2.rep.at_ _ _ px
 obtain⟨j0,j1,_⟩:=h2.rep.at_ _ _ py
 by_cases q:sM s.1 s.2.1 s.2.2.1 x y=sN s.1 s.2.1 s.2.2.1 x y
 .have eU:I9 s.1 s.2.1 s.2.2.1 x y=OH s.1 s.2.1 s.2.2.1 x y:=if_pos q
  have eG:E3 s.1 s.2.1 s.2.2.1 s.2.2.2 x y=s2.2.2.2:=by
   unfold E3;rw[if_pos q,<-QZ];rfl
  rw[hS _ (eU.trans hU2),eG]
  obtain⟨b1,b2⟩:=h2.up a1 a2 a3
  refine⟨b1,Iff.rfl,fun a b=>?_⟩
  rw[b2]
  have AR:=hT.2 q
  exact⟨.inl,fun z=>z.elim id fun z=>z.elim (fun⟨z1,z2⟩=>z1.trans (AR.trans z2)) fun⟨z1,z2⟩=>z1.trans (AR.symm.trans z2)⟩
 obtain⟨b1,b2⟩:=h2.up a1 a2 a3
 generalize hv:gu (gu s2.2.2.1 (cV s.1 s.2.1 x)) (cV (cI s x).1 (cI s x).2.1 y)=V at*
 have eU:I9 s.1 s.2.1 s.2.2.1 x y=V.set (max (sM s.1 s.2.1 s.2.2.1 x y) (sN s.1 s.2.1 s.2.2.1 x y)).toNat (min (sM s.1 s.2.1 s.2.2.1 x y) (sN s.1 s.2.1 s.2.2.1 x y)):=by
  have:I9 s.1 s.2.1 s.2.2.1 x y=(OH s.1 s.2.1 s.2.2.1 x y).set (max (sM s.1 s.2.1 s.2.2.1 x y) (sN s.1 s.2.1 s.2.2.1 x y)).toNat (min (sM s.1 s.2.1 s.2.2.1 x y) (sN s.1 s.2.1 s.2.2.1 x y)):=if_neg q
  rw[this,hU2]
 have eG:E3 s.1 s.2.1 s.2.2.1 s.2.2.2 x y=s2.2.2.2-1:=by
  unfold E3;rw[if_neg q,<-QZ];rfl
 rw[hS _ eU,eG,MY,hrj]
 rw[MY,hrj] at q
 generalize hpi:cV s.1 s.2.1 x=pi at*
 generalize hpj:cV (cI s x).1 (cI s x).2.1 y=pj at*
 obtain⟨u1,u2,u3⟩:=eP h2.rep.ok i0 (show pi<(s2.2.2.1.length:Int) by omega)
 obtain⟨v1,v2,v3⟩:=eP h2.rep.ok j0 (show pj<(s2.2.2.1.length:Int) by omega)
 have OK:=iR h2.rep.ok i0 (show pi<(s2.2.2.1.length:Int) by omega)
 have OL:=iR h2.rep.ok j0 (show pj<(s2.2.2.1.length:Int) by omega)
 generalize hr:aD s2.2.2.1 pi=r at*
 generalize ht:aD s2.2.2.1 pj=t at*
 have hrV:V.getD r.toNat 0=r:=by
  have e:=a3 r u1 (by omega)
  have:=(eP a1 u1 (show r<(V.length:Int) by omega)).2.2
  rw[e,OK] at this;exact this
 have htV:V.getD t.toNat 0=t:=by
  have e:=a3 t v1 (by omega)
  have:=(eP a1 v1 (show t<(V.length:Int) by omega)).2.2
  rw[e,OL] at this;exact this
 obtain⟨c1,c2⟩:=Sj a1 u1 v1 (by omega) (by omega) hrV htV q
 generalize hW:V.set (max r t).toNat (min r t)=Wn at*
 have LS:Wn.length=s2.2.2.1.length:=by rw[<-hW,List.length_set];exact a2
 have c3:∀k,0<=k->k<(s2.2.2.1.length:Int)->aD Wn k=if aD s2.2.2.1 k=max r t then min r t else aD s2.2.2.1 k:=fun k k0 k1=>by rw[c2 k k0 (by omega),a3 k k0 k1]
 have hmx:0<=max r t/\max r t<(s2.2.2.1.length:Int)/\aD s2.2.2.1 (max r t)=max r t/\max r t≠min r t/\aD s2.2.2.1 (min r t)=min r t:=by
  rcases Int.le_total r t with z|z
  .rw[Int.max_eq_right z,Int.min_eq_left z];exact⟨v1,by omega,OL,fun e=>q e.symm,OK⟩
  rw[Int.max_eq_left z,Int.min_eq_right z];exact⟨u1,by omega,OK,q,OL⟩
 obtain⟨m1,m2,m3,m4,m5⟩:=hmx
 refine⟨⟨⟨c1,LS.trans h2.rep.len,h2.rep.at_,h2.rep.nG,h2.rep.ex⟩,?_⟩,Iff.rfl,fun a b=>?_⟩
 .show s2.2.2.2-1=(kg Wn:Int)
  have abd:kg Wn+1=kg s2.2.2.1:=by
   unfold kg
   rw[LS]
   refine oK (m:=(max r t).toNat) (by omega) ?_ ?_ fun k hk cO=>?_
   .rw[decide_eq_true_iff,Int.toNat_of_nonneg m1];exact m3
   .rw[decide_eq_false_iff_not,Int.toNat_of_nonneg m1,c3 _ m1 m2,if_pos m3];exact fun e=>m4 e.symm
   rw[decide_eq_decide,c3 k (by omega) (by omega)]
   by_cases z:aD s2.2.2.1 (k:Int)=max r t
   .rw[if_pos z,z]
    constructor
    .intro e;omega
    intro e
    have:aD s2.2.2.1 (k:Int)=min r t:=by rw[<-e];exact m5
    omega
   rw[if_neg z]
  have:=h2.cnt
  omega
 have key:∀z i,af s2.1 z=some i->0<=i/\i<(s2.2.2.1.length:Int):=fun z i hz=>by
  obtain⟨q1,q2,_⟩:=h2.rep.at_ z i hz
  exact⟨q1,by omega⟩
 constructor
 .rintro⟨i,j,k1,k2,k3⟩
  have k3:aD Wn i=aD Wn j:=k3
  obtain⟨e0,e1⟩:=key a i k1
  obtain⟨f0,f1⟩:=key b j k2
  rw[c3 i e0 e1,c3 j f0 f1] at k3
  have zL:(max r t=r/\min r t=t)\/(max r t=t/\min r t=r):=by
   rcases Int.le_total r t with z|z
   .exact .inr ⟨Int.max_eq_right z,Int.min_eq_left z⟩
   exact .inl ⟨Int.max_eq_left z,Int.min_eq_right z⟩
  have wj:∀z i,af s2.1 z=some i->aD s2.2.2.1 i=r->Rl s2 z x:=fun z i hz e=>⟨i,pi,hz,px,by rw[e,hr]⟩
  have GL:∀z i,af s2.1 z=some i->aD s2.2.2.1 i=t->Rl s2 z y:=fun z i hz e=>⟨i,pj,hz,py,by rw[e,ht]⟩
  split at k3<;>split at k3
  .rename_i z1 z2;exact .inl ⟨i,j,k1,k2,z1.trans z2.symm⟩
  .rename_i z1 z2
   rcases zL with⟨n1,n2⟩|⟨n1,n2⟩
   .exact .inr (.inl ⟨wj a i k1 (z1.trans n1),(GL b j k2 (k3.symm.trans n2)).symm⟩)
   exact .inr (.inr ⟨GL a i k1 (z1.trans n1),(wj b j k2 (k3.symm.trans n2)).symm⟩)
  .rename_i z1 z2
   rcases zL with⟨n1,n2⟩|⟨n1,n2⟩
   .exact .inr (.inr ⟨GL a i k1 (k3.trans n2),(wj b j k2 (z2.trans n1)).symm⟩)
   exact .inr (.inl ⟨wj a i k1 (k3.trans n2),(GL b j k2 (z2.trans n1)).symm⟩)
  exact .inl ⟨i,j,k1,k2,k3⟩
 have abN:∀z i,af s2.1 z=some i->af (s2.1,s2.2.1,Wn,s2.2.2.2-1).1 z=some i:=fun z i hz=>hz
 have eqx:∀z,Rl s2 z x->∃i,af s2.1 z=some i/\aD s2.2.2.1 i=r:=fun z ⟨i,j,k1,k2,k3⟩=>by
  rw[px] at k2;cases k2
  exact⟨i,k1,by rw[k3,hr]⟩
 have eqy:∀z,Rl s2 z y->∃i,af s2.1 z=some i/\aD s2.2.2.1 i=t:=fun z ⟨i,j,k1,k2,k3⟩=>by
  rw[py] at k2;cases k2
  exact⟨i,k1,by rw[k3,ht]⟩
 have both:∀e,(e=r\/e=t)->(if e=max r t then min r t else e)=min r t:=fun e he=>by
  rcases Int.le_total r t with z|z
  .rw[Int.max_eq_right z,Int.min_eq_left z]
   rcases he with rfl|rfl
   .split<;>rfl
   rw[if_pos rfl]
  rw[Int.max_eq_left z,Int.min_eq_right z]
  rcases he with rfl|rfl
  .rw[if_pos rfl]
  split<;>rfl
 rintro(⟨i,j,k1,k2,k3⟩|⟨z1,z2⟩|⟨z1,z2⟩)
 .obtain⟨e0,e1⟩:=key a i k1
  obtain⟨f0,f1⟩:=key b j k2
  exact⟨i,j,k1,k2,by show aD Wn i=aD Wn j;rw[c3 i e0 e1,c3 j f0 f1,k3]⟩
 .obtain⟨i,k1,k2⟩:=eqx a z1
  obtain⟨j,l1,l2⟩:=eqy b z2.symm
  obtain⟨e0,e1⟩:=key a i k1
  obtain⟨f0,f1⟩:=key b j l1
  exact⟨i,j,k1,l1,by show aD Wn i=aD Wn j;rw[c3 i e0 e1,c3 j f0 f1,both _ (.inl k2),both _ (.inr l2)]⟩
 obtain⟨i,k1,k2⟩:=eqy a z1
 obtain⟨j,l1,l2⟩:=eqx b z2.symm
 obtain⟨e0,e1⟩:=key a i k1
 obtain⟨f0,f1⟩:=key b j l1
 exact⟨i,j,k1,l1,by show aD Wn i=aD Wn j;rw[c3 i e0 e1,c3 j f0 f1,both _ (.inr k2),both _ (.inl l2)]⟩
theorem lM.one (h:lM s):s.2.2.2<=1↔∀a b,(af s.1 a).isSome=true->(af s.1 b).isSome=true->Rl s a b:=by
 obtain⟨hr,hc⟩:=h
 have hlen:=hr.len
 constructor
 .intro h1 a b ha hb
  obtain⟨i,hi⟩:=Option.isSome_iff_exists.1 ha
  obtain⟨j,hj⟩:=Option.isSome_iff_exists.1 hb
  obtain⟨i0,i1,_⟩:=hr.at_ a i hi
  obtain⟨j0,j1,_⟩:=hr.at_ b j hj
  refine⟨i,j,hi,hj,Classical.byContradiction fun q=>?_⟩
  obtain⟨u1,u2,_⟩:=eP hr.ok i0 (by omega)
  obtain⟨v1,v2,_⟩:=eP hr.ok j0 (by omega)
  have ui:=iR hr.ok i0 (by omega)
  have vi:=iR hr.ok j0 (by omega)
  have AL:2<=kg s.2.2.1:=by
   unfold kg
   have e1:=oK (n:=s.2.2.1.length) (p:=fun i:Nat=>decide (aD s.2.2.1 (i:Int)=(i:Int))) (q:=fun k:Nat=>decide (aD s.2.2.1 (k:Int)=(k:Int)) && !decide (k=(aD s.2.2.1 i).toNat)) (m:=(aD s.2.2.1 i).toNat) (by omega) (by rw[decide_eq_true_iff,Int.toNat_of_nonneg u1];exact ui) (by simp) fun k hk cO=>by simp[cO]
   have e2:=oK (n:=s.2.2.1.length) (p:=fun k:Nat=>decide (aD s.2.2.1 (k:Int)=(k:Int)) && !decide (k=(aD s.2.2.1 i).toNat)) (q:=fun k:Nat=>(decide (aD s.2.2.1 (k:Int)=(k:Int)) && !decide (k=(aD s.2.2.1 i).toNat)) && !decide (k=(aD s.2.2.1 j).toNat)) (m:=(aD s.2.2.1 j).toNat) (by omega) (by
    rw[Int.toNat_of_nonneg v1,decide_eq_true vi]
    simp only[Bool.true_and,Bool.not_eq_true',decide_eq_false_iff_not]
    omega) (by simp) fun k hk cO=>by simp[cO]
   omega
  omega
 intro h1
 refine Classical.byContradiction fun q=>?_
 have AL:2<=kg s.2.2.1:=by omega
 have hex:∃i,i<s.2.2.1.length/\aD s.2.2.1 (i:Int)=(i:Int):=by
  refine Classical.byContradiction fun z=>?_
  have:kg s.2.2.1=0:=by
   unfold kg
   rw[List.countP_eq_zero]
   intro k hk e
   exact z ⟨k,List.mem_range.1 hk,of_decide_eq_true e⟩
  omega
 obtain⟨i,hi,ei⟩:=hex
 have abe:∃j,j<s.2.2.1.length/\aD s.2.2.1 (j:Int)=(j:Int)/\j≠i:=by
  refine Classical.byContradiction fun z=>?_
  have e1:=oK (n:=s.2.2.1.length) (p:=fun i:Nat=>decide (aD s.2.2.1 (i:Int)=(i:Int))) (q:=fun _=>false) (m:=i) hi (decide_eq_true ei) rfl fun k hk cO=>decide_eq_false fun e=>z ⟨k,hk,e,cO⟩
  have e2:(List.range s.2.2.1.length).countP (fun _=>false)=0:=by rw[List.countP_eq_zero];intro k _ e;cases e
  unfold kg at AL
  omega
 obtain⟨j,hj,ej,cO⟩:=abe
 have ai:=hr.ex i (by omega)
 have aj:=hr.ex j (by omega)
 obtain⟨i',j',k1,k2,k3⟩:=h1 _ _ (by rw[ai];rfl) (by rw[aj];rfl)
 rw[ai] at k1
 rw[aj] at k2
 cases k1;cases k2
 rw[ei,ej] at k3
 omega
end
def jK:Nat->S4
 |0=>([],[],[],0)
 |k+1=>cI (jK k) (k:Int)
theorem Lb {i:Int}(h:0<=i):jK (i+1).toNat=cI (jK i.toNat) i:=by
 rw[show(i+1).toNat=i.toNat+1 by omega]
 show cI _ ((i.toNat:Nat):Int)=_
 rw[Int.toNat_of_nonneg h]
theorem tW:∀k,lM (jK k)/\(jK k).2.1.length=k/\(∀x,(af (jK k).1 x).isSome=true↔0<=x/\x<(k:Int))/\∀a b,Rl (jK k) a b↔0<=a/\a<(k:Int)/\a=b
 |0=>⟨lM.nil,rfl,fun x=>⟨(fun h=>by cases h),fun h=>by omega⟩,fun a b=>⟨(fun⟨i,_,h,_⟩=>by cases h),fun h=>by omega⟩⟩
 |k+1=>by
  obtain⟨h1,h2,h3,h4⟩:=tW k
  obtain⟨k1,k2⟩:=h1.add (k:Int)
  have hn:af (jK k).1 (k:Int)=none:=by
   cases hq:af (jK k).1 (k:Int) with
   |none=>rfl
   |some _=>have:=(h3 (k:Int)).1 (by rw[hq];rfl);omega
  refine⟨k1,?_,fun x=>?_,fun a b=>?_⟩
  .show(bT (jK k).1 (jK k).2.1 (k:Int)).length=_
   unfold bT;rw[hn];simp[h2]
  .show(af (bD (jK k).1 (jK k).2.1 (k:Int)) x).isSome=true↔_
   unfold bD;rw[hn]
   simp only[Option.isSome_none,Bool.false_eq_true,if_false]
   rw[bK]
   split
   .exact⟨fun _=>by omega,fun _=>rfl⟩
   rw[h3];omega
  show Rl (cI (jK k) (k:Int)) a b↔_
  rw[k2,h4]
  omega
def lN (ow:fR)(l:List Int)(i:Int)(s:S4×fR)(k:Nat):Option (S4×fR):=
 if(af ow (l.getD k 0)).isSome=false\/(af s.2 (l.getD k 0)).isSome=true\/(0<k/\l.getD k 0<=l.getD (k-1) 0) then none
 else if k=0 then some (s.1,b9 s.2 (l.getD k 0) i)
 else if V4 s.1 ((af ow (l.getD 0 0)).getD 0) ((af ow (l.getD k 0)).getD 0)=true then some (Bz s.1 ((af ow (l.getD 0 0)).getD 0) ((af ow (l.getD k 0)).getD 0),b9 s.2 (l.getD k 0) i) else none
def runK (ow:fR)(l:List Int)(i:Int)(s:S4×fR):Nat->Option (S4×fR)
 |0=>some s
 |k+1=>(runK ow l i s k).bind fun z=>lN ow l i z k
def mq (ow:fR)(S:List (List Int))(s:S4×fR)(i:Nat):Option (S4×fR):=
 if(S.getD i []).length<2\/(0<i/\(S.getD i []).getD 0 0<=(S.getD (i-1) []).getD 0 0) then none else runK ow (S.getD i []) (i:Int) s (S.getD i []).length
def jc (ow:fR)(S:List (List Int))(N:Nat):Nat->Option (S4×fR)
 |0=>some (jK N,[])
 |i+1=>(jc ow S N i).bind fun s=>mq ow S s i
def aM (n:Int)(E:List (Int×Int))(V L:List Int)(T S:List (List Int)):Int:=
 if iD n E V L T≠0 then iD n E V L T
 else match jc (bP E (ay n E V L) (aa n E V L T).1 (aa n E V L T).1.length) S (ay n E V L).length S.length with
  |none=>7
  |some s=>if 1<s.1.2.2.2 then 7 else 0
structure CZ (ow:fR)(N:Nat):Prop where
 v:∀x c,af ow x=some c->0<=c/\c<(N:Int)
 len:ow.length<=100000
structure yX (ow:fR)(N:Nat)(s:S4×fR):Prop where
 ok:lM s.1
 len:s.1.2.1.length=N
 all:∀x,0<=x->x<(N:Int)->(af s.1.1 x).isSome=true
 kn:KN s.2
 sub:∀x,(af s.2 x).isSome=true->(af ow x).isSome=true
section
variable {ow:fR}{N:Nat}{s:S4×fR}{l:List Int}{S:List (List Int)}
theorem yX.start:yX ow N (jK N,[]):=by
 obtain⟨h1,h2,h3,_⟩:=tW N
 exact⟨h1,h2,fun x h h'=>(h3 x).2 ⟨h,h'⟩,yM,fun x h=>by cases h⟩
theorem yX.nG (h:yX ow N s)(ho:CZ ow N):s.2.length<=100000:=by
 have:=h.kn.length_le_of_subset (l₂:=ow.map (·.1)) fun x hx=>mem_keys.2 (h.sub x (mem_keys.1 hx))
 rw[List.length_map,List.length_map] at this
 exact Nat.le_trans this ho.len
theorem xg {M:fR}{L:List Int}{x:Int}(h:(af M x).isSome=true):bT M L x=L:=if_pos h
theorem oL {M:fR}{L:List Int}{x:Int}(h:(af M x).isSome=true):bD M L x=M:=if_pos h
theorem yX.jn (h:yX ow N s){x y:Int}(x0:0<=x)(x1:x<(N:Int))(y0:0<=y)(y1:y<(N:Int)):lM (Bz s.1 x y)/\(Bz s.1 x y).2.1.length=N/\(Bz s.1 x y).1=s.1.1:=by
 have hx:=h.all x x0 x1
 have hy:=h.all y y0 y1
 have e1:(Bz s.1 x y).1=s.1.1:=by
  show bD (bD s.1.1 s.1.2.1 x) (bT s.1.1 s.1.2.1 x) y=_
  rw[oL hx,oL hy]
 have e2:(Bz s.1 x y).2.1=s.1.2.1:=by
  show bT (bD s.1.1 s.1.2.1 x) (bT s.1.1 s.1.2.1 x) y=_
  rw[oL hx,xg hx,xg hy]
 exact⟨(h.ok.jn x y).1,by rw[e2];exact h.len,e1⟩
theorem yX.met (h:yX ow N s){x i:Int}(hx:(af ow x).isSome=true):yX ow N (s.1,b9 s.2 x i):=
 ⟨h.ok,h.len,h.all,Bg h.kn _ _,fun z hz=>by
  have hz:(af (b9 s.2 x i) z).isSome=true:=hz
  rw[bK] at hz
  split at hz
  .rename_i e;rw[<-e];exact hx
  exact h.sub z hz⟩
theorem tX (ho:CZ ow N){i:Int}{k:Nat}(hl:0<k->(af ow (l.getD 0 0)).isSome=true){z:S4×fR}(h:yX ow N s)(e:lN ow l i s k=some z):yX ow N z:=by
 unfold lN at e
 split at e
 .cases e
 rename_i q
 have hx:(af ow (l.getD k 0)).isSome=true:=by
  cases hq:(af ow (l.getD k 0)).isSome with
  |true=>rfl
  |false=>exact(q (.inl hq)).elim
 split at e
 .cases e;exact h.met hx
 rename_i hk0
 split at e
 .cases e
  obtain⟨c0,XR⟩:=Option.isSome_iff_exists.1 (hl (by omega))
  obtain⟨c1,vI⟩:=Option.isSome_iff_exists.1 hx
  have b0:=ho.v _ _ XR
  have b1:=ho.v _ _ vI
  have hj:=h.jn b0.1 b0.2 b1.1 b1.2
  rw[XR,vI]
  have h':yX ow N (Bz s.1 c0 c1,s.2):=⟨hj.1,hj.2.1,fun x h0 h1=>by show(af (Bz s.1 c0 c1).1 x).isSome=true;rw[hj.2.2];exact h.all x h0 h1,h.kn,h.sub⟩
  exact h'.met hx
 cases e
theorem nH {i:Int}{k:Nat}(h:runK ow l i s k=none):∀ {m:Nat},k<=m->runK ow l i s m=none
 |0,hm=>by rw[show k=0 by omega] at h;exact h
 |m+1,hm=>by
  by_cases q:k=m+1
  .rw[<-q];exact h
  show(runK ow l i s m).bind _=none
  rw[nH h (m:=m) (by omega)];rfl
theorem BA {k:Nat}(h:jc ow S N k=none):∀ {m:Nat},k<=m->jc ow S N m=none
 |0,hm=>by rw[show k=0 by omega] at h;exact h
 |m+1,hm=>by
  by_cases q:k=m+1
  .rw[<-q];exact h
  show(jc ow S N m).bind _=none
  rw[BA h (m:=m) (by omega)];rfl
theorem oM {i:Int}:∀ {k:Nat} {z:S4×fR},0<k->runK ow l i s k=some z->(af ow (l.getD 0 0)).isSome=true
 |1,z,_,h=>by
  have h:(some s).bind (fun z=>lN ow l i z 0)=some z:=h
  have h:lN ow l i s 0=some z:=h
  unfold lN at h
  split at h
  .cases h
  rename_i q
  cases hq:(af ow (l.getD 0 0)).isSome with
  |true=>rfl
  |false=>exact(q (.inl hq)).elim
 |k+2,z,_,h=>by
  have h:(runK ow l i s (k+1)).bind (fun z=>lN ow l i z (k+1))=some z:=h
  cases hq:runK ow l i s (k+1) with
  |none=>rw[hq] at h;cases h
  |some y=>exact oM (k:=k+1) (by omega) hq
theorem rE {i:Int}{k:Int}{z:S4×fR}(h0:0<=k)(h:runK ow l i s k.toNat=some z):runK ow l i s (k+1).toNat=lN ow l i z k.toNat:=by
 rw[show(k+1).toNat=k.toNat+1 by omega]
 show(runK ow l i s k.toNat).bind _=_
 rw[h];rfl
theorem ve {i:Int}{z:S4×fR}(h0:0<=i)(h:jc ow S N i.toNat=some z):jc ow S N (i+1).toNat=mq ow S z i.toNat:=by
 rw[show(i+1).toNat=i.toNat+1 by omega]
 show(jc ow S N i.toNat).bind _=_
 rw[h];rfl
theorem nI {i:Int}{z:S4×fR}(h0:0<=i)(hi:i<(S.length:Int))(h:jc ow S N i.toNat=some z)(hb:mq ow S z i.toNat=none):jc ow S N S.length=none:=
 BA (k:=(i+1).toNat) (by rw[ve h0 h];exact hb) (by omega)
theorem BB {i:Int}{z:S4×fR}(h0:0<=i)(h:((S.getD i.toNat []).length:Int)<2\/(0<i/\(S.getD i.toNat []).getD 0 0<=(S.getD (i-1).toNat []).getD 0 0)):mq ow S z i.toNat=none:=by
 unfold mq
 rw[if_pos]
 rcases h with h|⟨h1,h2⟩
 .exact .inl (by omega)
 exact .inr ⟨by omega,by rw[show i.toNat-1=(i-1).toNat by omega];exact h2⟩
theorem rF {i:Int}{z:S4×fR}(h0:0<=i)(h:¬(((S.getD i.toNat []).length:Int)<2)/\(¬(0<i)\/¬((S.getD i.toNat []).getD 0 0<=(S.getD (i-1).toNat []).getD 0 0))):mq ow S z i.toNat=runK ow (S.getD i.toNat []) i z (S.getD i.toNat []).length:=by
 unfold mq
 rw[if_neg,Int.toNat_of_nonneg h0]
 rintro(q|⟨q1,q2⟩)
 .exact h.1 (by omega)
 rw[show i.toNat-1=(i-1).toNat by omega] at q2
 exact h.2.elim (fun z=>z (by omega)) fun z=>z q2
theorem E4 {i k:Int}{z:S4×fR}(h0:0<=k)(h:((af ow (l.getD k.toNat 0)).isSome=false\/(af z.2 (l.getD k.toNat 0)).isSome=true)\/(0<k/\l.getD k.toNat 0<=l.getD (k-1).toNat 0)):lN ow l i z k.toNat=none:=by
 unfold lN
 rw[if_pos]
 rcases h with(h|h)|⟨h1,h2⟩
 .exact .inl h
 .exact .inr (.inl h)
 exact .inr (.inr ⟨by omega,by rw[show k.toNat-1=(k-1).toNat by omega];exact h2⟩)
theorem BC {i k:Int}{z:S4×fR}(h0:0<=k)(h:((af ow (l.getD k.toNat 0)).isSome=true/\(af z.2 (l.getD k.toNat 0)).isSome=false)/\(¬(0<k)\/¬(l.getD k.toNat 0<=l.getD (k-1).toNat 0))):
  lN ow l i z k.toNat=if k=0 then some (z.1,b9 z.2 (l.getD k.toNat 0) i) else if V4 z.1 ((af ow (l.getD 0 0)).getD 0) ((af ow (l.getD k.toNat 0)).getD 0)=true then some (Bz z.1 ((af ow (l.getD 0 0)).getD 0) ((af ow (l.getD k.toNat 0)).getD 0),b9 z.2 (l.getD k.toNat 0) i) else none:=by
 unfold lN
 rw[if_neg]
 .by_cases q:k=0
  .rw[if_pos (by omega),if_pos q]
  rw[if_neg (by omega),if_neg q]
 rintro(q|q|⟨q1,q2⟩)
 .rw[h.1.1] at q;cases q
 .rw[h.1.2] at q;cases q
 rw[show k.toNat-1=(k-1).toNat by omega] at q2
 exact h.2.elim (fun z=>z (by omega)) fun z=>z q2
end
theorem Hp {n:Int}{E:List (Int×Int)}{V L:List Int}{P:mW}{W:List (Int×List Int)}(hp:aS n E V L=0)(hP:Bm E V L P)(hW:vX E V L W):∀ {k:Nat},k<=W.length->∀x c,af (bP E P W k) x=some c->0<=c/\c<(P.length:Int)
 |0,_,x,c,h=>by cases h
 |k+1,hk,x,c,h=>by
  have h:af (b9 (bP E P W k) (W.getD k (0,[])).1 ((af (u7 P P.length) (cZ E (W.getD k (0,[])))).getD 0)) x=some c:=h
  rw[bK] at h
  split at h
  .have hm:W.getD k (0,[])∈W:=aB.2 ⟨k,by omega,rfl⟩
   obtain⟨i,hi,_,e⟩:=CV hP (rB hp hW hm)
   rw[e] at h
   have h:(i:Int)=c:=by injection h
   omega
  exact Hp hp hP hW (k:=k) (by omega) x c h
theorem CZ.at_ {ow:fR}{N:Nat}(h:CZ ow N){x:Int}(hx:(af ow x).isSome=true):0<=(af ow x).getD 0/\(af ow x).getD 0<(N:Int):=by
 obtain⟨c,hc⟩:=Option.isSome_iff_exists.1 hx
 rw[hc];exact h.v _ _ hc
theorem qw {ow:fR}{S:List (List Int)}{N:Nat}:∀ {i:Nat} {z:S4×fR},jc ow S N i=some z->∀j,j<i->2<=(S.getD j []).length
 |0,z,_,j,hj=>by omega
 |i+1,z,h,j,hj=>by
  have h:(jc ow S N i).bind (fun s=>mq ow S s i)=some z:=h
  cases hq:jc ow S N i with
  |none=>rw[hq] at h;cases h
  |some y=>
   by_cases e:j=i
   .subst e
    rw[hq] at h
    have h:mq ow S y j=some z:=h
    unfold mq at h
    split at h
    .cases h
    rename_i q
    exact Nat.le_of_not_lt fun z=>q (.inl z)
   exact qw hq j (by omega)
theorem OM {n:Int}{E:List (Int×Int)}{V L:List Int}(hp:aS n E V L=0){W:List (Int×List Int)}(h:vX E V L W){w:Int×List Int}(hw:w∈W):(w.2.length=0/\-1<=-1-w.1/\-1-w.1<=1000000)\/(w.2.length≠0/\0<=w.1/\w.1/2<(E.length:Int)/\w.1<=1000000):=by
 obtain⟨hr,hV,hL,fq⟩:=aJ hp
 obtain⟨r1,r2,r3,r4⟩:=bz hr
 rcases h.key w hw with⟨q,z⟩|⟨q,z⟩
 .have:=(aA.1 hV).2 _ z
  exact .inl ⟨q,by omega,by omega⟩
 have:=bf hp z
 exact .inr ⟨q,by omega,by omega,by omega⟩
theorem aK {n:Int}{E:List (Int×Int)}{V L:List Int}{T:List (List Int)}(h:iD n E V L T=0):(aa n E V L T).2=0:=by
 rw[fm,<-xb (V:=V)]
 unfold iD at h
 split at h
 .exact h
 rename_i q;exact Classical.not_not.1 q
section
variable {n:Int}{E:List (Int×Int)}{V L:List Int}{T S:List (List Int)}
theorem yY (h:iD n E V L T≠0):aM n E V L T S=iD n E V L T:=if_pos h
theorem iS (h:iD n E V L T=0)(hb:jc (bP E (ay n E V L) (aa n E V L T).1 (aa n E V L T).1.length) S (ay n E V L).length S.length=none):aM n E V L T S=7:=by
 unfold aM;rw[if_neg (fun q=>q h),hb]
theorem sO {s:S4×fR}(h:iD n E V L T=0)(hb:jc (bP E (ay n E V L) (aa n E V L T).1 (aa n E V L T).1.length) S (ay n E V L).length S.length=some s):aM n E V L T S=if 1<s.1.2.2.2 then 7 else 0:=by
 unfold aM;rw[if_neg (fun q=>q h),hb]
end
def cL (E:List (Int×Int))(v:Int)(l:List Int):Int:=if l.findIdx (fun x=>decide (ah E x=v))<l.length then((l.findIdx fun x=>decide (ah E x=v):Nat):Int) else -1
section
variable {E:List (Int×Int)}{v:Int}{l:List Int}
theorem ON {i:Int}(h0:0<=i)(h1:i<(l.length:Int))(h2:ah E (l.getD i.toNat 0)=v)(h3:∀j:Nat,(j:Int)<i->¬ah E (l.getD j 0)=v):cL E v l=i:=by
 have hi:i.toNat<l.length:=by omega
 have hg:∀j (hj:j<l.length),l.getD j 0=l[j]:=fun j hj=>by rw[List.getD_eq_getElem?_getD,List.getElem?_eq_getElem hj];rfl
 have h:l.findIdx (fun x=>decide (ah E x=v))=i.toNat:=(List.findIdx_eq hi).2 ⟨by rw[<-hg i.toNat hi];simpa using h2,fun j hj=>by
  have:=h3 j (by omega)
  rw[hg j (by omega)] at this
  simpa using this⟩
 unfold cL
 rw[h,if_pos hi];omega
theorem Sn (h:∀j:Nat,(j:Int)<(l.length:Int)->¬ah E (l.getD j 0)=v):cL E v l= -1:=by
 unfold cL
 rw[if_neg]
 intro q
 have:=List.findIdx_getElem (w:=q)
 have hj:=h _ (show((l.findIdx fun x=>decide (ah E x=v):Nat):Int)<_ by omega)
 rw[List.getD_eq_getElem?_getD,List.getElem?_eq_getElem q] at hj
 exact hj (by simpa using this)
theorem V5: -1<=cL E v l/\cL E v l<(l.length:Int):=by
 unfold cL;split<;>omega
end
def zQ (E:List (Int×Int))(s:List Int×List (List Int))(d:Int):List Int×List (List Int):=
 if cL E (ah E (an d)) (s.1++[d])<0 then(s.1++[d],s.2)
 else((s.1++[d]).take (cL E (ah E (an d)) (s.1++[d])).toNat,
  if(((s.1++[d]).drop (cL E (ah E (an d)) (s.1++[d])).toNat).length:Int)≠2\/((s.1++[d]).drop (cL E (ah E (an d)) (s.1++[d])).toNat).getD 0 0≠an (((s.1++[d]).drop (cL E (ah E (an d)) (s.1++[d])).toNat).getD 1 0)
  then s.2++[(s.1++[d]).drop (cL E (ah E (an d)) (s.1++[d])).toNat] else s.2)
def vf (E:List (Int×Int))(ds:List Int):Nat->List Int×List (List Int)
 |0=>([],[])
 |k+1=>zQ E (vf E ds k) (ds.getD k 0)
def Lc (E:List (Int×Int))(d:Int):Prop:=0<=d/\d/2<(E.length:Int)
instance (E:List (Int×Int)) (d:Int):Decidable (Lc E d):=inferInstanceAs (Decidable (_/\_))
def eR (n:Int)(E:List (Int×Int))(ds:List Int):List (List Int):=if bS n E=0/\∀d∈ds,Lc E d then(vf E ds ds.length).2 else[]
section
variable {n:Int}{E:List (Int×Int)}{ds:List Int}
theorem yZ {i:Int}(h:0<=i):vf E ds (i+1).toNat=zQ E (vf E ds i.toNat) (ds.getD i.toNat 0):=by
 rw[show(i+1).toNat=i.toNat+1 by omega];rfl
theorem Sq {s:List Int×List (List Int)}{d:Int}:(∀x∈(zQ E s d).1,x∈s.1\/x=d)/\(∀l∈(zQ E s d).2,l∈s.2\/∀x∈l,x∈s.1\/x=d):=by
 have ha:∀x,x∈s.1++[d]->x∈s.1\/x=d:=fun x hx=>(List.mem_append.1 hx).imp id fun h=>List.mem_singleton.1 h
 unfold zQ
 split
 .exact⟨ha,fun l hl=>.inl hl⟩
 refine⟨fun x hx=>ha x (List.mem_of_mem_take hx),fun l hl=>?_⟩
 dsimp only at hl
 split at hl
 .rcases List.mem_append.1 hl with q|q
  .exact .inl q
  rw[List.mem_singleton.1 q];exact .inr fun x hx=>ha x (List.mem_of_mem_drop hx)
 exact .inl hl
theorem C0:∀k,k<=ds.length->(∀x∈(vf E ds k).1,x∈ds)/\(∀l∈(vf E ds k).2,∀x∈l,x∈ds)
 |0,_=>⟨fun x hx=>(by cases hx),fun l hl=>(by cases hl)⟩
 |k+1,hk=>by
  obtain⟨h1,h2⟩:=C0 k (by omega)
  obtain⟨m1,m2⟩:=Sq (E:=E) (s:=vf E ds k) (d:=ds.getD k 0)
  have hd:ds.getD k 0∈ds:=ag (by omega)
  exact⟨fun x hx=>(m1 x hx).elim (h1 x) fun e=>e▸hd,fun l hl=>(m2 l hl).elim (h2 l) fun q x hx=>(q x hx).elim (h1 x) fun e=>e▸hd⟩
theorem Sr {s:List Int×List (List Int)}{d:Int}:(zQ E s d).1.length<=s.1.length+1/\(zQ E s d).2.length<=s.2.length+1:=by
 unfold zQ
 split
 .simp only[List.length_append,List.length_cons,List.length_nil];omega
 refine⟨Nat.le_trans (List.length_take_le' ..) (by simp),?_⟩
 dsimp only
 split
 .simp
 omega
theorem xh:∀k,(vf E ds k).1.length<=k/\(vf E ds k).2.length<=k
 |0=>⟨Nat.le_refl _,Nat.le_refl _⟩
 |k+1=>by
  have h:=xh k
  have:=Sr (E:=E) (s:=vf E ds k) (d:=ds.getD k 0)
  show(zQ _ _ _).1.length<=_/\(zQ _ _ _).2.length<=_
  omega
theorem V6 {s:List Int×List (List Int)}{d:Int}{N:Nat}(h:s.1.length<N)(hl:∀l∈s.2,l.length<=N):∀l∈(zQ E s d).2,l.length<=N:=by
 intro l hx
 unfold zQ at hx
 split at hx
 .exact hl l hx
 dsimp only at hx
 split at hx
 .rcases List.mem_append.1 hx with q|q
  .exact hl l q
  rw[List.mem_singleton.1 q,List.length_drop]
  simp only[List.length_append,List.length_cons,List.length_nil];omega
 exact hl l hx
theorem OO:∀k,k<=ds.length->∀l∈(vf E ds k).2,l.length<=ds.length
 |0,_=>fun l hl=>(by cases hl)
 |k+1,hk=>by
  have h:=(xh (E:=E) (ds:=ds) k).1
  exact V6 (by omega) (OO k (by omega))
theorem Ss {l:List Int}{B:Int}(hB:0<=B)(h:∀d∈l,0<=d/\d<=B)(k j:Nat):0<=(l.drop k).getD j 0/\(l.drop k).getD j 0<=B:=by
 rw[List.getD_eq_getElem?_getD]
 cases hq:(l.drop k)[j]? with
 |none=>exact⟨Int.le_refl _,hB⟩
 |some x=>exact h x (List.mem_of_mem_drop (List.mem_of_getElem? hq))
theorem Su {gone:List Int}{out:List (List Int)}{d:Int}(h:cL E (ah E (an d)) (gone++[d])<0):zQ E (gone,out) d=(gone++[d],out):=if_pos h
theorem Sv {gone:List Int}{out:List (List Int)}{d:Int}(h:¬cL E (ah E (an d)) (gone++[d])<0)(h2:¬(((gone++[d]).drop (cL E (ah E (an d)) (gone++[d])).toNat).length:Int)=2\/¬((gone++[d]).drop (cL E (ah E (an d)) (gone++[d])).toNat).getD 0 0=an (((gone++[d]).drop (cL E (ah E (an d)) (gone++[d])).toNat).getD 1 0)):
  zQ E (gone,out) d=((gone++[d]).take (cL E (ah E (an d)) (gone++[d])).toNat,out++[(gone++[d]).drop (cL E (ah E (an d)) (gone++[d])).toNat]):=by
 unfold zQ
 rw[if_neg h,if_pos h2]
theorem V7 {gone:List Int}{out:List (List Int)}{d:Int}(h:¬cL E (ah E (an d)) (gone++[d])<0)(h2:(((gone++[d]).drop (cL E (ah E (an d)) (gone++[d])).toNat).length:Int)=2/\((gone++[d]).drop (cL E (ah E (an d)) (gone++[d])).toNat).getD 0 0=an (((gone++[d]).drop (cL E (ah E (an d)) (gone++[d])).toNat).getD 1 0)):
  zQ E (gone,out) d=((gone++[d]).take (cL E (ah E (an d)) (gone++[d])).toNat,out):=by
 unfold zQ
 rw[if_neg h,if_neg (by rintro(q|q);exact q h2.1;exact q h2.2)]
theorem v7 (h:¬(bS n E=0/\∀d∈ds,Lc E d)):eR n E ds=[]:=if_neg h
theorem y5 (h:bS n E=0)(h2:∀d∈ds,Lc E d):eR n E ds=(vf E ds ds.length).2:=if_pos ⟨h,h2⟩
theorem E5 {p:Int->Prop}{i:Int}(hi:i=(ds.length:Int))(h:∀j:Nat,(j:Int)<i->p (ds.getD j 0)):∀d∈ds,p d:=by
 intro d hd
 obtain⟨k,hk,e⟩:=List.getElem_of_mem hd
 have:=h k (by omega)
 rwa[List.getD_eq_getElem?_getD,List.getElem?_eq_getElem hk,show((some ds[k]:Option Int).getD 0)=ds[k] from rfl,e] at this
end
def C2 (ds:List Int)(j:Nat):Int:=if j=0 then ds.getD (ds.length-1) 0 else ds.getD (j-1) 0
def LU (E:List (Int×Int))(ds:List Int)(k:Nat):Prop:=
 (∀j,j<k->ah E (an (C2 ds j))=ah E (ds.getD j 0))/\∀j,j<k->∀i,i<j->¬ah E (ds.getD i 0)=ah E (ds.getD j 0)/\¬ds.getD i 0/2=ds.getD j 0/2
def E6 (n:Int)(E:List (Int×Int))(V L:List Int)(ds:List Int):Prop:=aS n E V L=0/\ds≠[]/\(∀d∈ds,0<=d/\hasB L (d/2)=true)/\LU E ds ds.length
instance (E:List (Int×Int)) (ds:List Int) (k:Nat):Decidable (LU E ds k):=by unfold LU;infer_instance
instance (n:Int) (E:List (Int×Int)) (V L:List Int) (ds:List Int):Decidable (E6 n E V L ds):=by unfold E6;infer_instance
def mu (n:Int)(E:List (Int×Int))(V L:List Int)(ds:List Int):Bool:=decide (E6 n E V L ds)
structure Sw (E:List (Int×Int))(ds:List Int)(k:Nat)(vm em:List (Int×Int))(a:Int):Prop where
 ok:LU E ds k
 vk:∀x,(af vm x).isSome=true↔∃j,j<k/\ah E (ds.getD j 0)=x
 ek:∀x,(af em x).isSome=true↔∃j,j<k/\ds.getD j 0/2=x
 pr:a=C2 ds k
 len:vm.length<=k/\em.length<=k
section
variable {E:List (Int×Int)}{ds:List Int}{vm em:List (Int×Int)}{a:Int}
theorem OP (h:ds≠[]){j:Nat}(hj:j<ds.length):C2 ds j∈ds:=by
 have:=List.length_pos_iff.2 h
 unfold C2
 split
 .exact ag (by omega)
 exact ag (by omega)
theorem Sw.start:Sw E ds 0 [] [] (ds.getD (ds.length-1) 0):=
 ⟨⟨fun j h=>(by omega),fun j h=>(by omega)⟩,fun x=>⟨fun h=>(by cases h),fun⟨j,h,_⟩=>(by omega)⟩,fun x=>⟨fun h=>(by cases h),fun⟨j,h,_⟩=>(by omega)⟩,(if_pos rfl).symm,Nat.le_refl _,Nat.le_refl _⟩
theorem Sw.step {i:Int}(h0:0<=i)(h:Sw E ds i.toNat vm em a)(h1:((af vm (ah E (ds.getD i.toNat 0))).isSome=false/\(af em (ds.getD i.toNat 0/2)).isSome=false)/\ah E (an a)=ah E (ds.getD i.toNat 0)):
  Sw E ds (i+1).toNat (b9 vm (ah E (ds.getD i.toNat 0)) i) (b9 em (ds.getD i.toNat 0/2) i) (ds.getD i.toNat 0):=by
 obtain⟨⟨g1,g2⟩,g3⟩:=h1
 have g1:¬(af vm (ah E (ds.getD i.toNat 0))).isSome=true:=by rw[g1];decide
 have g2:¬(af em (ds.getD i.toNat 0/2)).isSome=true:=by rw[g2];decide
 rw[show(i+1).toNat=i.toNat+1 by omega]
 have Sz:∀(m:List (Int×Int)) (f:Nat->Int) (x:Int),(∀x,(af m x).isSome=true↔∃j,j<i.toNat/\f j=x)->((af (b9 m (f i.toNat) i) x).isSome=true↔∃j,j<i.toNat+1/\f j=x):=by
  intro m f x hm
  rw[bK]
  by_cases q:f i.toNat=x
  .rw[if_pos q];exact⟨fun _=>⟨_,Nat.lt_succ_self _,q⟩,fun _=>rfl⟩
  rw[if_neg q,hm]
  exact⟨fun⟨j,h1,h2⟩=>⟨j,by omega,h2⟩,fun⟨j,h1,h2⟩=>⟨j,by
   rcases Nat.lt_succ_iff_lt_or_eq.1 h1 with z|z
   .exact z
   subst z;exact absurd h2 q,h2⟩⟩
 refine⟨⟨fun j hj=>?_,fun j hj p hp=>?_⟩,fun x=>Sz vm (fun j=>ah E (ds.getD j 0)) x h.vk,fun x=>Sz em (fun j=>ds.getD j 0/2) x h.ek,?_,?_,?_⟩
 .rcases Nat.lt_succ_iff_lt_or_eq.1 hj with z|z
  .exact h.ok.1 j z
  subst z;rw[<-h.pr];exact g3
 .rcases Nat.lt_succ_iff_lt_or_eq.1 hj with z|z
  .exact h.ok.2 j z p hp
  subst z
  exact⟨fun e=>g1 ((h.vk _).2 ⟨p,hp,e⟩),fun e=>g2 ((h.ek _).2 ⟨p,hp,e⟩)⟩
 .unfold C2;rw[if_neg (by omega)];rfl
 .have:=cQ vm (ah E (ds.getD i.toNat 0)) i;have:=h.len;omega
 have:=cQ em (ds.getD i.toNat 0/2) i;have:=h.len;omega
theorem Sw.bad {i:Int}(h0:0<=i)(h:Sw E ds i.toNat vm em a)(hi:i.toNat<ds.length)(h1:((af vm (ah E (ds.getD i.toNat 0))).isSome=true\/(af em (ds.getD i.toNat 0/2)).isSome=true)\/¬ah E (an a)=ah E (ds.getD i.toNat 0)):¬LU E ds ds.length:=by
 intro hk
 rcases h1 with(q|q)|q
 .obtain⟨j,hj,e⟩:=(h.vk _).1 q;exact(hk.2 i.toNat hi j hj).1 e
 .obtain⟨j,hj,e⟩:=(h.ek _).1 q;exact(hk.2 i.toNat hi j hj).2 e
 exact q (by rw[h.pr];exact hk.1 _ hi)
theorem Hq {n:Int}{V L:List Int}(h:¬E6 n E V L ds):false=mu n E V L ds:=by unfold mu;rw[decide_eq_false h]
theorem SA {n:Int}{V L:List Int}(h:E6 n E V L ds):true=mu n E V L ds:=by unfold mu;rw[decide_eq_true h]
end
end Go.Proofs.YtnfdimfepbbbpaaGreat
namespace Go.Proofs.YtnfdimfepbbbpaaGreat
open Go.RowKit
open Go.Proofs.YtnfdimfepbbbpaaGreat.Deep
def Hr (N:Nat)(p:Nat->Bool):Int:=match(List.range N).find? p with
 |some i=>(i:Int)
 |none=> -1
section
variable {N:Nat}{p:Nat->Bool}
theorem Ja {i:Nat}(hi:i<N)(h:p i=true):∃j:Nat,Hr N p=(j:Int)/\j<=i/\p j=true:=by
 cases hq:(List.range N).find? p with
 |none=>
  rw[List.find?_eq_none] at hq
  exact absurd h (hq i (List.mem_range.2 hi))
 |some j=>
  have hj:=List.find?_range_eq_some.1 hq
  refine⟨j,by unfold Hr;rw[hq],Nat.le_of_not_lt fun z=>?_,hj.1⟩
  have:=hj.2.2 i z
  rw[h] at this;cases this
theorem V8: -1<=Hr N p/\Hr N p<(N:Int):=by
 unfold Hr
 cases hq:(List.range N).find? p with
 |none=>exact⟨Int.le_refl _,by show(-1:Int)<_;omega⟩
 |some j=>
  have hj:=List.mem_range.1 (List.find?_range_eq_some.1 hq).2.1
  show -1<=(j:Int)/\(j:Int)<_
  omega
end
def LV (W:List (Int×List Int))(key:Int):Int:=Hr W.length fun i=>decide ((W.getD i (0,[])).1=key)
section
variable {S:List (List Int)}{W:List (Int×List Int)}{key i:Int}
end
abbrev cF (n:Int):Prop:= -9223372036854775808<=n/\n<=9223372036854775807
theorem abO:bG Tryz.prog 29 [(false,(.list .int)),(false,.int)] [.bool] (fun _=>True) (fun x=>(decide ((I_ x.2.1)∈(J_ x.1)),())):=by
 refine bn Tryz.f29 18 [] Tryz.func29 fun o x hd _ _ h=>?_
 obtain⟨(l:List Int),(x:Int),_⟩:=x
 have jt:=dh h 0 l
 refine aZ [] h fun _ _ h=>?_
 refine go_loop (Int) (fun i=>⟨[(0,eo 0),(1,en x),(5,en i)],[(0,some (.ar .int l))],1⟩) (fun i=>0<=i/\i<=(l.length:Int)/\∀j:Nat,(j:Int)<i->¬l.getD j 0=x) (fun i=>((l.length:Int)-i).toNat) (0) (ir 1) h ⟨Int.le_refl _,Int.natCast_nonneg _,fun j hj=>by omega⟩ fun i _ _ _ eH hI h=>?_
 obtain⟨i0,i1,i2⟩:=hI
 refine aZ [] h fun _ _ h=>?_
 refine av h (fun(q1:i<(l.length:Int))=>?_) (fun(q1:¬(i<(l.length:Int)))=>?_)
 .refine go (pr:=(bX i l.length)) [] h bx fun _ _ h=>?_
  refine av h (fun(q2:(l.getD i.toNat 0)=x)=>?_) (fun(q2:¬((l.getD i.toNat 0)=x))=>?_)
  .refine aZ [] h fun _ _ h=>?_
   exact out ((true:Bool),()) h (congrArg (·,()) (show(true)=decide (x∈l) from(decide_eq_true (gm.2 ⟨i.toNat,by omega,q2⟩)).symm))
  refine go (pr:=(bR .i64 (i+1))) [] h cz fun _ _ h=>?_
  exact dR (eH (i+1) (ir 1) h ⟨by omega,by omega,fun j hj=>if z:(j:Int)<i then i2 j z else by rw[show j=i.toNat by omega];exact q2⟩ (by omega))
 refine aZ [] h fun _ _ h=>?_
 exact out ((false:Bool),()) h (congrArg (·,()) (show(false)=decide (x∈l) from(decide_eq_false fun q=>by obtain⟨j,hj,e⟩:=gm.1 q;exact i2 j (by omega) e).symm))
theorem ZH:bG Tryz.prog 117 [(false,(.list .int)),(false,.int)] [.bool] (fun _=>True) (fun x=>(decide (cH (J_ x.1) (I_ x.2.1)),())):=by
 refine bn Tryz.f117 41 [] Tryz.func117 fun o x hd _ _ h=>?_
 obtain⟨(l:List Int),(n:Int),_⟩:=x
 have jt:=dh h 0 l
 refine aZ [] h fun _ _ h=>?_
 refine go_loop (Int) (fun i=>⟨[(0,eo 0),(1,en n),(5,en i)],[(0,some (.ar .int l))],1⟩) (fun i=>0<=i/\i<=(l.length:Int)/\∀j:Nat,(j:Int)<i->(0<=l.getD j 0/\l.getD j 0<n/\(0<j->l.getD (j-1) 0<l.getD j 0))) (fun i=>((l.length:Int)-i).toNat) (0) (ir 1) h ⟨Int.le_refl _,Int.natCast_nonneg _,fun j hj=>by omega⟩ fun i _ _ _ eH hI h=>?_
 obtain⟨i0,i1,i2⟩:=hI
 refine aZ [] h fun _ _ h=>?_
 refine av h (fun(q1:i<(l.length:Int))=>?_) (fun(q1:¬(i<(l.length:Int)))=>?_)
 .refine go (pr:=(bX i l.length)/\((¬((l.getD i.toNat 0)<0))->(bX i l.length))/\(((¬((l.getD i.toNat 0)<0))/\(¬(n<=(l.getD i.toNat 0))))->((0:Int)<i)->(bX i l.length))/\(((¬((l.getD i.toNat 0)<0))/\(¬(n<=(l.getD i.toNat 0))))->((0:Int)<i)->(bR .i64 (i-1)))/\(((¬((l.getD i.toNat 0)<0))/\(¬(n<=(l.getD i.toNat 0))))->((0:Int)<i)->(bX (i-1) l.length))) [] h ⟨bx,fun _=>bx,fun _ _=>bx,fun _ _=>cz,fun _ _=>bx⟩ fun _ _ h=>?_
  refine av h (fun(q2:(((l.getD i.toNat 0)<0)\/(n<=(l.getD i.toNat 0)))\/(((0:Int)<i)/\((l.getD i.toNat 0)<=(l.getD (i-1).toNat 0))))=>?_) (fun(q2:((¬((l.getD i.toNat 0)<0))/\(¬(n<=(l.getD i.toNat 0))))/\((¬((0:Int)<i))\/(¬((l.getD i.toNat 0)<=(l.getD (i-1).toNat 0)))))=>?_)
  .refine aZ [] h fun _ _ h=>?_
   exact out ((false:Bool),()) h (congrArg (·,()) (show(false)=decide (cH l n) from(decide_eq_false fun q=>by have q:=q i.toNat (by omega);have z:=q2;rw[show(i-1).toNat=i.toNat-1 by omega] at z;omega).symm))
  refine go (pr:=(bR .i64 (i+1))) [] h cz fun _ _ h=>?_
  exact dR (eH (i+1) (ir 1) h ⟨by omega,by omega,fun j hj=>if z:(j:Int)<i then i2 j z else by rw[show j=i.toNat by omega];have q:=q2;rw[show(i-1).toNat=i.toNat-1 by omega] at q;omega⟩ (by omega))
 refine aZ [] h fun _ _ h=>?_
 exact out ((true:Bool),()) h (congrArg (·,()) (show(true)=decide (cH l n) from(decide_eq_true (show cH l n from fun j hj=>i2 j (by omega))).symm))
theorem OQ:bG Tryz.prog 59 [(false,(.list .int)),(false,.int)] [.bool] (fun _=>True) (fun x=>(decide (cH (J_ x.1) (I_ x.2.1)),())):=by
 refine bn Tryz.f59 35 [] Tryz.func59 fun o x hd _ _ h=>?_
 obtain⟨(l:List Int),(n:Int),_⟩:=x
 have jt:=dh h 0 l
 refine aZ [] h fun _ _ h=>?_
 refine go_loop (Int) (fun i=>⟨[(0,eo 0),(1,en n),(7,eo 0),(8,en (l.length:Int)),(9,en i)],[(0,some (.ar .int l))],1⟩) (fun i=>0<=i/\i<=(l.length:Int)/\∀j:Nat,(j:Int)<i->(0<=l.getD j 0/\l.getD j 0<n/\(0<j->l.getD (j-1) 0<l.getD j 0))) (fun i=>((l.length:Int)-i).toNat) (0) (ir 1) h ⟨Int.le_refl _,Int.natCast_nonneg _,fun j hj=>by omega⟩ fun i _ _ _ eH hI h=>?_
 obtain⟨i0,i1,i2⟩:=hI
 refine aZ [] h fun _ _ h=>?_
 refine av h (fun(q1:i<(l.length:Int))=>?_) (fun(q1:¬(i<(l.length:Int)))=>?_)
 .refine go (pr:=(bX i l.length)/\(((¬((l.getD i.toNat 0)<0))/\(¬(n<=(l.getD i.toNat 0))))->((0:Int)<i)->(bR .i64 (i-1)))/\(((¬((l.getD i.toNat 0)<0))/\(¬(n<=(l.getD i.toNat 0))))->((0:Int)<i)->(bX (i-1) l.length))) [] h ⟨bx,fun _ _=>cz,fun _ _=>bx⟩ fun _ _ h=>?_
  refine av h (fun(q2:(((l.getD i.toNat 0)<0)\/(n<=(l.getD i.toNat 0)))\/(((0:Int)<i)/\((l.getD i.toNat 0)<=(l.getD (i-1).toNat 0))))=>?_) (fun(q2:((¬((l.getD i.toNat 0)<0))/\(¬(n<=(l.getD i.toNat 0))))/\((¬((0:Int)<i))\/(¬((l.getD i.toNat 0)<=(l.getD (i-1).toNat 0)))))=>?_)
  .refine aZ [] h fun _ _ h=>?_
   exact out ((false:Bool),()) h (congrArg (·,()) (show(false)=decide (cH l n) from(decide_eq_false fun q=>by have q:=q i.toNat (by omega);have z:=q2;rw[show(i-1).toNat=i.toNat-1 by omega] at z;omega).symm))
  refine go (pr:=(bR .i64 (i+1))) [] h cz fun _ _ h=>?_
  exact dR (eH (i+1) (ir 1) h ⟨by omega,by omega,fun j hj=>if z:(j:Int)<i then i2 j z else by rw[show j=i.toNat by omega];have q:=q2;rw[show(i-1).toNat=i.toNat-1 by omega] at q;omega⟩ (by omega))
 refine aZ [] h fun _ _ h=>?_
 exact out ((true:Bool),()) h (congrArg (·,()) (show(true)=decide (cH l n) from(decide_eq_true (show cH l n from fun j hj=>i2 j (by omega))).symm))
def OR:dy Tryz.prog:=plain OQ
theorem ZI:bG Tryz.prog 46 [(false,nv)] [.int] (fun x=>cF (I_ x.1.1)) (fun x=>(bS (I_ x.1.1) (E_ x.1.2),())):=by
 refine bn Tryz.f46 70 [] Tryz.func46 fun o x hd _ _ h=>?_
 obtain⟨⟨(n:Int),(E:List (Int×Int))⟩,_⟩:=x
 have jt:=mh h 0 E
 change cF n at hd
 have hn:=hd
 unfold cF at hn
 refine aZ [] h fun _ _ h=>?_
 refine av h (fun(q1:n<0)=>?_) (fun(q1:¬(n<0))=>?_)
 .refine aZ [] h fun _ _ h=>?_
  exact out (((3:Int):Int),()) h (congrArg (·,()) (show((3:Int))=bS n E from by unfold bS;first|rw[if_pos (by omega)]|rw[if_neg (by omega),if_pos (by omega)]))
 refine go (pr:=((¬((1024:Int)<n))/\(¬((1024:Int)<(E.length:Int))))->(bR .i64 (n+(E.length:Int)))) [] h (fun _=>cz) fun _ _ h=>?_
 refine av h (fun(q2:(((1024:Int)<n)\/((1024:Int)<(E.length:Int)))\/((1024:Int)<n+(E.length:Int)))=>?_) (fun(q2:((¬((1024:Int)<n))/\(¬((1024:Int)<(E.length:Int))))/\(¬((1024:Int)<n+(E.length:Int))))=>?_)
 .refine aZ [] h fun _ _ h=>?_
  exact out (((2:Int):Int),()) h (congrArg (·,()) (show((2:Int))=bS n E from by unfold bS;first|rw[if_pos (by omega)]|rw[if_neg (by omega),if_pos (by omega)]))
 refine aZ [] h fun _ _ h=>?_
 refine go_loop (Int) (fun i=>⟨[(1,ep 0),(3,en i)],[(0,some (.box 24 [.v (.int .i64 n),.own 1])),(1,some (.ar j8 E))],2⟩) (fun i=>0<=i/\i<=(E.length:Int)/\∀j:Nat,(j:Int)<i->KO n (E.getD j (0,0))) (fun i=>((E.length:Int)-i).toNat) (0) (rk [1,0]) h ⟨Int.le_refl _,Int.natCast_nonneg _,fun j hj=>by omega⟩ fun i _ _ _ eH hI h=>?_
 obtain⟨i0,i1,i2⟩:=hI
 refine aZ [] h fun _ _ h=>?_
 refine av h (fun(q3:i<(E.length:Int))=>?_) (fun(q3:¬(i<(E.length:Int)))=>?_)
 .refine go (pr:=(bX i E.length)/\((¬((E.getD i.toNat (0,0)).1<0))->(bX i E.length))/\(((¬((E.getD i.toNat (0,0)).1<0))/\(¬(n<=(E.getD i.toNat (0,0)).1)))->(bX i E.length))/\((((¬((E.getD i.toNat (0,0)).1<0))/\(¬(n<=(E.getD i.toNat (0,0)).1)))/\(¬((E.getD i.toNat (0,0)).2<0)))->(bX i E.length))) [] h ⟨bx,fun _=>bx,fun _=>bx,fun _=>bx⟩ fun _ _ h=>?_
  refine av h (fun(q4:((((E.getD i.toNat (0,0)).1<0)\/(n<=(E.getD i.toNat (0,0)).1))\/((E.getD i.toNat (0,0)).2<0))\/(n<=(E.getD i.toNat (0,0)).2))=>?_) (fun(q4:(((¬((E.getD i.toNat (0,0)).1<0))/\(¬(n<=(E.getD i.toNat (0,0)).1)))/\(¬((E.getD i.toNat (0,0)).2<0)))/\(¬(n<=(E.getD i.toNat (0,0)).2)))=>?_)
  .refine aZ [] h fun _ _ h=>?_
   exact out (((3:Int):Int),()) h (congrArg (·,()) (show((3:Int))=bS n E from(yy (by omega) (by omega) (by omega) i0 (by omega) (by unfold KO;have:=q4;omega)).symm))
  refine go (pr:=(bR .i64 (i+1))) [] h cz fun _ _ h=>?_
  exact dR (eH (i+1) (ir 2) h ⟨by omega,by omega,fun j hj=>if z:(j:Int)<i then i2 j z else by rw[show j=i.toNat by omega];unfold KO;have:=q4;omega⟩ (by omega))
 refine aZ [] h fun _ _ h=>?_
 exact out (((0:Int):Int),()) h (congrArg (·,()) (show((0:Int))=bS n E from(Ba (i:=i) (by omega) (by omega) (by omega) (by omega) i2).symm))
theorem SB:bG Tryz.prog 37 [(false,nv)] [.int] (fun x=>cF (I_ x.1.1)) (fun x=>(bS (I_ x.1.1) (E_ x.1.2),())):=by
 refine bn Tryz.f37 50 [] Tryz.func37 fun o x hd _ _ h=>?_
 obtain⟨⟨(n:Int),(E:List (Int×Int))⟩,_⟩:=x
 have jt:=mh h 0 E
 change cF n at hd
 have hn:=hd
 unfold cF at hn
 refine aZ [] h fun _ _ h=>?_
 refine av h (fun(q1:n<0)=>?_) (fun(q1:¬(n<0))=>?_)
 .refine aZ [] h fun _ _ h=>?_
  exact out (((3:Int):Int),()) h (congrArg (·,()) (show((3:Int))=bS n E from by unfold bS;first|rw[if_pos (by omega)]|rw[if_neg (by omega),if_pos (by omega)]))
 refine go (pr:=(¬((1024:Int)<n))->(bR .i64 (1024-n))) [] h (fun _=>cz) fun _ _ h=>?_
 refine av h (fun(q2:((1024:Int)<n)\/(1024-n<(E.length:Int)))=>?_) (fun(q2:(¬((1024:Int)<n))/\(¬(1024-n<(E.length:Int))))=>?_)
 .refine aZ [] h fun _ _ h=>?_
  exact out (((2:Int):Int),()) h (congrArg (·,()) (show((2:Int))=bS n E from by unfold bS;first|rw[if_pos (by omega)]|rw[if_neg (by omega),if_pos (by omega)]))
 refine aZ [] h fun _ _ h=>?_
 refine go_loop (Int) (fun i=>⟨[(1,ep 0),(21,eo 1),(22,en (E.length:Int)),(23,en i)],[(0,some (.box 24 [.v (.int .i64 n),.own 1])),(1,some (.ar j8 E))],2⟩) (fun i=>0<=i/\i<=(E.length:Int)/\∀j:Nat,(j:Int)<i->KO n (E.getD j (0,0))) (fun i=>((E.length:Int)-i).toNat) (0) (rk [1,0]) h ⟨Int.le_refl _,Int.natCast_nonneg _,fun j hj=>by omega⟩ fun i _ _ _ eH hI h=>?_
 obtain⟨i0,i1,i2⟩:=hI
 refine aZ [] h fun _ _ h=>?_
 refine av h (fun(q3:i<(E.length:Int))=>?_) (fun(q3:¬(i<(E.length:Int)))=>?_)
 .refine go (pr:=(bX i E.length)) [] h bx fun _ _ h=>?_
  refine av h (fun(q4:((((E.getD i.toNat (0,0)).1<0)\/(n<=(E.getD i.toNat (0,0)).1))\/((E.getD i.toNat (0,0)).2<0))\/(n<=(E.getD i.toNat (0,0)).2))=>?_) (fun(q4:(((¬((E.getD i.toNat (0,0)).1<0))/\(¬(n<=(E.getD i.toNat (0,0)).1)))/\(¬((E.getD i.toNat (0,0)).2<0)))/\(¬(n<=(E.getD i.toNat (0,0)).2)))=>?_)
  .refine aZ [] h fun _ _ h=>?_
   exact out (((3:Int):Int),()) h (congrArg (·,()) (show((3:Int))=bS n E from(yy (by omega) (by omega) (by omega) i0 (by omega) (by unfold KO;have:=q4;omega)).symm))
  refine go (pr:=(bR .i64 (i+1))) [] h cz fun _ _ h=>?_
  exact dR (eH (i+1) (ir 2) h ⟨by omega,by omega,fun j hj=>if z:(j:Int)<i then i2 j z else by rw[show j=i.toNat by omega];unfold KO;have:=q4;omega⟩ (by omega))
 refine aZ [] h fun _ _ h=>?_
 exact out (((0:Int):Int),()) h (congrArg (·,()) (show((0:Int))=bS n E from(Ba (i:=i) (by omega) (by omega) (by omega) (by omega) i2).symm))
def C3:dy Tryz.prog:=plain SB
theorem SC:bG Tryz.prog 79 [(false,.int)] [.bool] (fun _=>True) (fun x=>(false,())):=by
 refine bn Tryz.f79 6 [] Tryz.func79 fun o x hd _ _ h=>?_
 obtain⟨(x:Int),_⟩:=x
 refine aZ [] h fun _ _ h=>?_
 exact out ((!(decide (x=x)):Bool),()) h (congrArg (·,()) (show(!(decide (x=x)))=false from by simp))
def SD:dy Tryz.prog:=plain SC
theorem OS:bG Tryz.prog 113 [(false,.int)] [.bool] (fun _=>True) (fun x=>(false,())):=by
 refine bn Tryz.f113 6 [] Tryz.func113 fun o x hd _ _ h=>?_
 obtain⟨(x:Int),_⟩:=x
 refine aZ [] h fun _ _ h=>?_
 exact out ((!(decide (x=x)):Bool),()) h (congrArg (·,()) (show(!(decide (x=x)))=false from by simp))
def OT:dy Tryz.prog:=plain OS
theorem Wa:bG Tryz.prog 78 [(false,.int),(false,.int)] [.bool] (fun _=>True) (fun x=>(decide ((I_ x.1)<(I_ x.2.1)),())):=by
 refine bn Tryz.f78 17 [OT] Tryz.func78 fun o x hd _ _ h=>?_
 obtain⟨(x:Int),(y:Int),_⟩:=x
 refine go (pr:=True/\((false=true)->True)) [] h ⟨tv,fun _=>trivial⟩ fun _ _ h=>?_
 exact out (((false && (!false))||(decide (x<y)):Bool),()) h (congrArg (·,()) (show((false && (!false))||(decide (x<y)))=decide (x<y) from by simp))
def Wb:dy Tryz.prog:=plain Wa
theorem abf:bG Tryz.prog 40 [(false,(.list .int)),(false,.int)] [.int,.bool] (fun x=>(J_ x.1).length<=1000000) (fun x=>(NW (J_ x.1) (I_ x.2.1),hasB (J_ x.1) (I_ x.2.1),())):=by
 refine bn Tryz.f40 54 [SD,Wb] Tryz.func40 fun o x hd _ _ h=>?_
 obtain⟨(l:List Int),(x:Int),_⟩:=x
 have jt:=dh h 0 l
 change l.length<=1000000 at hd
 refine aZ [] h fun _ _ h=>?_
 refine bq Int Int (fun p q=>⟨[(0,eo 0),(1,en x),(6,en (l.length:Int)),(7,en p),(8,en q)],[(0,some (.ar .int l))],1⟩) (fun p q=>0<=p/\p<=q/\q<=(l.length:Int)/\IL l x p q=NW l x) (fun p q=>(q-p).toNat) 0 (l.length:Int) (ir 1) h ⟨Int.le_refl _,Int.natCast_nonneg _,Int.le_refl _,Uw l x⟩ fun p q _ _ _ eH hI h=>?_
 obtain⟨h1,h2,h3,hb⟩:=hI
 refine aZ [] h fun _ _ h=>?_
 refine av h (fun(q1:p<q)=>?_) (fun(q1:¬(p<q))=>?_)
 .refine go (pr:=(bR .i64 (p+q))/\(bR .u64 (p+q))/\(bR .i64 ((p+q)/2))/\(bX ((p+q)/2) l.length)/\True) [] h ⟨cz,⟨by omega,by omega⟩,cz,bx,tv⟩ fun _ _ h=>?_
  refine av h (fun(q2:(decide ((l.getD ((p+q)/2).toNat 0)<x))=true)=>?_) (fun(q2:(decide ((l.getD ((p+q)/2).toNat 0)<x))=false)=>?_)
  .refine go (pr:=(bR .i64 (((p+q)/2)+1))) [] h cz fun _ _ h=>?_
   exact dR (eH (((p+q)/2)+1) q (ir 1) h ⟨by omega,by omega,by omega,by rw[Uu (by omega) (of_decide_eq_true q2)] at hb;exact hb⟩ (by omega))
  refine aZ [] h fun _ _ h=>?_
  exact dR (eH p ((p+q)/2) (ir 1) h ⟨by omega,by omega,by omega,by rw[Uv (by omega) (of_decide_eq_false q2)] at hb;exact hb⟩ (by omega))
 have e1:p=NW l x:=by rw[CK (by omega)] at hb;exact hb
 refine go (pr:=((p<(l.length:Int))->(bX p l.length))/\((p<(l.length:Int))->(¬((l.getD p.toNat 0)=x))->(bX p l.length))/\((p<(l.length:Int))->(¬((l.getD p.toNat 0)=x))->True)/\((p<(l.length:Int))->(¬((l.getD p.toNat 0)=x))->(false=true)->True)) [] h ⟨fun _=>bx,fun _ _=>bx,fun _ _=>trivial,fun _ _ _=>trivial⟩ fun _ _ h=>?_
 exact out ((p:Int),((decide (p<(l.length:Int))) && ((decide ((l.getD p.toNat 0)=x))||(false && false)):Bool),()) h (Prod.ext e1 (congrArg (·,()) (show((decide (p<(l.length:Int))) && ((decide ((l.getD p.toNat 0)=x))||(false && false)))=hasB l x from by unfold hasB;rw[<-e1];simp)))
def abg:dy Tryz.prog:=plain abf
theorem ZJ:bG Tryz.prog 23 [(false,(.list .int)),(false,.int)] [.bool] (fun x=>(J_ x.1).length<=1000000) (fun x=>(hasB (J_ x.1) (I_ x.2.1),())):=by
 refine bn Tryz.f23 14 [abg] Tryz.func23 fun o x hd _ _ h=>?_
 obtain⟨(l:List Int),(x:Int),_⟩:=x
 have jt:=dh h 0 l
 change l.length<=1000000 at hd
 refine go (pr:=(l.length<=1000000)) [] h hd fun _ _ h=>?_
 exact out ((hasB l x:Bool),()) h rfl
def BD:dy Tryz.prog:=plain ZJ
theorem SE:bG Tryz.prog 33 [(false,nv),(false,kI)] [.int] (fun x=>cF (I_ x.1.1)) (fun x=>(aS (I_ x.1.1) (E_ x.1.2) (J_ x.2.1.1) (J_ x.2.1.2),())):=by
 refine bn Tryz.f33 58 [BD,C3,OR] Tryz.func33 fun o x hd _ _ h=>?_
 obtain⟨⟨(n:Int),(E:List (Int×Int))⟩,⟨(V:List Int),(L:List Int)⟩,_⟩:=x
 have jt:=mh h 0 E
 have gE:=dh h 1 V
 have gH:=dh h 2 L
 change cF n at hd
 have hn:=hd
 refine go (pr:=(cF n)) [] h hn fun _ _ h=>?_
 refine av h (fun(q1:¬(bS n E=0))=>?_) (fun(q1:bS n E=0)=>?_)
 .refine aZ [] h fun _ _ h=>?_
  exact out ((bS n E:Int),()) h (congrArg (·,()) (show(bS n E)=aS n E V L from(if_pos q1).symm))
 refine go (pr:=True/\(((decide (cH V n))=true)->True)) [] h ⟨tv,fun _=>trivial⟩ fun _ _ h=>?_
 refine av h (fun(q2:((decide (cH V n))=false)\/((decide (cH L (E.length:Int)))=false))=>?_) (fun(q2:((decide (cH V n))=true)/\((decide (cH L (E.length:Int)))=true))=>?_)
 .refine aZ [] h fun _ _ h=>?_
  exact out (((4:Int):Int),()) h (congrArg (·,()) (show((4:Int))=aS n E V L from by unfold aS;rw[if_neg (by omega),if_pos (q2.imp of_decide_eq_false of_decide_eq_false)]))
 have LW:=bz (n:=n) (E:=E) q1
 have hr1:cH V n:=of_decide_eq_true q2.1
 have hr2:cH L (E.length:Int):=of_decide_eq_true q2.2
 have hv9:=aO hr1 (by omega)
 have hl9:=aO hr2 (by omega)
 refine aZ [] h fun _ _ h=>?_
 refine go_loop (Int) (fun i=>⟨[(2,ep 0),(3,ep 1),(29,eo 2),(30,en (L.length:Int)),(31,en i)],[(0,some (.box 24 [.v (.int .i64 n),.own 3])),(1,some (.box 27 [.own 4,.own 2])),(2,some (.ar .int L)),(3,some (.ar j8 E)),(4,some (.ar .int V))],5⟩) (fun i=>0<=i/\i<=(L.length:Int)/\∀j:Nat,(j:Int)<i->(hasB V (E.getD (L.getD j 0).toNat (0,0)).1=true/\hasB V (E.getD (L.getD j 0).toNat (0,0)).2=true)) (fun i=>((L.length:Int)-i).toNat) (0) (rk [3,4099,2,0,1]) h ⟨Int.le_refl _,Int.natCast_nonneg _,fun j hj=>by omega⟩ fun i _ _ _ eH hI h=>?_
 obtain⟨i0,i1,i2⟩:=hI
 refine aZ [] h fun _ _ h=>?_
 refine av h (fun(q3:i<(L.length:Int))=>?_) (fun(q3:¬(i<(L.length:Int)))=>?_)
 .have hx:=hr2 i.toNat (by omega)
  refine go (pr:=(bX i L.length)/\(bX (L.getD i.toNat 0) E.length)/\(V.length<=1000000)/\(((hasB V ((E.getD (L.getD i.toNat 0).toNat (0,0)).1))=true)->(bX (L.getD i.toNat 0) E.length))/\(((hasB V ((E.getD (L.getD i.toNat 0).toNat (0,0)).1))=true)->(V.length<=1000000))) [] h ⟨bx,bx,by omega,fun _=>bx,fun _=>by omega⟩ fun _ _ h=>?_
  refine av h (fun(q4:((hasB V ((E.getD (L.getD i.toNat 0).toNat (0,0)).1))=false)\/((hasB V ((E.getD (L.getD i.toNat 0).toNat (0,0)).2))=false))=>?_) (fun(q4:((hasB V ((E.getD (L.getD i.toNat 0).toNat (0,0)).1))=true)/\((hasB V ((E.getD (L.getD i.toNat 0).toNat (0,0)).2))=true))=>?_)
  .refine aZ [] h fun _ _ h=>?_
   exact out (((4:Int):Int),()) h (congrArg (·,()) (show((4:Int))=aS n E V L from by unfold aS;rw[if_neg (by omega),if_neg (by rintro(q|q);exact q hr1;exact q hr2),if_neg (fun q:uX E V L=>by have z:=q i.toNat (by omega);rcases q4 with y|y;rw[z.1] at y;cases y;rw[z.2] at y;cases y)]))
  refine go (pr:=(bR .i64 (i+1))) [] h cz fun _ _ h=>?_
  exact dR (eH (i+1) (ir 5) h ⟨by omega,by omega,fun j hj=>if z:(j:Int)<i then i2 j z else by rw[show j=i.toNat by omega];exact q4⟩ (by omega))
 refine aZ [] h fun _ _ h=>?_
 exact out (((0:Int):Int),()) h (congrArg (·,()) (show((0:Int))=aS n E V L from by unfold aS;rw[if_neg (by omega),if_neg (by rintro(q|q);exact q hr1;exact q hr2),if_pos (show uX E V L from fun j hj=>i2 j (by omega))]))
def tY:dy Tryz.prog:=plain SE
theorem SF:bG Tryz.prog 16 [(false,nv)] [kI] (fun x=>cF (I_ x.1.1)) (fun x=>(aR (I_ x.1.1) (E_ x.1.2),())):=by
 refine bn Tryz.f16 36 [C3] Tryz.func16 fun o x hd _ _ h=>?_
 obtain⟨⟨(n:Int),(E:List (Int×Int))⟩,_⟩:=x
 have jt:=mh h 0 E
 change cF n at hd
 have hn:=hd
 refine go (pr:=(cF n)) [] h hn fun _ _ h=>?_
 refine av h (fun(q1:¬(bS n E=0))=>?_) (fun(q1:bS n E=0)=>?_)
 .refine aZ [] h fun _ _ h=>?_
  exact out ((([],[]):(List Int)×List Int),()) h (congrArg (·,()) (show(([],[]))=aR n E from(if_pos q1).symm))
 have LW:=bz (n:=n) (E:=E) q1
 refine aZ [] h fun _ _ h=>?_
 refine bq Int (List Int) (fun i va=>⟨[(1,ep 0),(2,ep 1),(3,ep 2),(11,en n),(12,en i)],[(0,some (.box 24 [.v (.int .i64 n),.own 3])),(1,some (.box 27 [.v (.slice none 0 0),.v (.slice none 0 0)])),(2,some (.box 27 [.own 4,.v (.slice none 0 0)])),(3,some (.ar j8 E)),(4,some (.row 3 .int va))],5⟩) (fun i va=>0<=i/\(i<=n\/i=0)/\va=upto i) (fun i va=>(n-i).toNat) 0 [] [(0,some 1),(1,some 4097),(2,some 8193),(3,some 0),(4,none)] h ⟨Int.le_refl _,.inr rfl,rfl⟩ fun i va _ _ _ eH hI h=>?_
 obtain⟨i0,i1,i2⟩:=hI
 refine aZ [] h fun _ _ h=>?_
 refine av h (fun(q2:i<n)=>?_) (fun(q2:¬(i<n))=>?_)
 .have LL:=tL i
  rw[<-i2] at LL
  refine go (pr:=(va.length+([i]:List Int).length<=2147483647)/\(bR .i64 (i+1))) [] h ⟨ln,cz⟩ fun _ _ h=>?_
  exact dR (eH (i+1) (va++([i]:List Int)) (rk [0,1,2,3,28677]) h ⟨by omega,.inl (by omega),by rw[qX i0,<-i2]⟩ (by omega))
 have YG:va=upto n:=by rw[i2,show i=n by omega]
 refine aZ [] h fun _ _ h=>?_
 refine bq Int (List Int) (fun k vb=>⟨[(2,ep 0),(3,ep 1),(24,en (E.length:Int)),(25,en k)],[(0,some (.box 27 [.v (.slice none 0 0),.v (.slice none 0 0)])),(1,some (.box 27 [.own 2,.own 3])),(2,some (.row 3 .int va)),(3,some (.row 3 .int vb))],4⟩) (fun k vb=>0<=k/\(k<=(E.length:Int)\/k=0)/\vb=upto k) (fun k vb=>((E.length:Int)-k).toNat) 0 [] [(0,some 1),(1,some 2),(2,some 4),(3,none)] h ⟨Int.le_refl _,.inr rfl,rfl⟩ fun k vb _ _ _ lS hI h=>?_
 obtain⟨k0,k1,k2⟩:=hI
 refine aZ [] h fun _ _ h=>?_
 refine av h (fun(q3:k<(E.length:Int))=>?_) (fun(q3:¬(k<(E.length:Int)))=>?_)
 .have LL:=tL k
  rw[<-k2] at LL
  refine go (pr:=(vb.length+([k]:List Int).length<=2147483647)/\(bR .i64 (k+1))) [] h ⟨ln,cz⟩ fun _ _ h=>?_
  exact dR (lS (k+1) (vb++([k]:List Int)) (rk [0,1,2,28676]) h ⟨by omega,.inl (by omega),by rw[qX k0,<-k2]⟩ (by omega))
 have NO:vb=upto (E.length:Int):=by rw[k2,show k=(E.length:Int) by omega]
 refine aZ [] h fun _ _ h=>?_
 exact out (((va,vb):(List Int)×List Int),()) h (congrArg (·,()) (show((va,vb))=aR n E from by rw[YG,NO];exact(if_neg fun q=>q q1).symm))
def C4:dy Tryz.prog:=plain SF
theorem OU:bG Tryz.prog 17 [(false,nv)] [kI] (fun x=>cF (I_ x.1.1)/\(I_ x.1.1)<=1000000/\(E_ x.1.2).length<=1000000) (fun x=>((upto (I_ x.1.1),upto ((E_ x.1.2).length:Int)),())):=by
 refine bn Tryz.f17 32 [] Tryz.func17 fun o x hd _ _ h=>?_
 obtain⟨⟨(n:Int),(E:List (Int×Int))⟩,_⟩:=x
 have jt:=mh h 0 E
 change cF n/\n<=1000000/\E.length<=1000000 at hd
 obtain⟨hn,B9,hE⟩:=hd
 refine aZ [] h fun _ _ h=>?_
 refine bq Int (List Int) (fun i va=>⟨[(1,ep 0),(2,ep 1),(3,ep 2),(4,en i)],[(0,some (.box 24 [.v (.int .i64 n),.own 3])),(1,some (.box 27 [.v (.slice none 0 0),.v (.slice none 0 0)])),(2,some (.box 27 [.own 4,.v (.slice none 0 0)])),(3,some (.ar j8 E)),(4,some (.row 3 .int va))],5⟩) (fun i va=>0<=i/\(i<=n\/i=0)/\va=upto i) (fun i va=>(n-i).toNat) 0 [] [(0,some 1),(1,some 4097),(2,some 8193),(3,some 0),(4,none)] h ⟨Int.le_refl _,.inr rfl,rfl⟩ fun i va _ _ _ eH hI h=>?_
 obtain⟨i0,i1,i2⟩:=hI
 refine aZ [] h fun _ _ h=>?_
 refine av h (fun(q1:i<n)=>?_) (fun(q1:¬(i<n))=>?_)
 .have LL:=tL i
  rw[<-i2] at LL
  refine go (pr:=(va.length+([i]:List Int).length<=2147483647)/\(bR .i64 (i+1))) [] h ⟨ln,cz⟩ fun _ _ h=>?_
  exact dR (eH (i+1) (va++([i]:List Int)) (rk [0,1,2,3,32773]) h ⟨by omega,.inl (by omega),by rw[qX i0,<-i2]⟩ (by omega))
 have YG:va=upto n:=i2.trans (IM q1 i1)
 refine aZ [] h fun _ _ h=>?_
 refine bq Int (List Int) (fun k vb=>⟨[(1,ep 0),(2,ep 1),(3,ep 2),(5,en k)],[(0,some (.box 24 [.v (.int .i64 n),.own 3])),(1,some (.box 27 [.v (.slice none 0 0),.v (.slice none 0 0)])),(2,some (.box 27 [.own 4,.own 5])),(3,some (.ar j8 E)),(4,some (.row 3 .int va)),(5,some (.row 3 .int vb))],6⟩) (fun k vb=>0<=k/\(k<=(E.length:Int)\/k=0)/\vb=upto k) (fun k vb=>((E.length:Int)-k).toNat) 0 [] [(0,some 0),(1,some 1),(2,some 2),(3,some 3),(4,some 4),(5,none)] h ⟨Int.le_refl _,.inr rfl,rfl⟩ fun k vb _ _ _ lS hI h=>?_
 obtain⟨k0,k1,k2⟩:=hI
 refine aZ [] h fun _ _ h=>?_
 refine av h (fun(q2:k<(E.length:Int))=>?_) (fun(q2:¬(k<(E.length:Int)))=>?_)
 .have LL:=tL k
  rw[<-k2] at LL
  refine go (pr:=(vb.length+([k]:List Int).length<=2147483647)/\(bR .i64 (k+1))) [] h ⟨ln,cz⟩ fun _ _ h=>?_
  exact dR (lS (k+1) (vb++([k]:List Int)) (rk [0,1,2,3,4,36870]) h ⟨by omega,.inl (by omega),by rw[qX k0,<-k2]⟩ (by omega))
 have NO:vb=upto (E.length:Int):=k2.trans (IM q2 k1)
 refine aZ [] h fun _ _ h=>?_
 exact out (((va,vb):(List Int)×List Int),()) h (congrArg (·,()) (show((va,vb))=(upto n,upto (E.length:Int)) from by rw[YG,NO]))
def OV:dy Tryz.prog:=plain OU
end Go.Proofs.YtnfdimfepbbbpaaGreat
namespace Go.Proofs.YtnfdimfepbbbpaaGreat
open Go.RowKit
open Go.Proofs.YtnfdimfepbbbpaaGreat.Deep
section
variable {lf:Int->Int}{ds L:List Int}{E:List (Int×Int)}
end
section
variable {lf:Int->Int}{ds L m:List Int}{N:Nat}{i:Nat}{k:Int}
end
def Wc (E:List (Int×Int))(ds:List Int)(v:Int):Bool:=decide (∃j,j<ds.length/\ah E (ds.getD j 0)=v)
end Go.Proofs.YtnfdimfepbbbpaaGreat
namespace Go.Proofs.YtnfdimfepbbbpaaGreat
open Go.RowKit
open Go.Proofs.YtnfdimfepbbbpaaGreat.Deep
section
variable {n:Int}{E:List (Int×Int)}{V L:List Int}{T S:List (List Int)}
end
theorem ZK (W:List (Int×List Int))(key:Int): -1<=LV W key/\LV W key<(W.length:Int):=V8
section
variable {g l m:List Int}{a b:Int}{W:List (Int×List Int)}{o:Int->Int}
structure OW (W:List (Int×List Int))(m:List Int):Prop where
 nd:m.Nodup
 fn:∀x∈m,0<=LV W x
theorem SG {x y:Int}(hx:0<=LV W x)(e:LV W x=LV W y):x=y:=by
 have key:∀x,0<=LV W x->(W.getD (LV W x).toNat (0,[])).1=x:=fun x hx=>by
  unfold LV Hr at hx ⊢
  split at hx
  .rename_i i hi
   have:=(List.find?_range_eq_some.1 hi).1
   exact of_decide_eq_true this
  omega
 rw[<-key x hx,<-key y (by omega),e]
theorem OW.len (h:OW W m):m.length<=W.length:=by
 have hn:(m.map fun x=>(LV W x).toNat).Nodup:=by
  refine List.pairwise_map.2 (h.nd.imp_of_mem fun {x y} hx hy q e=>q ?_)
  have:=h.fn x hx
  have:=h.fn y hy
  exact SG (by omega) (by omega)
 have:=hn.length_le_of_subset (l₂:=List.range W.length) fun z hz=>by
  obtain⟨x,hx,rfl⟩:=List.mem_map.1 hz
  have:=(ZK W x).2
  have:=h.fn x hx
  exact List.mem_range.2 (by omega)
 rwa[List.length_map,List.length_range] at this
theorem OW.snoc (h:OW W m){x:Int}(h1:¬LV W x<0)(h2:x∉m):OW W (m++[x]):=
 ⟨List.nodup_append.2 ⟨h.nd,List.pairwise_singleton _ _,fun a ha b hb e=>h2 (by rw[<-List.mem_singleton.1 hb,<-e];exact ha)⟩,fun y hy=>(List.mem_append.1 hy).elim (h.fn y) fun q=>by rw[List.mem_singleton.1 q];omega⟩
end
end Go.Proofs.YtnfdimfepbbbpaaGreat
namespace Go.Proofs.YtnfdimfepbbbpaaGreat
open Go.RowKit
end Go.Proofs.YtnfdimfepbbbpaaGreat
namespace Go.Proofs
open Go.Shelf
def Tryz.Ai:Go.Shelf.Ren:=⟨fun|15=>85|n=>n,fun|22=>25|3=>3|4=>4|n=>n,fun|n=>n⟩
theorem Tryz.vg:Go.Proofs.Lays2.n15 Tryz.prog Tryz.Ai:={
 mixed:=by kernel_rfl
 f15:=Tryz.func85.trans (congrArg some (by kernel_rfl))
 t3:=Tryz.underlying3
 a3:=Tryz.isAgg3
 z3:=Tryz.sizeOf3
 v3:=Tryz.zeroValue3
 t4:=Tryz.underlying4
 a4:=Tryz.isAgg4
 z4:=Tryz.sizeOf4
 v4:=Tryz.zeroValue4
 t22:=Tryz.underlying25
 a22:=Tryz.isAgg25
 z22:=Tryz.sizeOf25
 v22:=Tryz.zeroValue25
 i3:=by kernel_rfl}
open Go.RowKit Go.Lib in
theorem Tryz.slices_Clone_int (b off n c:Nat)(zs:List Int)(w:World)(hz:n<=zs.length)(abh:n*8<=140737488355328)(hc:∀j,j<zs.length->w.cell? ⟨b,off+j,none⟩=some (.int .i64 (zs.getD j 0))):
 Calls Tryz.prog 85 #[.slice (some ⟨b,off,none⟩) n c] w fun e w'=> ∃v',e= .returned v'/\w'.ownsRow w.heap.size 3 1 v' n ((zs.take n).map (Value.int .i64))/\v'≠.slice none 0 0/\Below w.heap.size w w':=Any.slices_Clone_int Tryz.vg b off n c zs w hz abh hc
open Go.RowKit Go.Lib in
theorem Tryz.slices_Clone_int_nil (n c:Nat)(w:World):
 Calls Tryz.prog 85 #[.slice none n c] w fun e w'=>e= .returned (.slice none 0 0)/\w'=w:=Any.slices_Clone_int_nil Tryz.vg n c w
open Go.RowKit Go.Lib in
theorem Tryz.slices_Clone_int_zero (a:Addr)(c:Nat)(w:World):
 Calls Tryz.prog 85 #[.slice (some a) 0 c] w fun e w'=> ∃v',e= .returned v'/\w'.ownsRow w.heap.size 3 1 v' 0 []/\v'≠.slice none 0 0/\Below w.heap.size w w':=Any.slices_Clone_int_zero Tryz.vg a c w
def Tryz.BF:Go.Shelf.Ren:=⟨fun|6=>71|15=>112|14=>111|28=>135|29=>136|20=>127|21=>128|22=>129|23=>130|24=>131|25=>132|26=>133|27=>134|46=>140|47=>141|48=>142|49=>143|50=>144|57=>147|n=>n,fun|22=>28|24=>25|25=>108|3=>3|39=>112|0=>0|53=>159|55=>161|4=>4|46=>153|45=>152|50=>37|5=>5|9=>9|66=>166|70=>170|76=>172|77=>173|n=>n,fun|n=>n⟩
theorem Tryz.Ex:Go.Proofs.SlLaysF.n6 Tryz.prog Tryz.BF:={
 mixed:=by kernel_rfl
 f6:=⟨Tryz.f71.name,by decide,Tryz.func71.trans (congrArg some (by kernel_rfl))⟩
 f14:=⟨Tryz.f111.name,by decide,Tryz.func111.trans (congrArg some (by kernel_rfl))⟩
 f15:=Tryz.func112.trans (congrArg some (by kernel_rfl))
 f20:=⟨Tryz.f127.name,by decide,Tryz.func127.trans (congrArg some (by kernel_rfl))⟩
 f21:=⟨Tryz.f128.name,by decide,Tryz.func128.trans (congrArg some (by kernel_rfl))⟩
 f22:=⟨Tryz.f129.name,by decide,Tryz.func129.trans (congrArg some (by kernel_rfl))⟩
 f23:=⟨Tryz.f130.name,by decide,Tryz.func130.trans (congrArg some (by kernel_rfl))⟩
 f24:=⟨Tryz.f131.name,by decide,Tryz.func131.trans (congrArg some (by kernel_rfl))⟩
 f25:=⟨Tryz.f132.name,by decide,Tryz.func132.trans (congrArg some (by kernel_rfl))⟩
 f26:=⟨Tryz.f133.name,by decide,Tryz.func133.trans (congrArg some (by kernel_rfl))⟩
 f27:=⟨Tryz.f134.name,by decide,Tryz.func134.trans (congrArg some (by kernel_rfl))⟩
 f28:=Tryz.func135.trans (congrArg some (by kernel_rfl))
 f29:=Tryz.func136.trans (congrArg some (by kernel_rfl))
 f46:=⟨Tryz.f140.name,by decide,Tryz.func140.trans (congrArg some (by kernel_rfl))⟩
 f47:=Tryz.func141.trans (congrArg some (by kernel_rfl))
 f48:=Tryz.func142.trans (congrArg some (by kernel_rfl))
 f49:=⟨Tryz.f143.name,by decide,Tryz.func143.trans (congrArg some (by kernel_rfl))⟩
 f50:=⟨Tryz.f144.name,by decide,Tryz.func144.trans (congrArg some (by kernel_rfl))⟩
 f57:=⟨Tryz.f147.name,by decide,Tryz.func147.trans (congrArg some (by kernel_rfl))⟩
 t0:=Tryz.underlying0
 a0:=Tryz.isAgg0
 z0:=Tryz.sizeOf0
 v0:=Tryz.zeroValue0
 t3:=Tryz.underlying3
 a3:=Tryz.isAgg3
 z3:=Tryz.sizeOf3
 v3:=Tryz.zeroValue3
 t4:=Tryz.underlying4
 a4:=Tryz.isAgg4
 z4:=Tryz.sizeOf4
 v4:=Tryz.zeroValue4
 t5:=Tryz.underlying5
 a5:=Tryz.isAgg5
 z5:=Tryz.sizeOf5
 v5:=Tryz.zeroValue5
 t9:=Tryz.underlying9
 a9:=Tryz.isAgg9
 z9:=Tryz.sizeOf9
 v9:=Tryz.zeroValue9
 t22:=Tryz.underlying28
 a22:=Tryz.isAgg28
 z22:=Tryz.sizeOf28
 v22:=Tryz.zeroValue28
 a24:=Tryz.isAgg25
 z24:=Tryz.sizeOf25
 t25:=Tryz.underlying108
 a25:=Tryz.isAgg108
 z25:=Tryz.sizeOf108
 v25:=Tryz.zeroValue108
 t39:=Tryz.underlying112
 a39:=Tryz.isAgg112
 z39:=Tryz.sizeOf112
 v39:=Tryz.zeroValue112
 t45:=Tryz.underlying152
 a45:=Tryz.isAgg152
 z45:=Tryz.sizeOf152
 v45:=Tryz.zeroValue152
 t46:=Tryz.underlying153
 a46:=Tryz.isAgg153
 z46:=Tryz.sizeOf153
 v46:=Tryz.zeroValue153
 t50:=Tryz.underlying37
 a50:=Tryz.isAgg37
 z50:=Tryz.sizeOf37
 v50:=Tryz.zeroValue37
 t53:=Tryz.underlying159
 a53:=Tryz.isAgg159
 z53:=Tryz.sizeOf159
 v53:=Tryz.zeroValue159
 t55:=Tryz.underlying161
 a55:=Tryz.isAgg161
 z55:=Tryz.sizeOf161
 v55:=Tryz.zeroValue161
 t66:=Tryz.underlying166
 a66:=Tryz.isAgg166
 z66:=Tryz.sizeOf166
 v66:=Tryz.zeroValue166
 t70:=Tryz.underlying170
 a70:=Tryz.isAgg170
 z70:=Tryz.sizeOf170
 v70:=Tryz.zeroValue170
 t76:=Tryz.underlying172
 a76:=Tryz.isAgg172
 z76:=Tryz.sizeOf172
 v76:=Tryz.zeroValue172
 t77:=Tryz.underlying173
 a77:=Tryz.isAgg173
 z77:=Tryz.sizeOf173
 v77:=Tryz.zeroValue173}
def Tryz.OX:Go.Shelf.Ren:=⟨fun|5=>73|7=>113|n=>n,fun|22=>3|3=>3|4=>4|n=>n,fun|n=>n⟩
theorem Tryz.ZL:Go.Proofs.SlLaysC2.n5 Tryz.prog Tryz.OX:={
 mixed:=by kernel_rfl
 f5:=⟨Tryz.f73.name,by decide,Tryz.func73.trans (congrArg some (by kernel_rfl))⟩
 f7:=⟨Tryz.f113.name,by decide,Tryz.func113.trans (congrArg some (by kernel_rfl))⟩
 t3:=Tryz.underlying3
 a3:=Tryz.isAgg3
 z3:=Tryz.sizeOf3
 v3:=Tryz.zeroValue3
 t4:=Tryz.underlying4
 a4:=Tryz.isAgg4
 z4:=Tryz.sizeOf4
 v4:=Tryz.zeroValue4
 t22:=Tryz.underlying3
 a22:=Tryz.isAgg3
 z22:=Tryz.sizeOf3
 v22:=Tryz.zeroValue3}
open Go.RowKit Go.Lib in
theorem Tryz.BG (p:Option Addr)(cap:Nat)(fv:Value)(w:World):
 Calls Tryz.prog 71 #[.slice p 0 cap,fv] w fun e w'=>e= .returned (.tuple #[])/\w'=w:=AnyF.slices_SortFunc_none (P:=Tryz.prog) (ρ:=Tryz.BF) {Tryz.Ex with} p cap fv w
end Go.Proofs
namespace Go.Proofs.YtnfdimfepbbbpaaGreat
open Go.RowKit Go.Sort Go.Lib Go.Proofs.YtnfdimfepbbbpaaGreat.Deep
theorem OY {S:aL}{w:World}(l:List Int):cw S w (l.map (Value.int .i64)) l:=by
 refine⟨by show _=l.length*1;simp,fun i hi=>?_⟩
 show((l.map (Value.int .i64)).drop (i*1)).take 1=[.int .i64 l[i]]
 rw[Nat.mul_one,List.drop_eq_getElem_cons (by simpa using hi),List.take_succ_cons,List.take_zero]
 simp
theorem Ld {o:Orig}{w:World}{S:aL}{rs:List n0}(H:Fr o w S rs){v:Value}{l:List Int}(hv:Rd (· <w.heap.size) w v l)(hl:l.length<=1000000000):
  Calls Tryz.prog 85 #[v] w fun e w'=> ∃u,e= .returned u/\Fr o w' S (.row 3 u l::rs)/\Below w.heap.size w w':=by
 obtain⟨p,c,rfl,h1,h2,h3⟩:=cq hv
 have ZM:∀(u:Value) (w':World) (xs:List Value),w'.ownsRow w.heap.size 3 1 u l.length xs->xs=l.map (Value.int .i64)->Below w.heap.size w w'->Fr o w' S (.row 3 u l::rs):=by
  intro u w' xs mc Re hb
  refine(H.on hb).put _ ⟨xs,⟨mc.1,?_⟩,by rw[Re];exact OY l⟩ fun b mX=>?_
  .rcases mc.2 with h|⟨g,cap,cur,e1,e2,rest⟩
   .exact .inl h
   exact .inr ⟨g,cap,cur,e1,Nat.zero_le _,rest⟩
  rcases mc.2 with⟨h,_⟩|⟨g,cap,cur,e1,e2,e3,_⟩
  .rw[h] at mX;cases mX
  rw[e1] at mX
  have e9:g=b:=Option.some.inj mX
  have iL:g<w'.heap.size:=(Array.getElem?_eq_some_iff.1 e3).1
  rw[<-e9]
  exact⟨Nat.le_trans H.below.size e2,iL,fun hs=>by have:=H.iI g hs;omega,fun r hr e=>by have:=(H.own r hr g e).2.1;omega⟩
 cases p with
 |none=>
  have:l=[]:=by
   rcases h3 with h|⟨g,off,cur,t,fz,h,_⟩
   .exact h
   cases h
  subst this
  refine(Tryz.slices_Clone_int_nil 0 c w).mono fun e w' ⟨he,hw⟩=>⟨_,he,?_,?_⟩
  .subst hw;exact H.newRow 3
  subst hw;exact Below.refl _ _
 |some a=>
  by_cases hz:l=[]
  .subst hz
   refine(Tryz.slices_Clone_int_zero a c w).mono fun e w' ⟨u,he,mc,_,hb⟩=>⟨u,he,ZM u w' [] mc rfl hb,hb⟩
  rcases h3 with h|⟨g,off,cur,t,fz,h,hg,hw,hc⟩
  .exact absurd h hz
  cases h
  refine(Tryz.slices_Clone_int g off l.length c l w (Nat.le_refl _) (by omega) fun j hj=>?_).mono fun e w' ⟨u,he,mc,_,hb⟩=>⟨u,he,ZM u w' _ mc (by rw[List.take_length]) hb,hb⟩
  obtain⟨cs,hr,hq⟩:=hc j hj
  have hr:cs=[.int .i64 l[j]]:=hr
  have:=hq 0 (show 0<1 by decide)
  rw[hr] at this
  rw[cell_of_row w g _ cur t fz hw]
  have e:off+j*Data.size Int+0=off+j:=by show off+j*1+0=_;omega
  rw[e] at this
  rw[this]
  simp[List.getD_eq_getElem?_getD,List.getElem?_eq_getElem hj]
theorem SH:bG Tryz.prog 85 [(false,.list .int)] [.list .int] (fun x=>(show List Int from x.1).length<=1000000) (fun x=>(show List Int from x.1,())):=by
 intro o vs x hx hd
 match vs,hx with
 |[v],hx=>
  refine(Ld (Fr.start o) (v:=v) (l:=show List Int from x.1) hx.1 (Nat.le_trans hd (by decide))).mono fun e w' ⟨u,he,H,hb⟩=>⟨u,he,?_,hb⟩
  exact H.aaH 0 rfl
def C5:dy Tryz.prog:=plain SH
end Go.Proofs.YtnfdimfepbbbpaaGreat
namespace Go.Proofs.YtnfdimfepbbbpaaGreat
open Go.RowKit Go.Sort Go.Lib Go.Shelf Go.Proofs.YtnfdimfepbbbpaaGreat.Deep
section
variable {α:Type}[Inhabited α]{enc:α->Value}{w:World}{g off n:Nat}{cur:Array Value}{e:TypeId}{os:Array Obj}{d:Array α}
theorem Wd (hb:w.heap[g]?=some (.cells cur e (0,0)))(ht:(cur.toList.drop off).take d.size=d.toList.map enc):Holds enc w g off d:=by
 intro j hj
 refine⟨?_,by simp[World.frozen?,hb]⟩
 have h1:((cur.toList.drop off).take d.size)[j]?=(d.toList.map enc)[j]?:=by rw[ht]
 rw[List.getElem?_take_of_lt hj,List.getElem?_drop] at h1
 simp only[World.cell?,hb]
 simp only[Option.isSome_none,Bool.false_eq_true,if_false]
 rw[<-Array.getElem?_toList,h1]
 simp[hj]
theorem ZN {fr:Nat×Nat}(hb:w.heap[g]?=some (.cells cur e fr)):(sortWorld enc w g off n d os).heap[g]?=some (.cells (putCells enc off d cur) e fr):=by
 have hg:g<w.heap.size:=(Array.getElem?_eq_some_iff.1 hb).1
 unfold sortWorld
 rw[heap_grow_old _ _ (by simpa using hg)]
 simp[putRow,mapBlock,Sort.ahead,Array.getElem?_modify,hb,onCells]
theorem Hs {k:Nat}(hk:k<w.heap.size)(cO:k≠g):(sortWorld enc w g off n d os).heap[k]?=w.heap[k]?:=by
 unfold sortWorld
 rw[heap_grow_old _ _ (by simpa using hk)]
 have:g≠k:=fun e=>cO e.symm
 simp[putRow,mapBlock,Sort.ahead,Array.getElem?_modify,this]
theorem abi:jZ w (sortWorld enc w g off n d os) (fun b=>some g=some b):=
 ⟨rfl,rfl,rfl,by unfold sortWorld;simp,fun k hk hn=>Hs hk fun q=>hn (by rw[q])⟩
theorem ZO (h:off+d.size<=cur.size):((putCells enc off d cur).toList.drop off).take d.size=d.toList.map enc:=by
 apply List.ext_getElem?
 intro j
 by_cases hj:j<d.size
 .rw[List.getElem?_take_of_lt hj,List.getElem?_drop,Array.getElem?_toList]
  simp[putCells,hj,show off+j<cur.size by omega]
 rw[List.getElem?_take_eq_none (by omega),List.getElem?_eq_none (by simp;omega)]
end
def iT (l:List (List Int)):List (List Int):=l.mergeSort fun a b=>decide (a.getD 0 0<=b.getD 0 0)
def ga (l:List (List Int)):Prop:=(∀x∈l,x≠[])/\(l.map fun x=>x.getD 0 0).Nodup
def LX (l:List (List Int))(i:Nat):Int:=(l.getD i []).getD 0 0
def Le (l:List (List Int))(i j:Fin l.length):Int:=Lib.compareInt (LX l i.1) (LX l j.1)
theorem ZP (l:List (List Int))(i j:Fin l.length):ltOf (Le l) i j=decide (LX l i.1<LX l j.1):=by
 unfold ltOf Le Lib.compareInt
 by_cases h1:LX l i.1<LX l j.1
 .simp[h1]
 by_cases h2:LX l j.1<LX l i.1
 .simp[h1,h2]
 simp[h1,h2]
theorem abj (l:List (List Int)):SWO (ltOf (Le l)) where
 irrefl x:=by rw[ZP];simp
 trans x y z h1 h2:=by rw[ZP] at*;simp at*;omega
 ntrans x y z h1 h2:=by rw[ZP] at*;simp at*;omega
theorem rG (l:List (List Int))(i:Fin l.length):LX l i.1=(l[i.1]).getD 0 0:=by
 unfold LX
 rw[List.getD_eq_getElem?_getD (l:=l),List.getElem?_eq_getElem i.2];rfl
theorem abk {l:List (List Int)}(h:ga l)(i j:Fin l.length)(h1:ltOf (Le l) i j=false)(h2:ltOf (Le l) j i=false):i=j:=by
 rw[ZP] at h1 h2
 simp at h1 h2
 have e:LX l i.1=LX l j.1:=by omega
 rw[rG,rG] at e
 have hn:=h.2
 have:=(List.getElem_inj (h₀:=by rw[List.length_map];exact i.2) (h₁:=by rw[List.length_map];exact j.2) hn).1 (by rw[List.getElem_map,List.getElem_map];exact e)
 exact Fin.ext this
theorem SI (l:List (List Int)):((List.finRange l.length).mergeSort fun x y=>!(ltOf (Le l)) y x).map (fun i=>l[i.1])=iT l:=by
 unfold iT
 rw[List.map_mergeSort (s:=fun a b=>decide (a.getD 0 0<=b.getD 0 0))]
 .congr 1
  apply List.ext_getElem (by simp)
  intro k h1 h2
  simp
 intro a _ b _
 rw[ZP,rG,rG]
 generalize (l[b.1]).getD 0 0=x
 generalize (l[a.1]).getD 0 0=y
 by_cases h:x<y
 .rw[decide_eq_true h,decide_eq_false (by omega)];rfl
 rw[decide_eq_false h,decide_eq_true (by omega)];rfl
theorem OZ (g1 o1 n1 c1 g2 o2 n2 c2:Nat)(x y:Int)(W:World)(h1:0<n1)(h2:0<n2)(k1:W.cell? ⟨g1,o1,none⟩=some (.int .i64 x))(k2:W.cell? ⟨g2,o2,none⟩=some (.int .i64 y)):
  Calls Tryz.prog 139 #[.slice (some ⟨g1,o1,none⟩) n1 c1,.slice (some ⟨g2,o2,none⟩) n2 c2] W fun e w'=>e= .returned (.int .i64 (Lib.compareInt x y))/\∃q,w'=W.drewN q:=by
 have y6:=fun W=>AnyG.cmp_Compare_int Tryz.ZL x y W
 change ∀W,Calls Tryz.prog 73 _ _ _ at y6
 generalize Lib.compareInt x y=r at y6 ⊢
 go_enter Tryz.func139,Tryz.ntmps139
 go_wp2
 go_region_with (go_at_call 73;refine(y6 _).mono ?_;rintro e w' ⟨rfl,rfl⟩)
 all_goals (go_wp2;go_ret;exact⟨rfl,1,rfl⟩)
theorem UH {S:aL}{w:World}{v:Value}{a:List Int}(h:iH S w v a)(hn:a≠[]):∃g o n c,v= .slice (some ⟨g,o,none⟩) n c/\0<n/\S g/\w.cell? ⟨g,o,none⟩=some (.int .i64 (a.getD 0 0)):=by
 obtain⟨p,c,rfl,h1,h2,h3⟩:=h
 rcases h3 with h3|⟨g,off,cur,t,fz,rfl,hg,hw,hc⟩
 .exact absurd h3 hn
 have hl:0<a.length:=List.length_pos_iff.2 hn
 obtain⟨cs,hr,hj⟩:=hc 0 hl
 have hr:cs=[.int .i64 a[0]]:=hr
 refine⟨g,off,a.length,c,rfl,hl,hg,?_⟩
 have:=hj 0 (show 0<1 by decide)
 rw[hr] at this
 simp only[World.cell?,hw,Option.isSome_none,Bool.false_eq_true,if_false]
 have e:off+0*Data.size Int+0=off:=by omega
 rw[e] at this
 rw[this,List.getD_eq_getElem?_getD,List.getElem?_eq_getElem hl];rfl
theorem Lg {w w':World}{g o:Nat}(h:w'.heap[g]?=w.heap[g]?):w'.cell? ⟨g,o,none⟩=w.cell? ⟨g,o,none⟩:=by
 simp only[World.cell?,h]
theorem Jb {A:bF}{z:R2}{j:Nat}(hj:j≠0):bw A (aQ (fun _=>none) [(0,some z)]) j=none:=by
 have h:aQ (fun _=>none) [(0,some z)] j=none:=by
  unfold aQ
  exact cS (Ne.symm hj)
 unfold bw
 rw[h];rfl
abbrev abl (cf:FuncId):Prop:=∀(g1 o1 n1 c1 g2 o2 n2 c2:Nat) (x y:Int) (W:World),0<n1->0<n2->W.cell? ⟨g1,o1,none⟩=some (.int .i64 x)->W.cell? ⟨g2,o2,none⟩=some (.int .i64 y)->
 Calls Tryz.prog cf #[.slice (some ⟨g1,o1,none⟩) n1 c1,.slice (some ⟨g2,o2,none⟩) n2 c2] W fun e w'=>e= .returned (.int .i64 (Lib.compareInt x y))/\∃q,w'=W.drewN q
abbrev vh (cf:FuncId):rD:=⟨[.row 25 (.list .int)],[.own 0,.mA cf []],[.row 25 (.list .int)],[],1⟩
theorem E7 {cf:FuncId}(hE:Enters Tryz.prog cf)(hC:abl cf):eO Tryz.prog 71 (vh cf) (fun x=>ga (show List (List Int) from x.1.1)/\(show List (List Int) from x.1.1).length<=1000000) (fun x=>((iT (show List (List Int) from x.1.1),()),())):=by
 intro o A x H _ hd
 obtain⟨⟨l,_⟩,_⟩:=x
 change List (List Int) at l
 change ga l/\l.length<=1000000 at hd
 obtain⟨hd,hl9⟩:=hd
 have h0:bw A (aQ (fun _=>none) (ig 0 (vh cf).sh (l,()))) 0=some (@o5 (El (.list .int)) _ 25 (A.v 0) l):=rfl
 have abm:∀j,j≠0->bw A (aQ (fun _=>none) (ig 0 (vh cf).sh (l,()))) j=none:=fun j hj=>Jb (z:=.row 25 (.list .int) l) hj
 have iY:=fun b hb=>H.own 0 _ b h0 hb
 obtain⟨xs,hh',Kg⟩:=H.ok 0 _ h0
 have hh:gw o.w 25 1 (A.v 0) (List.length (α:=List Int) l) xs:=hh'
 have hR:cw (α:=List Int) o.S o.w xs l:=Kg
 show Calls _ _ #[A.v 0,.func (.func cf) #[] #[]] o.w _
 have qd:∀w',jZ o.w w' (fun b=>(A.v 0).ownBlock=some b)->dg (α:=List Int) o.S w' 25 (A.v 0) (iT l)->K8 o A (vh cf) ((iT l,()),()) (.returned (.tuple #[])) w':=fun w' hg fq=>by
  have H2:=H.mut 0 h0 hg
  have H3:=H2.put 0 (@o5 (El (.list .int)) _ 25 (A.v 0) (iT l)) fq fun b hb=>⟨(iY b hb).1,Nat.lt_of_lt_of_le (iY b hb).2.1 hg.size,(iY b hb).2.2,fun i ri hi hf=>by
   have h5:=((if_neg hi).symm.trans hf).symm.trans (abm i hi)
   cases h5⟩
  refine⟨_,rfl,A,o.S,fun _ _=>⟨rfl,rfl,rfl,rfl⟩,H3.sub fun j r hj=>?_,rfl⟩
  by_cases q:j=0
  .subst q;exact hj
  exact absurd (hj.symm.trans (Jb (z:=.row 25 (.list .int) (iT l)) q)) (by simp)
 have RI:l=[]->dg (α:=List Int) o.S o.w 25 (A.v 0) (iT l):=fun e=>by
  have e2:iT l=l:=by rw[e];simp[iT]
  rw[e2];exact⟨xs,hh',Kg⟩
 rcases hh.2 with⟨hv,hn⟩|⟨g,dd,cap,cur,hv,hg,J4,rQ,cE,kq⟩
 .have e:l=[]:=List.eq_nil_of_length_eq_zero hn
  have hs:Calls Tryz.prog 71 #[A.v 0,.func (.func cf) #[] #[]] o.w (fun e w'=>e= .returned (.tuple #[])/\w'=o.w):=by rw[hv];exact Tryz.BG none 0 _ o.w
  exact hs.mono fun e' w' ⟨he,hw⟩=>by rw[he,hw];exact qd _ (jZ.refl _ _) (RI e)
 by_cases hz:l.length=0
 .have e:l=[]:=List.eq_nil_of_length_eq_zero hz
  have hs:Calls Tryz.prog 71 #[A.v 0,.func (.func cf) #[] #[]] o.w (fun e w'=>e= .returned (.tuple #[])/\w'=o.w):=by rw[hv,hz];exact Tryz.BG _ cap _ o.w
  exact hs.mono fun e' w' ⟨he,hw⟩=>by rw[he,hw];exact qd _ (jZ.refl _ _) (RI e)
 have Rw:xs.length=l.length:=by have:=hh.1;rw[Nat.mul_one] at this;exact this
 haveI:Inhabited (Fin l.length):=⟨⟨0,Nat.pos_of_ne_zero hz⟩⟩
 have Rf:∀i:Fin l.length,iH (α:=Int) o.S o.w (xs[i.1]'(by rw[Rw];exact i.2)) l[i.1]:=fun i=>by
  have h:=hR.2 i.1 i.2
  rw[show Data.size (List Int)=1 from rfl,Nat.mul_one,List.drop_eq_getElem_cons (by rw[Rw];exact i.2),List.take_succ_cons,List.take_zero] at h
  obtain⟨v,hv,hs⟩:=h
  rw[(List.cons.inj hv).1];exact hs
 generalize ZQ:(fun i:Fin l.length=>(xs[i.1]'(by rw[Rw];exact i.2):Value))=enc
 have SJ:∀i:Fin l.length,iH (α:=Int) o.S o.w (enc i) l[i.1]:=fun i=>by rw[<-ZQ];exact Rf i
 have Re:(List.finRange l.length).map enc=xs:=by
  rw[<-ZQ]
  apply List.ext_getElem (by simp[Rw])
  intro k h1 h2
  simp
 have si:(List.finRange l.length).toArray.size=l.length:=by rw[List.size_toArray,List.length_finRange]
 have hgs:g<o.w.heap.size:=(Array.getElem?_eq_some_iff.1 hg).1
 have hSg:∀k,o.S k->k≠g:=fun k hk e=>(iY g (by show(A.v 0).ownBlock=some g;rw[hv];rfl)).2.2 (e▸hk)
 have hH:Holds enc o.w g (dd*1) (List.finRange l.length).toArray:=Wd hg (by rw[si,Re,<-kq,Nat.mul_one l.length])
 have abn:CmpLays1 Tryz.prog cf #[] enc (Le l) g (dd*1) (List.finRange l.length).toArray.size o.w:=fun m os dk hs x y=>by
  obtain⟨g1,o1,n1,c1,e1,p1,s1,k1⟩:=UH (SJ x) (hd.1 _ (List.getElem_mem x.2))
  obtain⟨g2,o2,n2,c2,e2,p2,s2,k2⟩:=UH (SJ y) (hd.1 _ (List.getElem_mem y.2))
  have hk:∀k off,o.S k->(sortWorld enc o.w g (dd*1) m dk os).cell? ⟨k,off,none⟩=o.w.cell? ⟨k,off,none⟩:=fun k off hk=>Lg (Hs (H.iI k hk) (hSg k hk))
  show Calls _ _ #[enc x,enc y] _ _
  rw[e1,e2]
  refine(hC g1 o1 n1 c1 g2 o2 n2 c2 _ _ _ p1 p2 ((hk _ _ s1).trans k1) ((hk _ _ s2).trans k2)).mono fun e w' ⟨he,q,hq⟩=>⟨?_,q,#[],by rw[hq,grow_empty]⟩
  unfold Le
  rw[he,rG,rG]
 have hS:=Any.slices_SortFunc_total Tryz.Ex enc (fun i=>by obtain⟨p,c,e,_⟩:=SJ i;rw[e];rfl) (Le l) (abj l) cf #[] g (dd*1) cap (List.finRange l.length).toArray o.w
  hE abn hH hgs (by rw[si];omega) (abk hd)
 change Calls _ 71 _ _ _ at hS
 rw[si] at hS
 rw[hv]
 refine hS.mono fun e w' ⟨he,n,os,hw⟩=>?_
 have KG:(((List.finRange l.length).mergeSort fun x y=>!(ltOf (Le l)) y x)).length=l.length:=by rw[List.length_mergeSort];simp
 have hsr:(((List.finRange l.length).mergeSort fun x y=>!(ltOf (Le l)) y x)).map (fun i=>l[i.1])=iT l:=SI l
 obtain⟨so,hso⟩:∃so,so=(List.finRange l.length).mergeSort fun x y=>!(ltOf (Le l)) y x:=⟨_,rfl⟩
 change w'=sortWorld enc o.w g (dd*1) n ((List.finRange l.length).mergeSort fun x y=>!(ltOf (Le l)) y x).toArray os at hw
 rw[<-hso] at KG hsr hw
 have Q0:(iT l).length=l.length:=by rw[<-hsr,List.length_map,KG]
 rw[he]
 refine qd w' ?_ ⟨so.map enc,⟨?_,.inr ⟨g,dd,cap,putCells enc (dd*1) so.toArray cur,?_,?_,?_,rQ,?_,?_⟩⟩,?_,?_⟩
 .rw[hw,hv];exact abi
 .rw[List.length_map,KG,Q0];exact(Nat.mul_one _).symm
 .rw[hv,Q0];rfl
 .rw[hw];exact ZN hg
 .rw[Q0];exact J4
 .unfold putCells;rw[Array.size_mapIdx];exact cE
 .have:=ZO (enc:=enc) (off:=dd*1) (d:=so.toArray) (cur:=cur) (by rw[List.size_toArray,KG];omega)
  rw[List.size_toArray,KG] at this
  rw[Q0]
  show((putCells enc (dd*1) so.toArray cur).toList.drop (dd*1)).take (l.length*1)=_
  rw[Nat.mul_one l.length,this]
 .rw[List.length_map,KG,Q0];exact(Nat.mul_one _).symm
 intro i hi
 have LM:i<so.length:=by rw[KG,<-Q0];exact hi
 have hk:cK o.S o.w w':=fun k hk=>by rw[hw];exact Hs (H.iI k hk) (hSg k hk)
 show Data.rd o.S w' (((so.map enc).drop (i*1)).take 1) (iT l)[i]
 rw[Nat.mul_one,List.drop_eq_getElem_cons (by rw[List.length_map];exact LM),List.take_succ_cons,List.take_zero,List.getElem_map]
 have e1:(iT l)[i]=l[(so[i]).1]:=by
  have:=List.getElem_of_eq hsr.symm hi
  rw[this,List.getElem_map]
 rw[e1]
 exact Data.keep hk ⟨_,rfl,SJ _⟩
abbrev SK:rD:=vh 139
theorem We:eO Tryz.prog 71 SK (fun x=>ga (show List (List Int) from x.1.1)/\(show List (List Int) from x.1.1).length<=1000000) (fun x=>((iT (show List (List Int) from x.1.1),()),())):=
 E7 (enters_of Tryz.func139 (by kernel_rfl) rfl) OZ
def Wf:dy Tryz.prog:=oJ We
end Go.Proofs.YtnfdimfepbbbpaaGreat
namespace Go.Proofs.YtnfdimfepbbbpaaGreat
open Go.RowKit
open Go.Proofs.YtnfdimfepbbbpaaGreat.Deep
theorem E8 {r:Option oG}{ds:List Int}{out:List (Int×List Int)}:∀ {k:Nat},k<=ds.length->∃sub:List Int,sub.Sublist (ds.take k)/\(dK r ds out k).2.map (·.1)=out.map (·.1)++sub
 |0,_=>⟨[],List.nil_sublist _,(List.append_nil _).symm⟩
 |k+1,h=>by
  obtain⟨sub,h1,h2⟩:=E8 (r:=r) (ds:=ds) (out:=out) (k:=k) (by omega)
  have ht:ds.take (k+1)=ds.take k++[ds.getD k 0]:=bU (by omega) 0
  show ∃sub:List Int,_/\(jv r (dK r ds out k) (ds.getD k 0)).2.map (·.1)=_
  unfold jv
  split
  .refine⟨sub++[ds.getD k 0],by rw[ht];exact h1.append (List.Sublist.refl _),?_⟩
   rw[List.map_append,h2,List.append_assoc];rfl
  exact⟨sub,by rw[ht];exact h1.trans (List.sublist_append_left _ _),h2⟩
theorem Jc {V:List Int}{T:List (List Int)}(hV:V.Nodup):∀ {k:Nat},k<=V.length->((sK V T k).map (·.1)).Nodup/\∀x∈(sK V T k).map (·.1),∃j,j<k/\x= -1-V.getD (V.length-1-j) 0
 |0,_=>⟨List.nodup_nil,fun x hx=>by cases hx⟩
 |k+1,h=>by
  obtain⟨h1,h2⟩:=Jc (T:=T) hV (k:=k) (by omega)
  unfold sK
  split
  .rw[List.map_append]
   refine⟨List.nodup_append.2 ⟨h1,by simp,fun a ha b hb=>?_⟩,fun x hx=>?_⟩
   .obtain⟨j,hj,e⟩:=h2 a ha
    rw[List.map_cons,List.map_nil,List.mem_singleton] at hb
    intro q
    rw[e,hb] at q
    have:=dW (z:=0) hV (show V.length-1-j<V.length by omega) (show V.length-1-k<V.length by omega) (by omega)
    omega
   rcases List.mem_append.1 hx with q|q
   .obtain⟨j,hj,e⟩:=h2 x q;exact⟨j,by omega,e⟩
   rw[List.map_cons,List.map_nil,List.mem_singleton] at q;exact⟨k,Nat.lt_succ_self _,q⟩
  exact⟨h1,fun x hx=>let⟨j,hj,e⟩:=h2 x hx;⟨j,by omega,e⟩⟩
theorem qx {n:Int}{E:List (Int×Int)}{V L:List Int}{T:List (List Int)}(h:(aa n E V L T).2=0):((aa n E V L T).1.map (·.1)).Nodup:=by
 have hw:=h
 rw[fm] at h
 obtain⟨hp,hT,hr⟩:=lD h
 obtain⟨sj,hV,hL,_⟩:=aJ hp
 have Q1:=gq (aA.1 hV).1
 have KZ:=gq (aA.1 hL).1
 rw[nA h]
 obtain⟨sub,h1,h2⟩:=E8 (r:=(eD n E V L T).1) (ds:=b8 L L.length) (out:=sK V T V.length) (Nat.le_refl _)
 show(((dK _ _ _ _).2).map (·.1)).Nodup
 rw[h2]
 obtain⟨l1,l2⟩:=Jc (T:=T) Q1 (Nat.le_refl V.length)
 refine List.nodup_append.2 ⟨l1,?_,fun a ha b hb q=>?_⟩
 .rw[List.take_length] at h1
  exact(rz KZ (Nat.le_refl _)).sublist h1
 obtain⟨j,hj,e⟩:=l2 a ha
 have Mm:=(aN b).1 (List.mem_of_mem_take (h1.subset hb))
 have v0:=(aA.1 hV).2 _ (ag (l:=V) (i:=V.length-1-j) (d:=0) (by omega))
 have b0:=(aA.1 hL).2 _ Mm
 omega
def dG (R:List (List Int)):Nat->List (Int×Int)
 |0=>[]
 |k+1=>qo (dG R k) (R.getD k []) (k:Int) (R.getD k []).length
theorem vj {R:List (List Int)}{i:Int}(h:0<=i):dG R (i+1).toNat=qo (dG R i.toNat) (R.getD i.toNat []) i (R.getD i.toNat []).length:=by
 rw[show(i+1).toNat=i.toNat+1 by omega]
 show qo _ _ ((i.toNat:Nat):Int) _=_
 rw[Int.toNat_of_nonneg h]
theorem tZ {R:List (List Int)}{N:Nat}(hR:∀k,(R.getD k []).length<=N):∀k,(dG R k).length<=k*N
 |0=>by simp[dG]
 |k+1=>by
  have h:=tZ hR k
  have h1:=ic (m:=dG R k) (vs:=R.getD k []) (c:=(k:Int)) (R.getD k []).length
  have h2:=hR k
  show(qo _ _ _ _).length<=_
  rw[Nat.succ_mul];omega
theorem rH {R:List (List Int)}:∀ {k:Nat},k<=R.length->∀x,(af (dG R k) x).isSome=true↔∃j,j<k/\x∈R.getD j []
 |0,_,x=>⟨fun h=>(by cases h),fun⟨j,h,_⟩=>(by omega)⟩
 |k+1,h,x=>by
  show(af (qo _ _ _ _) x).isSome=true↔_
  rw[lH (Nat.le_refl _),List.take_length]
  by_cases q:x∈R.getD k []
  .rw[if_pos q];exact⟨fun _=>⟨k,Nat.lt_succ_self _,q⟩,fun _=>rfl⟩
  rw[if_neg q,rH (k:=k) (by omega)]
  exact⟨fun⟨j,h1,h2⟩=>⟨j,by omega,h2⟩,fun⟨j,h1,h2⟩=>⟨j,by
   rcases Nat.lt_succ_iff_lt_or_eq.1 h1 with z|z
   .exact z
   subst z;exact absurd h2 q,h2⟩⟩
def Aj (m:List (Int×Int))(W:List (Int×List Int)):Nat->List (List Int)
 |0=>[]
 |k+1=>if(af m (W.getD k (0,[])).1).isSome=true then Aj m W k else Aj m W k++[[(W.getD k (0,[])).1]]
def Ak (W:List (Int×List Int))(S:List (List Int)):List (List Int):=S++Aj (dG S S.length) W W.length
def aV (n:Int)(E:List (Int×Int))(V L:List Int)(T S:List (List Int)):List (List Int):=if aM n E V L T S≠0 then[] else iT (Ak (aa n E V L T).1 S)
theorem xk {m:List (Int×Int)}{W:List (Int×List Int)}:∀k,(Aj m W k).length<=k
 |0=>Nat.le_refl _
 |k+1=>by
  have:=xk (m:=m) (W:=W) k
  unfold Aj
  split
  .omega
  rw[List.length_append];simp;omega
theorem SL {m:List (Int×Int)}{W:List (Int×List Int)}{i:Int}(h0:0<=i)(h:(af m (W.getD i.toNat (0,[])).1).isSome=true):Aj m W (i+1).toNat=Aj m W i.toNat:=by
 rw[show(i+1).toNat=i.toNat+1 by omega];exact if_pos h
theorem Wg {m:List (Int×Int)}{W:List (Int×List Int)}{i:Int}(h0:0<=i)(h:(af m (W.getD i.toNat (0,[])).1).isSome=false):Aj m W (i+1).toNat=Aj m W i.toNat++[[(W.getD i.toNat (0,[])).1]]:=by
 rw[show(i+1).toNat=i.toNat+1 by omega];exact if_neg (by rw[h];decide)
theorem ua {m:List (Int×Int)}{W:List (Int×List Int)}:∀ {k:Nat},k<=W.length->∃sub:List Int,sub.Sublist ((W.take k).map (·.1))/\Aj m W k=sub.map (fun x=>[x])/\∀x∈sub,(af m x).isSome=false
 |0,_=>⟨[],List.nil_sublist _,rfl,fun x hx=>by cases hx⟩
 |k+1,h=>by
  obtain⟨sub,h1,h2,h3⟩:=ua (m:=m) (W:=W) (k:=k) (by omega)
  have ht:W.take (k+1)=W.take k++[W.getD k (0,[])]:=bU (by omega) _
  unfold Aj
  split
  .exact⟨sub,by rw[ht,List.map_append];exact h1.trans (List.sublist_append_left _ _),h2,h3⟩
  rename_i q
  refine⟨sub++[(W.getD k (0,[])).1],by rw[ht,List.map_append];exact h1.append (List.Sublist.refl _),by rw[h2,List.map_append];rfl,fun x hx=>?_⟩
  rcases List.mem_append.1 hx with z|z
  .exact h3 x z
  rw[List.mem_singleton.1 z];simpa using q
theorem sP {ow:List (Int×Int)}{S:List (List Int)}{N:Nat}:∀ {i:Nat} {z:S4×List (Int×Int)},jc ow S N i=some z->∀j,0<j->j<i->(S.getD (j-1) []).getD 0 0<(S.getD j []).getD 0 0
 |0,z,_,j,_,hj=>by omega
 |i+1,z,h,j,h0,hj=>by
  have h:(jc ow S N i).bind (fun s=>mq ow S s i)=some z:=h
  cases hq:jc ow S N i with
  |none=>rw[hq] at h;cases h
  |some y=>
   by_cases e:j=i
   .subst e
    rw[hq] at h
    have h:mq ow S y j=some z:=h
    unfold mq at h
    split at h
    .cases h
    rename_i q
    exact Int.lt_of_not_ge fun z=>q (.inr ⟨h0,z⟩)
   exact sP hq j h0 (by omega)
theorem xl {f:Nat->Int}{N:Nat}(h:∀j,0<j->j<N->f (j-1)<f j):∀ {i j:Nat},i<j->j<N->f i<f j
 |i,0,hi,_=>by omega
 |i,j+1,hi,hj=>by
  have h1:=h (j+1) (by omega) hj
  rw[Nat.add_sub_cancel] at h1
  rcases Nat.lt_succ_iff_lt_or_eq.1 hi with z|z
  .exact Int.lt_trans (xl h z (by omega)) h1
  subst z;exact h1
theorem aX {n:Int}{E:List (Int×Int)}{V L:List Int}{T S:List (List Int)}(h:aM n E V L T S=0):iD n E V L T=0/\∃s,jc (bP E (ay n E V L) (aa n E V L T).1 (aa n E V L T).1.length) S (ay n E V L).length S.length=some s/\s.1.2.2.2<=1:=by
 by_cases hf:iD n E V L T=0
 .refine⟨hf,?_⟩
  cases hq:jc (bP E (ay n E V L) (aa n E V L T).1 (aa n E V L T).1.length) S (ay n E V L).length S.length with
  |none=>rw[iS hf hq] at h;cases h
  |some s=>
   refine⟨s,rfl,?_⟩
   rw[sO hf hq] at h
   split at h
   .cases h
   omega
 rw[yY hf] at h;exact absurd h hf
theorem rI {n:Int}{E:List (Int×Int)}{V L:List Int}{T S:List (List Int)}(h:aM n E V L T S=0):ga (Ak (aa n E V L T).1 S):=by
 obtain⟨hf,s,hs,_⟩:=aX h
 have hw:=aK hf
 have hk:=qx hw
 have h2:=qw hs
 have hr:=sP hs
 obtain⟨sub,b1,b2,b3⟩:=ua (m:=dG S S.length) (W:=(aa n E V L T).1) (Nat.le_refl _)
 have hlen:∀x∈S,x≠[]:=fun x hx e=>by
  obtain⟨j,hj,e2⟩:=aB (z:=([]:List Int)).1 hx
  have:=h2 j hj
  rw[e2,e] at this
  exact absurd this (by decide)
 unfold Ak
 rw[b2]
 refine⟨fun x hx=>?_,?_⟩
 .rcases List.mem_append.1 hx with q|q
  .exact hlen x q
  obtain⟨y,_,rfl⟩:=List.mem_map.1 q;simp
 rw[List.map_append]
 refine List.nodup_append.2 ⟨?_,?_,fun a ha b hb q=>?_⟩
 .rw[List.nodup_iff_pairwise_ne,List.pairwise_iff_getElem]
  intro i j hi hj wD
  rw[List.length_map] at hi hj
  rw[List.getElem_map,List.getElem_map]
  have:=xl (f:=fun j=>(S.getD j []).getD 0 0) (N:=S.length) hr wD hj
  change (S.getD i []).getD 0 0<(S.getD j []).getD 0 0 at this
  rw[List.getD_eq_getElem?_getD (l:=S),List.getElem?_eq_getElem hi,List.getD_eq_getElem?_getD (l:=S),List.getElem?_eq_getElem hj] at this
  exact Int.ne_of_lt this
 .rw[List.map_map]
  have e:(fun x:List Int=>x.getD 0 0)∘(fun x:Int=>[x])=id:=rfl
  rw[e,List.map_id]
  rw[List.take_length] at b1
  exact hk.sublist b1
 obtain⟨x,hx,rfl⟩:=List.mem_map.1 ha
 obtain⟨y,hy,rfl⟩:=List.mem_map.1 hb
 obtain⟨z,hz,rfl⟩:=List.mem_map.1 hy
 have hn:=b3 z hz
 have q:x.getD 0 0=z:=q
 obtain⟨j,hj,e2⟩:=aB (z:=([]:List Int)).1 hx
 have eS:z∈x:=by
  rw[<-q]
  exact ag (by have:=hlen x hx;exact List.length_pos_iff.2 this)
 have:=(rH (Nat.le_refl S.length) z).2 ⟨j,hj,by rw[e2];exact eS⟩
 rw[hn] at this;cases this
theorem E9 {n:Int}{E:List (Int×Int)}{V L:List Int}{T S:List (List Int)}(h:aM n E V L T S≠0):aV n E V L T S=[]:=if_pos h
theorem jN {n:Int}{E:List (Int×Int)}{V L:List Int}{T S:List (List Int)}(h:aM n E V L T S=0):aV n E V L T S=iT (Ak (aa n E V L T).1 S):=if_neg (by rw[h];exact fun q=>q rfl)
end Go.Proofs.YtnfdimfepbbbpaaGreat
namespace Go.Proofs.YtnfdimfepbbbpaaGreat
open Go.RowKit
open Go.Proofs.YtnfdimfepbbbpaaGreat.Deep
theorem Fa {r:Option oG}{L:List Int}:∀ {k:Nat} {m:List (Int×Int)} {x:Int} {acc:List Int},(∀y,(af m y).isSome=true->ak L y)->ak L x->(∀y∈acc,ak L y)->
  (∀y∈(jl r k m x acc).2,ak L y)/\(∀y,(af (jl r k m x acc).1 y).isSome=true->ak L y)/\(jl r k m x acc).2.length<=acc.length+k/\(jl r k m x acc).1.length<=m.length
 |0,m,x,acc,hm,hx,ha=>⟨ha,hm,Nat.le_refl _,Nat.le_refl _⟩
 |k+1,m,x,acc,hm,hx,ha=>by
  have IZ:∀y∈acc++[x],ak L y:=fun y hy=>(List.mem_append.1 hy).elim (ha y) fun q=>by rw[List.mem_singleton.1 q];exact hx
  have hd:=Mj (k:=.int) m x
  have hl:(acc++[x]).length=acc.length+1:=by simp
  unfold jl
  split
  .rename_i q
   obtain⟨h1,h2,h3,h4⟩:=Fa (r:=r) (k:=k) (wV hm x) (wV hm x _ q) IZ
   exact⟨h1,h2,by omega,Nat.le_trans h4 hd⟩
  exact⟨IZ,wV hm x,by show(acc++[x]).length<=_;omega,hd⟩
theorem BH {r:Option oG}{L ds:List Int}{out:List (Int×List Int)}(si:∀d∈ds,ak L d)(ho:∀w∈out,(∀d∈w.2,ak L d)/\w.2.length<=ds.length):∀ {k:Nat},k<=ds.length->
  (∀y,(af (dK r ds out k).1 y).isSome=true->ak L y)/\(dK r ds out k).1.length<=ds.length/\∀w∈(dK r ds out k).2,(∀d∈w.2,ak L d)/\w.2.length<=ds.length
 |0,_=>⟨fun y hy=>si y (by have:=(wU (Nat.le_refl _) y).1 hy;rwa[List.take_length] at this),CT ds _,ho⟩
 |k+1,h=>by
  obtain⟨h1,h2,h3⟩:=BH (r:=r) si ho (k:=k) (by omega)
  show(∀y,(af (jv r (dK r ds out k) (ds.getD k 0)).1 y).isSome=true->_)/\_
  show _/\(jv r (dK r ds out k) (ds.getD k 0)).1.length<=_/\∀w∈(jv r (dK r ds out k) (ds.getD k 0)).2,_
  unfold jv
  split
  .obtain⟨o1,o2,o3,o4⟩:=Fa (r:=r) (k:=(dK r ds out k).1.length) (acc:=[]) h1 (si _ (ag (l:=ds) (i:=k) (d:=0) (by omega))) (fun y hy=>by cases hy)
   refine⟨o2,by show(jl _ _ _ _ _).1.length<=_;omega,fun w hw=>?_⟩
   rcases List.mem_append.1 hw with q|q
   .exact h3 w q
   rw[List.mem_singleton.1 q]
   refine⟨o1,?_⟩
   have o3:(jl r (dK r ds out k).1.length (dK r ds out k).1 (ds.getD k 0) []).2.length<=0+(dK r ds out k).1.length:=o3
   show(jl _ _ _ _ _).2.length<=_
   omega
  exact⟨h1,h2,h3⟩
theorem fS {n:Int}{E:List (Int×Int)}{V L:List Int}{T:List (List Int)}(h:(aa n E V L T).2=0):∀w∈(aa n E V L T).1,(∀d∈w.2,ak L d)/\w.2.length<=2*L.length:=by
 rw[fm] at h
 rw[nA h]
 have:=(BH (r:=(eD n E V L T).1) (ds:=b8 L L.length) (out:=sK V T V.length) (fun d hd=>(aN d).1 hd) (fun w hw=>by
  have e:=List.eq_nil_of_length_eq_zero (mJ (Nat.le_refl _) w hw).1
  rw[e];exact⟨fun d hd=>(by cases hd),Nat.zero_le _⟩) (Nat.le_refl _)).2.2
 intro w hw
 have h2:=this w hw
 refine⟨h2.1,?_⟩
 have h3:=h2.2
 rwa[ru] at h3
theorem rJ {l:List (List Int)}{x:List Int}:x∈iT l↔x∈l:=(List.mergeSort_perm l _).mem_iff
theorem Jd (l:List (List Int)):(iT l).length=l.length:=List.length_mergeSort _
theorem O0 {W:List (Int×List Int)}{S:List (List Int)}{x:List Int}(h:x∈Ak W S):x∈S\/∃w∈W,x=[w.1]:=by
 rcases List.mem_append.1 h with q|q
 .exact .inl q
 obtain⟨sub,b1,b2,_⟩:=ua (m:=dG S S.length) (W:=W) (Nat.le_refl _)
 rw[b2] at q
 obtain⟨y,hy,rfl⟩:=List.mem_map.1 q
 have:=b1.subset hy
 rw[List.take_length] at this
 obtain⟨w,hw,rfl⟩:=List.mem_map.1 this
 exact .inr ⟨w,hw,rfl⟩
theorem rK {n:Int}{E:List (Int×Int)}{V L:List Int}{T S:List (List Int)}(h:aM n E V L T S=0){x:List Int}(hx:x∈aV n E V L T S):x∈S\/∃w∈(aa n E V L T).1,x=[w.1]:=by
 rw[jN h] at hx
 exact O0 (rJ.1 hx)
theorem C6 {n:Int}{E:List (Int×Int)}{V L:List Int}{T S:List (List Int)}(h:aM n E V L T S=0):(aV n E V L T S).length<=S.length+(aa n E V L T).1.length:=by
 rw[jN h,Jd]
 unfold Ak
 rw[List.length_append]
 have:=xk (m:=dG S S.length) (W:=(aa n E V L T).1) (aa n E V L T).1.length
 omega
def Lh (num m:List (Int×Int))(w:Int×List Int):List (Int×Int):=
 if w.2.length=0 then b9 (qo m w.2 ((af num w.1).getD 0) w.2.length) w.1 ((af num w.1).getD 0) else qo m w.2 ((af num w.1).getD 0) w.2.length
def xm (num:List (Int×Int))(W:List (Int×List Int)):Nat->List (Int×Int)
 |0=>[]
 |k+1=>Lh num (xm num W k) (W.getD k (0,[]))
def aq (n:Int)(E:List (Int×Int))(V L:List Int)(T S:List (List Int)):List (Int×Int):=
 if aM n E V L T S=0 then xm (dG (aV n E V L T S) (aV n E V L T S).length) (aa n E V L T).1 (aa n E V L T).1.length else[]
theorem uc {num:List (Int×Int)}{W:List (Int×List Int)}{i:Int}(h:0<=i):xm num W (i+1).toNat=Lh num (xm num W i.toNat) (W.getD i.toNat (0,[])):=by
 rw[show(i+1).toNat=i.toNat+1 by omega];rfl
theorem xo {num:List (Int×Int)}{W:List (Int×List Int)}{N:Nat}(hN:∀k,(W.getD k (0,[])).2.length<=N):∀k,(xm num W k).length<=k*(N+1)
 |0=>by simp[xm]
 |k+1=>by
  have h:=xo (num:=num) hN k
  have h2:=hN k
  have h1:=ic (m:=xm num W k) (vs:=(W.getD k (0,[])).2) (c:=(af num (W.getD k (0,[])).1).getD 0) (W.getD k (0,[])).2.length
  show(Lh _ _ _).length<=_
  rw[Nat.succ_mul]
  unfold Lh
  split
  .have:=cQ (qo (xm num W k) (W.getD k (0,[])).2 ((af num (W.getD k (0,[])).1).getD 0) (W.getD k (0,[])).2.length) (W.getD k (0,[])).1 ((af num (W.getD k (0,[])).1).getD 0)
   omega
  omega
theorem nJ {n:Int}{E:List (Int×Int)}{V L:List Int}{T S:List (List Int)}(h:aM n E V L T S=0):aq n E V L T S=xm (dG (aV n E V L T S) (aV n E V L T S).length) (aa n E V L T).1 (aa n E V L T).1.length:=if_pos h
theorem nK {n:Int}{E:List (Int×Int)}{V L:List Int}{T S:List (List Int)}(h:¬aM n E V L T S=0):aq n E V L T S=[]:=if_neg h
theorem UI {num m:List (Int×Int)}{w:Int×List Int}(h:w.2.length=0):Lh num m w=b9 (qo m w.2 ((af num w.1).getD 0) w.2.length) w.1 ((af num w.1).getD 0):=if_pos h
theorem UJ {num m:List (Int×Int)}{w:Int×List Int}(h:¬w.2.length=0):Lh num m w=qo m w.2 ((af num w.1).getD 0) w.2.length:=if_neg h
theorem Je {α:Type}{R:List (List α)}{N:Nat}(h:∀l∈R,l.length<=N)(k:Nat):(R.getD k []).length<=N:=by
 rw[List.getD_eq_getElem?_getD]
 cases hq:R[k]? with
 |none=>exact Nat.zero_le _
 |some z=>exact h _ (List.mem_of_getElem? hq)
theorem qy {W:List (Int×List Int)}{N:Nat}(h:∀w∈W,w.2.length<=N)(k:Nat):(W.getD k (0,[])).2.length<=N:=by
 rw[List.getD_eq_getElem?_getD]
 cases hq:W[k]? with
 |none=>exact Nat.zero_le _
 |some z=>exact h _ (List.mem_of_getElem? hq)
end Go.Proofs.YtnfdimfepbbbpaaGreat
namespace Go.Proofs.YtnfdimfepbbbpaaGreat
open Go.RowKit
open Go.Proofs.YtnfdimfepbbbpaaGreat.Deep
def vl {α:Type}(m:List (Int×α)):Prop:=m.Pairwise fun p q=>p.1<q.1
theorem ud {α:Type}:vl ([]:List (Int×α)):=List.Pairwise.nil
theorem Jf {α:Type}{x:Int}{v:α}:∀ {m:List (Int×α)},vl m->(∀q∈m,q.1≠x)->vl (lV (k:=.int) (x,v) m)
 |[],_,_=>List.pairwise_singleton _ _
 |p::m,h,hn=>by
  have hp:=List.pairwise_cons.1 h
  have h1:=hn p List.mem_cons_self
  show vl (if ilt x p.1=true then(x,v)::p::m else p::lV (k:=.int) (x,v) m)
  split
  .rename_i q
   have q:x<p.1:=of_decide_eq_true (show decide (x<p.1)=true from q)
   refine List.pairwise_cons.2 ⟨fun y hy=>?_,h⟩
   rcases List.mem_cons.1 hy with rfl|hy
   .exact q
   have:=hp.1 y hy
   exact Int.lt_trans q this
  rename_i q
  have q:¬x<p.1:=fun z=>q (show decide (x<p.1)=true from decide_eq_true z)
  refine List.pairwise_cons.2 ⟨fun y hy=>?_,Jf hp.2 fun y hy=>hn y (List.mem_cons_of_mem _ hy)⟩
  rcases(xG (k:=.int)).1 hy with rfl|hy
  .show p.1<x
   omega
  exact hp.1 y hy
theorem sQ {α:Type}{m:List (Int×α)}(h:vl m)(x:Int)(v:α):vl (b9 m x v):=by
 show vl (lV (k:=.int) (x,v) (lU (k:=.int) m x))
 refine Jf (h.sublist List.filter_sublist) fun q hq=>?_
 have h2:(!decide (q.1=x))=true:=(List.mem_filter.1 hq).2
 intro e
 have h3:(!decide (q.1=x))=false:=by rw[e];simp
 rw[h3] at h2;cases h2
theorem kK {α:Type}{p:Int×α}{m:List (Int×α)}(x:Int):af (p::m) x=if p.1=x then some p.2 else af m x:=by
 show((p::m).find? fun q=>decide (q.1=x)).map (·.2)=_
 rw[List.find?_cons]
 by_cases q:p.1=x
 .rw[if_pos q,decide_eq_true q];rfl
 rw[if_neg q,decide_eq_false q];rfl
theorem xq {α:Type}{p:Int×α}{m:List (Int×α)}(h:vl (p::m)){x:Int}(hx:x<=p.1):af m x=none:=by
 rw[mZ]
 intro v hv
 have:p.1<x:=(List.pairwise_cons.1 h).1 (x,v) hv
 omega
theorem Jg {α:Type}:∀ {a b:List (Int×α)},vl a->vl b->(∀x,af a x=af b x)->a=b
 |[],[],_,_,_=>rfl
 |[],q::b,_,_,h=>by have:=h q.1;rw[kK,if_pos rfl] at this;cases this
 |p::a,[],_,_,h=>by have:=h p.1;rw[kK,if_pos rfl] at this;cases this
 |p::a,q::b,ha,hb,h=>by
  have h1:=h p.1
  rw[kK,kK,if_pos rfl] at h1
  have h2:=h q.1
  rw[kK,kK,if_pos rfl] at h2
  have e:p.1=q.1:=by
   rcases Int.lt_trichotomy p.1 q.1 with z|z|z
   .rw[if_neg (by omega),xq hb (by omega)] at h1;cases h1
   .exact z
   rw[if_neg (by omega),xq ha (by omega)] at h2;cases h2
  rw[if_pos e.symm] at h1
  have e2:p=q:=Prod.ext e (Option.some.inj h1)
  subst e2
  rw[Jg (List.pairwise_cons.1 ha).2 (List.pairwise_cons.1 hb).2 fun x=>?_]
  have h3:=h x
  rw[kK,kK] at h3
  by_cases z:p.1=x
  .rw[xq ha (by omega),xq hb (by omega)]
  rwa[if_neg z,if_neg z] at h3
theorem SM {α β:Type}{m:List (Int×α)}(h:vl m)(f:α->β):vl (m.map fun q=>(q.1,f q.2)):=List.pairwise_map.2 h
theorem O1 {α β:Type}(m:List (Int×α))(f:α->β)(x:Int):af (m.map fun q=>(q.1,f q.2)) x=(af m x).map f:=e7 (k:=.int) f m x
theorem C7 {m:List (Int×Int)}{vs:List Int}{c:Int}(h:vl m):∀k,vl (qo m vs c k)
 |0=>h
 |k+1=>sQ (C7 h k) _ _
theorem C8 {num:List (Int×Int)}{W:List (Int×List Int)}:∀k,vl (xm num W k)
 |0=>ud
 |k+1=>by
  show vl (Lh _ _ _)
  unfold Lh
  split
  .exact sQ (C7 (C8 k) _) _ _
  exact C7 (C8 k) _
theorem Fb {n:Int}{E:List (Int×Int)}{V L:List Int}{T S:List (List Int)}:vl (aq n E V L T S):=by
 unfold aq
 split
 .exact C8 _
 exact ud
theorem O3 {α:Type}{m:List (Int×α)}(h:vl m):KN m:=by
 unfold KN
 rw[List.nodup_iff_pairwise_ne,List.pairwise_map]
 exact h.imp fun q=>Int.ne_of_lt q
def BI (ds:List Int):Nat->List (Int×Int)
 |0=>[]
 |k+1=>b9 (BI ds k) (ds.getD k 0/2) (k:Int)
def jF (left on:List (Int×Int))(L:List Int):Nat->S4
 |0=>([],[],[],0)
 |k+1=>if(af on (L.getD k 0)).isSome=true then jF left on L k else Bz (jF left on L k) ((af left (2*L.getD k 0)).getD 0) ((af left (2*L.getD k 0+1)).getD 0)
def Li (left:List (Int×Int))(ds:List Int)(s:S4):Nat->S4
 |0=>s
 |k+1=>cI (cI (Li left ds s k) ((af left (ds.getD k 0)).getD 0)) ((af left (an (ds.getD k 0))).getD 0)
def dF (left:List (Int×Int))(L ds:List Int):S4:=Li left ds (jF left (BI ds ds.length) L L.length) ds.length
def Jh (s:S4)(head r:Int):Int:=if r=head\/Ho s r head=true then 1 else 2
def eZ (n:Int)(E:List (Int×Int))(V L:List Int)(T S:List (List Int))(ds:List Int):List (Int×Int):=
 if mu n E V L ds=true/\aM n E V L T S=0 then(aq n E V L T S).map fun q=>(q.1,Jh (dF (aq n E V L T S) L ds) ((af (aq n E V L T S) (ds.getD 0 0)).getD 0) q.2) else[]
theorem O4 {ds:List Int}{i:Int}(h:0<=i):BI ds (i+1).toNat=b9 (BI ds i.toNat) (ds.getD i.toNat 0/2) i:=by
 rw[show(i+1).toNat=i.toNat+1 by omega]
 show b9 _ _ ((i.toNat:Nat):Int)=_
 rw[Int.toNat_of_nonneg h]
theorem Ji (ds:List Int):∀k,(BI ds k).length<=k
 |0=>Nat.le_refl _
 |k+1=>by
  have:=Ji ds k
  have:=cQ (BI ds k) (ds.getD k 0/2) (k:Int)
  show(b9 _ _ _).length<=_
  omega
theorem Wh {left on:List (Int×Int)}{L:List Int}{i:Int}(h0:0<=i)(h:(af on (L.getD i.toNat 0)).isSome=true):jF left on L (i+1).toNat=jF left on L i.toNat:=by
 rw[show(i+1).toNat=i.toNat+1 by omega];exact if_pos h
theorem ZR {left on:List (Int×Int)}{L:List Int}{i:Int}(h0:0<=i)(h:(af on (L.getD i.toNat 0)).isSome=false):jF left on L (i+1).toNat=Bz (jF left on L i.toNat) ((af left (2*L.getD i.toNat 0)).getD 0) ((af left (2*L.getD i.toNat 0+1)).getD 0):=by
 rw[show(i+1).toNat=i.toNat+1 by omega];exact if_neg (by rw[h];decide)
theorem O5 {left:List (Int×Int)}{ds:List Int}{s:S4}{i:Int}(h:0<=i):Li left ds s (i+1).toNat=cI (cI (Li left ds s i.toNat) ((af left (ds.getD i.toNat 0)).getD 0)) ((af left (an (ds.getD i.toNat 0))).getD 0):=by
 rw[show(i+1).toNat=i.toNat+1 by omega];rfl
theorem Wi {s:S4}{x y:Int}:(Bz s x y).2.1.length<=s.2.1.length+2:=by
 have h1:=qu s.1 s.2.1 x
 have h2:=qu (bD s.1 s.2.1 x) (bT s.1 s.2.1 x) y
 show(LQ s.1 s.2.1 x y).length<=_
 unfold LQ
 omega
theorem BJ {left on:List (Int×Int)}{L:List Int}:∀k,lM (jF left on L k)/\(jF left on L k).2.1.length<=2*k
 |0=>⟨lM.nil,Nat.le_refl _⟩
 |k+1=>by
  obtain⟨h1,h2⟩:=BJ (left:=left) (on:=on) (L:=L) k
  unfold jF
  split
  .exact⟨h1,by omega⟩
  exact⟨(h1.jn _ _).1,by have:=Wi (s:=jF left on L k) (x:=(af left (2*L.getD k 0)).getD 0) (y:=(af left (2*L.getD k 0+1)).getD 0);omega⟩
theorem C9 {s:S4}{x:Int}:(cI s x).2.1.length<=s.2.1.length+1:=(qu s.1 s.2.1 x).2
theorem Da {left:List (Int×Int)}{ds:List Int}{s:S4}(h:lM s):∀k,lM (Li left ds s k)/\(Li left ds s k).2.1.length<=s.2.1.length+2*k
 |0=>⟨h,Nat.le_refl _⟩
 |k+1=>by
  obtain⟨h1,h2⟩:=Da (left:=left) (ds:=ds) h k
  have a1:=C9 (s:=Li left ds s k) (x:=(af left (ds.getD k 0)).getD 0)
  have a2:=C9 (s:=cI (Li left ds s k) ((af left (ds.getD k 0)).getD 0)) (x:=(af left (an (ds.getD k 0))).getD 0)
  exact⟨((h1.add _).1.add _).1,by show(cI _ _).2.1.length<=_;omega⟩
theorem Jj (left:List (Int×Int))(L ds:List Int):lM (dF left L ds)/\(dF left L ds).2.1.length<=2*L.length+2*ds.length:=by
 obtain⟨h1,h2⟩:=BJ (left:=left) (on:=BI ds ds.length) (L:=L) L.length
 obtain⟨h3,h4⟩:=Da (left:=left) (ds:=ds) h1 ds.length
 exact⟨h3,by show(Li _ _ _ _).2.1.length<=_;omega⟩
structure O6 (left:List (Int×Int))(s0:S4)(head:Int)(lf:Int->Bool)(cnt:Nat)(s:S4)(out:List (Int×Int)):Prop where
 ok:lM s
 rl:∀a b,Rl s a b↔Rl s0 a b
 len:s.2.1.length=s0.2.1.length
 rs:vl out
 out:∀x,af out x=if lf x=true then none else(af left x).map (Jh s0 head)
section
variable {left:List (Int×Int)}{s0 s:S4}{head:Int}{lf:Int->Bool}{cnt:Nat}{out:List (Int×Int)}{x v:Int}
theorem O6.start (h:lM s0):O6 left s0 head (fun z=>(af left z).isSome) cnt s0 []:=
 ⟨h,fun _ _=>Iff.rfl,rfl,ud,fun x=>by
  cases hq:af left x with
  |none=>rfl
  |some v=>rfl⟩
theorem Jk (h:lM s)(h0:lM s0)(hr:∀a b,Rl s a b↔Rl s0 a b)(a b:Int):Ho s a b=Ho s0 a b:=by
 have e1:=(h.sm a b).2.2
 have e2:=(h0.sm a b).2.2
 rw[hr] at e1
 have:=e1.trans e2.symm
 cases h1:Ho s a b<;>cases h2:Ho s0 a b<;>simp_all
theorem O6.Wj (h:O6 left s0 head lf cnt s out)(hk:KN left):out.length<=left.length:=by
 have:=(O3 h.rs).length_le_of_subset (l₂:=left.map (·.1)) fun y hy=>mem_keys.2 (by
  have h1:=mem_keys.1 hy
  rw[h.out] at h1
  split at h1
  .cases h1
  rwa[Option.isSome_map] at h1)
 rwa[List.length_map,List.length_map] at this
theorem O6.step (h:O6 left s0 head lf cnt s out)(h0:lM s0){jR:Nat}{s':S4}{r:Int}(hl:lf x=true)(hv:af left x=some v)(hs:lM s'/\(∀a b,Rl s' a b↔Rl s a b)/\s'.2.1.length=s.2.1.length)(hr:r=Jh s0 head v)(Gm:List (Int×Int))(ho:Gm=b9 out x r\/Gm=b9 (b9 out x 2) x r):
  O6 left s0 head (fun z=>lf z && !decide (z=x)) jR s' Gm:=by
 have zV:∀y,af Gm y=if x=y then some r else af out y:=fun y=>by
  rcases ho with rfl|rfl
  .exact bK ..
  rw[bK]
  split
  .rfl
  rename_i q;rw[bK,if_neg q]
 refine⟨hs.1,fun a b=>(hs.2.1 a b).trans (h.rl a b),hs.2.2.trans h.len,?_,fun y=>?_⟩
 .rcases ho with rfl|rfl
  .exact sQ h.rs _ _
  exact sQ (sQ h.rs _ _) _ _
 rw[zV]
 by_cases q:x=y
 .subst q
  rw[if_pos rfl,if_neg (by simp),hv,hr];rfl
 rw[if_neg q,h.out]
 have:decide (y=x)=false:=decide_eq_false fun z=>q z.symm
 rw[this]
 simp
theorem O6.fin (h:O6 left s0 head lf cnt s out)(hl:∀x,lf x=false)(hr:vl left):out=left.map fun q=>(q.1,Jh s0 head q.2):=
 Jg h.rs (SM hr _) fun x=>by rw[h.out,hl,if_neg (by decide),O1]
end
theorem vn {n:Int}{E:List (Int×Int)}{V L:List Int}{T S:List (List Int)}{ds:List Int}(h1:mu n E V L ds=true)(h2:aM n E V L T S=0):eZ n E V L T S ds=(aq n E V L T S).map fun q=>(q.1,Jh (dF (aq n E V L T S) L ds) ((af (aq n E V L T S) (ds.getD 0 0)).getD 0) q.2):=if_pos ⟨h1,h2⟩
theorem sR {n:Int}{E:List (Int×Int)}{V L:List Int}{T S:List (List Int)}{ds:List Int}(h:¬(mu n E V L ds=true/\aM n E V L T S=0)):eZ n E V L T S ds=[]:=if_neg h
theorem Fc {R:List (List Int)}:∀ {k:Nat} {x v:Int},af (dG R k) x=some v->0<=v/\v<(k:Int)
 |0,x,v,h=>by cases h
 |k+1,x,v,h=>by
  have h:af (qo (dG R k) (R.getD k []) (k:Int) (R.getD k []).length) x=some v:=h
  rw[lH (Nat.le_refl _)] at h
  split at h
  .cases h;omega
  have:=Fc h;omega
theorem Jl {num:List (Int×Int)}{W:List (Int×List Int)}:∀ {k:Nat} {x v:Int},af (xm num W k) x=some v->∃y,v=(af num y).getD 0
 |0,x,v,h=>by cases h
 |k+1,x,v,h=>by
  have h:af (Lh num (xm num W k) (W.getD k (0,[]))) x=some v:=h
  have h1:af (qo (xm num W k) (W.getD k (0,[])).2 ((af num (W.getD k (0,[])).1).getD 0) (W.getD k (0,[])).2.length) x=some v->∃y,v=(af num y).getD 0:=fun h=>by
   rw[lH (Nat.le_refl _)] at h
   split at h
   .cases h;exact⟨_,rfl⟩
   exact Jl h
  unfold Lh at h
  split at h
  .rw[bK] at h
   split at h
   .cases h;exact⟨_,rfl⟩
   exact h1 h
  exact h1 h
theorem Db {n:Int}{E:List (Int×Int)}{V L:List Int}{T S:List (List Int)}(hS:S.length<=10000){x v:Int}(h:af (aq n E V L T S) x=some v):0<=v/\v<=100000:=by
 by_cases hp:aM n E V L T S=0
 .rw[nJ hp] at h
  obtain⟨y,rfl⟩:=Jl h
  have hl:=C6 hp
  obtain⟨hf,_⟩:=aX hp
  obtain⟨h1,_,hW⟩:=aU (aK hf)
  obtain⟨hr,hV,hL,_⟩:=aJ h1
  obtain⟨r1,r2,r3,_⟩:=bz hr
  have:=aO hV r1
  have:=aO hL (by omega)
  have:=hW.len
  cases hq:af (dG (aV n E V L T S) (aV n E V L T S).length) y with
  |none=>exact⟨Int.le_refl _,by decide⟩
  |some z=>
   have:=Fc hq
   show 0<=z/\z<=100000
   omega
 rw[nK hp] at h;cases h
theorem O7 {n:Int}{E:List (Int×Int)}{V L:List Int}{T S:List (List Int)}(hS:S.length<=10000)(x:Int):0<=(af (aq n E V L T S) x).getD 0/\(af (aq n E V L T S) x).getD 0<=100000:=by
 cases hq:af (aq n E V L T S) x with
 |none=>exact⟨Int.le_refl _,by decide⟩
 |some z=>exact Db hS hq
theorem O8 {n:Int}{E:List (Int×Int)}{V L:List Int}{T S:List (List Int)}:(aq n E V L T S).length<=100000000:=by
 by_cases hp:aM n E V L T S=0
 .rw[nJ hp]
  obtain⟨hf,_⟩:=aX hp
  have hw:=aK hf
  obtain⟨h1,_,hW⟩:=aU hw
  obtain⟨hr,hV,hL,_⟩:=aJ h1
  obtain⟨r1,r2,r3,_⟩:=bz hr
  have:=aO hV r1
  have:=aO hL (by omega)
  have:=hW.len
  have h2:=xo (num:=dG (aV n E V L T S) (aV n E V L T S).length) (qy (fun w zK=>(fS hw w zK).2)) (aa n E V L T).1.length
  refine Nat.le_trans h2 (Nat.le_trans (Nat.mul_le_mul (show(aa n E V L T).1.length<=10000 by omega) (show 2*L.length+1<=10000 by omega)) (by decide))
 rw[nK hp];exact Nat.zero_le _
def Jm (T:List (List Int))(sd:List (Int×Int))(V:List Int):Nat->List (Int×Int)
 |0=>[]
 |k+1=>b9 (Jm T sd V k) (V.getD k 0) ((af sd (if 0<(T.getD (V.getD k 0).toNat []).length then(T.getD (V.getD k 0).toNat []).getD 0 0 else -1-V.getD k 0)).getD 0)
def UK (sd:List (Int×Int))(L:List Int):Nat->List (Int×Int)
 |0=>[]
 |k+1=>b9 (UK sd L k) (L.getD k 0) ((af sd (2*L.getD k 0)).getD 0)
def Q2 (E:List (Int×Int))(ds:List Int)(m:List (Int×Int)):Nat->List (Int×Int)
 |0=>m
 |k+1=>b9 (Q2 E ds m k) (ah E (ds.getD k 0)) 0
def XS (ds:List Int)(m:List (Int×Int)):Nat->List (Int×Int)
 |0=>m
 |k+1=>b9 (XS ds m k) (ds.getD k 0/2) 0
def ue (n:Int)(E:List (Int×Int))(V L:List Int)(T S:List (List Int))(ds:List Int):Bool:=mu n E V L ds && decide (aM n E V L T S=0)
def sS (n:Int)(E:List (Int×Int))(V L:List Int)(T S:List (List Int))(ds:List Int):List (Int×Int):=if ue n E V L T S ds=true then Q2 E ds (Jm T (eZ n E V L T S ds) V V.length) ds.length else[]
def alE (n:Int)(E:List (Int×Int))(V L:List Int)(T S:List (List Int))(ds:List Int):List (Int×Int):=if ue n E V L T S ds=true then XS ds (UK (eZ n E V L T S ds) L L.length) ds.length else[]
theorem xu (T:List (List Int))(sd:List (Int×Int))(V:List Int):∀k,(Jm T sd V k).length<=k
 |0=>Nat.le_refl _
 |k+1=>Nat.le_trans (cQ _ _ _) (Nat.succ_le_succ (xu T sd V k))
theorem xw (sd:List (Int×Int))(L:List Int):∀k,(UK sd L k).length<=k
 |0=>Nat.le_refl _
 |k+1=>Nat.le_trans (cQ _ _ _) (Nat.succ_le_succ (xw sd L k))
theorem Jn (E:List (Int×Int))(ds:List Int)(m:List (Int×Int)):∀k,(Q2 E ds m k).length<=m.length+k
 |0=>Nat.le_refl _
 |k+1=>Nat.le_trans (cQ _ _ _) (Nat.succ_le_succ (Jn E ds m k))
theorem Jo (ds:List Int)(m:List (Int×Int)):∀k,(XS ds m k).length<=m.length+k
 |0=>Nat.le_refl _
 |k+1=>Nat.le_trans (cQ _ _ _) (Nat.succ_le_succ (Jo ds m k))
theorem SN {T:List (List Int)}{sd:List (Int×Int)}{V:List Int}{i:Int}(h0:0<=i)(h:0<((T.getD (V.getD i.toNat 0).toNat []).length:Int)):Jm T sd V (i+1).toNat=b9 (Jm T sd V i.toNat) (V.getD i.toNat 0) ((af sd ((T.getD (V.getD i.toNat 0).toNat []).getD 0 0)).getD 0):=by
 rw[show(i+1).toNat=i.toNat+1 by omega]
 show b9 _ _ ((af sd (if _ then _ else _)).getD 0)=_
 rw[if_pos (by omega)]
theorem Wk {T:List (List Int)}{sd:List (Int×Int)}{V:List Int}{i:Int}(h0:0<=i)(h:¬0<((T.getD (V.getD i.toNat 0).toNat []).length:Int)):Jm T sd V (i+1).toNat=b9 (Jm T sd V i.toNat) (V.getD i.toNat 0) ((af sd (-1-V.getD i.toNat 0)).getD 0):=by
 rw[show(i+1).toNat=i.toNat+1 by omega]
 show b9 _ _ ((af sd (if _ then _ else _)).getD 0)=_
 rw[if_neg (by omega)]
theorem O9 {sd:List (Int×Int)}{L:List Int}{i:Int}(h0:0<=i):UK sd L (i+1).toNat=b9 (UK sd L i.toNat) (L.getD i.toNat 0) ((af sd (2*L.getD i.toNat 0)).getD 0):=by
 rw[show(i+1).toNat=i.toNat+1 by omega];rfl
theorem Pa {E:List (Int×Int)}{ds:List Int}{m:List (Int×Int)}{i:Int}(h0:0<=i):Q2 E ds m (i+1).toNat=b9 (Q2 E ds m i.toNat) (ah E (ds.getD i.toNat 0)) 0:=by
 rw[show(i+1).toNat=i.toNat+1 by omega];rfl
theorem Pb {ds:List Int}{m:List (Int×Int)}{i:Int}(h0:0<=i):XS ds m (i+1).toNat=b9 (XS ds m i.toNat) (ds.getD i.toNat 0/2) 0:=by
 rw[show(i+1).toNat=i.toNat+1 by omega];rfl
end Go.Proofs.YtnfdimfepbbbpaaGreat
namespace Go.Proofs.YtnfdimfepbbbpaaGreat
open Go.RowKit
open Go.Proofs.YtnfdimfepbbbpaaGreat.Deep
def SO (a b:List Int)(i:Nat):Prop:=a.take (a.length-i)=b.drop i/\a.drop (a.length-i)=b.take i
instance (a b:List Int) (i:Nat):Decidable (SO a b i):=by unfold SO;infer_instance
def Fe (a b:List Int):Prop:=a.length=b.length/\(a.length=0\/∃i,i<b.length/\SO a b i)
instance (a b:List Int):Decidable (Fe a b):=by unfold Fe;infer_instance
def kE (a b:List Int):Bool:=decide (Fe a b)
theorem Pd {a b:List Int}{i:Int}(h0:0<=i)(h1:i<=(a.length:Int)):SO a b i.toNat↔a.take ((a.length:Int)-i).toNat=b.drop i.toNat/\a.drop ((a.length:Int)-i).toNat=b.take i.toNat:=by
 rw[show((a.length:Int)-i).toNat=a.length-i.toNat by omega];rfl
theorem Pe {a b:List Int}(h:¬(a.length:Int)=(b.length:Int)):false=kE a b:=(decide_eq_false fun q=>h (by rw[q.1])).symm
theorem Pf {a b:List Int}(h:(a.length:Int)=(b.length:Int)){i:Nat}(hi:i<b.length)(ht:SO a b i):true=kE a b:=(decide_eq_true ⟨by omega,.inr ⟨i,hi,ht⟩⟩).symm
theorem Pg {a b:List Int}(h:(a.length:Int)=(b.length:Int))(hb:∀j:Nat,j<b.length->¬SO a b j):decide ((a.length:Int)=0)=kE a b:=by
 unfold kE
 refine decide_eq_decide.2 ⟨fun q=>⟨by omega,.inl (by omega)⟩,fun q=>?_⟩
 rcases q.2 with z|⟨i,hi,ht⟩
 .omega
 exact absurd ht (hb i hi)
def Dc (L l:List Int)(k:Nat):List Int:=(l.take k).filter fun d=>hasB L (d/2)
theorem Jp {L l:List Int}{i:Int}(h0:0<=i)(h1:i<(l.length:Int))(h:hasB L (l.getD i.toNat 0/2)=true):Dc L l (i+1).toNat=Dc L l i.toNat++[l.getD i.toNat 0]:=by
 unfold Dc
 rw[show(i+1).toNat=i.toNat+1 by omega,bU (show i.toNat<l.length by omega) 0,List.filter_append,List.filter_cons_of_pos (p:=fun d=>hasB L (d/2)) h];rfl
theorem Ph {L l:List Int}{i:Int}(h0:0<=i)(h1:i<(l.length:Int))(h:hasB L (l.getD i.toNat 0/2)=false):Dc L l (i+1).toNat=Dc L l i.toNat:=by
 unfold Dc
 rw[show(i+1).toNat=i.toNat+1 by omega,bU (show i.toNat<l.length by omega) 0,List.filter_append,List.filter_cons_of_neg (p:=fun d=>hasB L (d/2)) (by show ¬hasB L _=true;rw[h];decide)];simp
theorem Dd (L l:List Int)(k:Nat):(Dc L l k).length<=k:=Nat.le_trans (List.length_filter_le _ _) (by rw[List.length_take];exact Nat.min_le_left _ _)
theorem Jq (L l:List Int):Dc L l l.length=l.filter fun d=>hasB L (d/2):=by unfold Dc;rw[List.take_length]
def LY (n:Int)(E:List (Int×Int))(W:List (Int×List Int)):Nat->List (List Int)
 |0=>[]
 |k+1=>LY n E W k++eR n E (W.getD k (0,[])).2
def aT (n:Int)(E:List (Int×Int))(V L:List Int)(T S:List (List Int)):List (List Int):=if aM n E V L T S=0 then LY n E (aa n E V L T).1 (aa n E V L T).1.length else[]
theorem Pj {n:Int}{E:List (Int×Int)}{W:List (Int×List Int)}{i:Int}(h:0<=i):LY n E W (i+1).toNat=LY n E W i.toNat++eR n E (W.getD i.toNat (0,[])).2:=by
 rw[show(i+1).toNat=i.toNat+1 by omega];rfl
theorem y7 (n:Int)(E:List (Int×Int))(ds:List Int):(eR n E ds).length<=ds.length:=by
 unfold eR
 split
 .exact(xh _).2
 exact Nat.zero_le _
theorem De {n:Int}{E:List (Int×Int)}{W:List (Int×List Int)}{N:Nat}(hN:∀k,(W.getD k (0,[])).2.length<=N):∀k,(LY n E W k).length<=k*N
 |0=>by simp[LY]
 |k+1=>by
  have h:=De (n:=n) (E:=E) hN k
  have h1:=y7 n E (W.getD k (0,[])).2
  have h2:=hN k
  show(LY n E W k++_).length<=_
  rw[List.length_append,Nat.succ_mul];omega
theorem y8 {n:Int}{E:List (Int×Int)}{ds l:List Int}(h:l∈eR n E ds):l.length<=ds.length/\∀x∈l,x∈ds:=by
 unfold eR at h
 split at h
 .exact⟨OO _ (Nat.le_refl _) l h,(C0 _ (Nat.le_refl _)).2 l h⟩
 cases h
theorem xx {n:Int}{E:List (Int×Int)}{W:List (Int×List Int)}:∀ {k:Nat},k<=W.length->∀l∈LY n E W k,∃w∈W,l∈eR n E w.2
 |0,_,l,h=>by cases h
 |k+1,hk,l,h=>by
  rcases List.mem_append.1 h with q|q
  .exact xx (by omega) l q
  exact⟨_,ag (by omega),q⟩
theorem nO {n:Int}{E:List (Int×Int)}{V L:List Int}{T S:List (List Int)}(h:aM n E V L T S=0):aT n E V L T S=LY n E (aa n E V L T).1 (aa n E V L T).1.length:=if_pos h
theorem sU {n:Int}{E:List (Int×Int)}{V L:List Int}{T S:List (List Int)}(h:¬aM n E V L T S=0):aT n E V L T S=[]:=if_neg h
theorem y9 {n:Int}{E:List (Int×Int)}{V L:List Int}{T S:List (List Int)}{l:List Int}(h:l∈aT n E V L T S):l.length<=2*L.length/\(∀d∈l,ak L d)/\L.length<=1024/\∀d∈l,0<=d/\d<=1000000:=by
 by_cases hp:aM n E V L T S=0
 .rw[nO hp] at h
  obtain⟨w,hw,hl⟩:=xx (Nat.le_refl _) l h
  have kf:=aK (aX hp).1
  obtain⟨gX,_,_⟩:=aU kf
  obtain⟨d1,d2⟩:=fS kf w hw
  obtain⟨m1,m2⟩:=y8 hl
  obtain⟨hr,hV,hL,_⟩:=aJ gX
  obtain⟨r1,r2,r3,_⟩:=bz hr
  have:=aO hL (by omega)
  refine⟨by omega,fun d hd=>d1 d (m2 d hd),by omega,fun d hd=>?_⟩
  obtain⟨_,x1,_,x3⟩:=bf gX (d1 d (m2 d hd))
  exact⟨x1,x3⟩
 rw[sU hp] at h;cases h
theorem Ht {n:Int}{E:List (Int×Int)}{V L:List Int}{T S:List (List Int)}:(aT n E V L T S).length<=100000000:=by
 by_cases hp:aM n E V L T S=0
 .rw[nO hp]
  have hw:=aK (aX hp).1
  obtain⟨h1,_,hW⟩:=aU hw
  obtain⟨hr,hV,hL,_⟩:=aJ h1
  obtain⟨r1,r2,r3,_⟩:=bz hr
  have:=aO hV r1
  have:=aO hL (by omega)
  have:=hW.len
  have h2:=De (n:=n) (E:=E) (qy (fun w zK=>(fS hw w zK).2)) (aa n E V L T).1.length
  exact Nat.le_trans h2 (Nat.le_trans (Nat.mul_le_mul (show(aa n E V L T).1.length<=10000 by omega) (show 2*L.length<=10000 by omega)) (by decide))
 rw[sU hp];exact Nat.zero_le _
def jw (n:Int)(E:List (Int×Int))(V L:List Int)(T S:List (List Int)):Int:=if aS n E V L≠0 then aS n E V L else aM n E V L T S
def cC (n:Int)(E:List (Int×Int))(V L:List Int)(T S U R:List (List Int)):Int:=if jw n E V L T S≠0 then jw n E V L T S else aM n E (aR n E).1 (aR n E).2 U R
theorem xy {n:Int}{E:List (Int×Int)}{V L:List Int}{T S:List (List Int)}(h:jw n E V L T S=0):aS n E V L=0/\aM n E V L T S=0:=by
 unfold jw at h
 split at h
 .rename_i q;exact absurd h q
 rename_i q;exact⟨Classical.not_not.1 q,h⟩
theorem za {n:Int}{E:List (Int×Int)}{V L:List Int}{T S U R:List (List Int)}(h:cC n E V L T S U R=0):jw n E V L T S=0/\aM n E (aR n E).1 (aR n E).2 U R=0:=by
 unfold cC at h
 split at h
 .rename_i q;exact absurd h q
 rename_i q;exact⟨Classical.not_not.1 q,h⟩
def SP (V L:List Int)(T U:List (List Int))(i:Nat):Bool:=kE ((U.getD (V.getD i 0).toNat []).filter fun d=>hasB L (d/2)) (T.getD (V.getD i 0).toNat [])
def ec (n:Int)(E:List (Int×Int))(V L:List Int)(T S U R:List (List Int)):Int×Bool:=
 if cC n E V L T S U R≠0 then(0,false)
 else match(List.range V.length).find? fun i=>!SP V L T U i with
  |some i=>(V.getD i 0,true)
  |none=>(0,false)
theorem Ff {N:Nat}{p:Nat->Bool}{i:Nat}(hi:i<N)(h:p i=true)(hb:∀j,j<i->p j=false):(List.range N).find? p=some i:=by
 rw[List.find?_range_eq_some]
 exact⟨h,List.mem_range.2 hi,fun j hj=>by rw[hb j hj];rfl⟩
theorem Jr {N:Nat}{p:Nat->Bool}(hb:∀j,j<N->p j=false):(List.range N).find? p=none:=by
 rw[List.find?_eq_none]
 exact fun j hj=>by rw[hb j (List.mem_range.1 hj)];decide
theorem Hu {n:Int}{E:List (Int×Int)}{V L:List Int}{T S U R:List (List Int)}(h:cC n E V L T S U R≠0):ec n E V L T S U R=(0,false):=if_pos h
theorem Hv {n:Int}{E:List (Int×Int)}{V L:List Int}{T S U R:List (List Int)}(h:cC n E V L T S U R=0){i:Int}(h0:0<=i)(hi:i<(V.length:Int))(ht:SP V L T U i.toNat=false)(hb:∀j:Nat,(j:Int)<i->SP V L T U j=true):ec n E V L T S U R=(V.getD i.toNat 0,true):=by
 unfold ec
 rw[if_neg (by rw[h];exact fun q=>q rfl),Ff (i:=i.toNat) (by omega) (by rw[ht];rfl) fun j hj=>by rw[hb j (by omega)];rfl]
theorem BK {n:Int}{E:List (Int×Int)}{V L:List Int}{T S U R:List (List Int)}(h:cC n E V L T S U R=0)(hb:∀j:Nat,j<V.length->SP V L T U j=true):ec n E V L T S U R=(0,false):=by
 unfold ec
 rw[if_neg (by rw[h];exact fun q=>q rfl),Jr fun j hj=>by rw[hb j hj];rfl]
def XT (held now:List (Int×Int)):Int×Bool:=match held.find? fun q=>decide (¬(af now q.1).getD 0=q.2) with
 |some q=>(q.1,true)
 |none=>(0,false)
structure LZ (held now:List (Int×Int))(lf:Int->Bool)(least:Int)(bad:Bool):Prop where
 no:bad=false->least=0/\∀k v,af held k=some v->lf k=false->(af now k).getD 0=v
 yes:bad=true->(∃v,af held least=some v/\¬(af now least).getD 0=v)/\∀k v,af held k=some v->lf k=false->¬(af now k).getD 0=v->least<=k
section
variable {held now:List (Int×Int)}{lf:Int->Bool}{least:Int}{bad:Bool}{x v:Int}
theorem LZ.start:LZ held now (fun z=>(af held z).isSome) 0 false:=
 ⟨fun _=>⟨rfl,fun k v h1 h2=>by rw[h1] at h2;cases h2⟩,fun q=>by cases q⟩
theorem BL (h:(lf x && !decide (x=v))=false):lf x=false\/x=v:=by
 by_cases q:x=v
 .exact .inr q
 rw[decide_eq_false q] at h;simp at h;exact .inl h
theorem LZ.stay (h:LZ held now lf least bad)(hv:af held x=some v)(hd:(af now x).getD 0=v\/(bad=true/\¬x<least)):LZ held now (fun z=>lf z && !decide (z=x)) least bad:=by
 refine⟨fun q=>⟨(h.no q).1,fun k u h1 h2=>?_⟩,fun q=>⟨(h.yes q).1,fun k u h1 h2 h3=>?_⟩⟩
 .rcases BL h2 with z|z
  .exact(h.no q).2 k u h1 z
  subst z
  rw[hv] at h1;cases h1
  rcases hd with y|⟨y,_⟩
  .exact y
  rw[q] at y;cases y
 rcases BL h2 with z|z
 .exact(h.yes q).2 k u h1 z h3
 subst z
 rw[hv] at h1;cases h1
 rcases hd with y|⟨_,y⟩
 .exact absurd y h3
 omega
theorem LZ.take (h:LZ held now lf least bad)(hv:af held x=some v)(hd:¬(af now x).getD 0=v)(hb:bad=false\/x<least):LZ held now (fun z=>lf z && !decide (z=x)) x true:=by
 refine⟨fun q=>(by cases q),fun _=>⟨⟨v,hv,hd⟩,fun k u h1 h2 h3=>?_⟩⟩
 rcases BL h2 with z|z
 .rcases hb with y|y
  .exact absurd ((h.no y).2 k u h1 z) h3
  cases hq:bad with
  |false=>exact absurd ((h.no hq).2 k u h1 z) h3
  |true=>have:=(h.yes hq).2 k u h1 z h3;omega
 omega
theorem Pk {α:Type}{m:List (Int×α)}(h:vl m):∀ {q:Int×α},q∈m->af m q.1=some q.2:=by
 induction m with
 |nil=>intro q hq;cases hq
 |cons p m ih=>
  intro q hq
  rw[kK]
  rcases List.mem_cons.1 hq with rfl|hq
  .rw[if_pos rfl]
  have:=(List.pairwise_cons.1 h).1 q hq
  rw[if_neg (by omega)]
  exact ih (List.pairwise_cons.1 h).2 hq
theorem zb {p:Int×Int->Bool}:∀ {m:List (Int×Int)},vl m->∀ {q:Int×Int},q∈m->p q=true->(∀y∈m,p y=true->q.1<=y.1)->m.find? p=some q
 |[],_,q,hq,_,_=>by cases hq
 |y::m,h,q,hq,h1,h2=>by
  rw[List.find?_cons]
  rcases List.mem_cons.1 hq with rfl|hq
  .rw[h1]
  cases hy:p y with
  |true=>
   have a:=h2 y List.mem_cons_self hy
   have b:=(List.pairwise_cons.1 h).1 q hq
   omega
  |false=>exact zb (List.pairwise_cons.1 h).2 hq h1 fun z hz=>h2 z (List.mem_cons_of_mem _ hz)
theorem LZ.fin (h:LZ held now lf least bad)(hl:∀x,lf x=false)(hr:vl held):XT held now=(least,bad):=by
 unfold XT
 cases hb:bad with
 |false=>
  obtain⟨h1,h2⟩:=h.no hb
  have:held.find? (fun q=>decide (¬(af now q.1).getD 0=q.2))=none:=by
   rw[List.find?_eq_none]
   intro q hq
   have:=h2 q.1 q.2 (Pk hr hq) (hl _)
   simp[this]
  rw[this,h1]
 |true=>
  obtain⟨⟨v,h1,h2⟩,h3⟩:=h.yes hb
  have:held.find? (fun q=>decide (¬(af now q.1).getD 0=q.2))=some (least,v):=by
   refine zb hr (mw h1) (by simpa using h2) fun y hy hp=>?_
   exact h3 y.1 y.2 (Pk hr hy) (hl _) (by simpa using hp)
  rw[this]
end
theorem Js (T:List (List Int))(sd:List (Int×Int))(V:List Int):∀k,vl (Jm T sd V k)
 |0=>ud
 |k+1=>sQ (Js T sd V k) _ _
theorem Jt {E:List (Int×Int)}{ds:List Int}{m:List (Int×Int)}(h:vl m):∀k,vl (Q2 E ds m k)
 |0=>h
 |k+1=>sQ (Jt h k) _ _
theorem Ju {n:Int}{E:List (Int×Int)}{V L:List Int}{T S:List (List Int)}{ds:List Int}:vl (sS n E V L T S ds):=by
 unfold sS
 split
 .exact Jt (Js _ _ _ _) _
 exact ud
def Jv (n:Int)(E:List (Int×Int))(V L:List Int)(T S U R:List (List Int))(l:List Int):Int×Bool:=XT (sS n E V L T S l) (sS n E (aR n E).1 (aR n E).2 U R l)
def gb (n:Int)(E:List (Int×Int))(V L:List Int)(T S U R:List (List Int)):List Int×Int×Bool:=
 if cC n E V L T S U R≠0\/(ec n E V L T S U R).2=true then([],0,false)
 else match(List.range (aT n E V L T S).length).find? fun i=>(Jv n E V L T S U R ((aT n E V L T S).getD i [])).2 with
  |some i=>((aT n E V L T S).getD i [],(Jv n E V L T S U R ((aT n E V L T S).getD i [])).1,true)
  |none=>([],0,false)
section
variable {n:Int}{E:List (Int×Int)}{V L:List Int}{T S U R:List (List Int)}
theorem ze (h:cC n E V L T S U R≠0\/(ec n E V L T S U R).2=true):gb n E V L T S U R=([],0,false):=if_pos h
theorem Hw (h:cC n E V L T S U R=0)(h2:(ec n E V L T S U R).2=false){i:Int}(h0:0<=i)(hi:i<((aT n E V L T S).length:Int)){least:Int}(ht:Jv n E V L T S U R ((aT n E V L T S).getD i.toNat [])=(least,true))(hb:∀j:Nat,(j:Int)<i->(Jv n E V L T S U R ((aT n E V L T S).getD j [])).2=false):
  gb n E V L T S U R=((aT n E V L T S).getD i.toNat [],least,true):=by
 unfold gb
 rw[if_neg (by rw[h,h2];rintro(q|q);exact q rfl;cases q),Ff (i:=i.toNat) (by omega) (by rw[ht]) fun j hj=>hb j (by omega)]
 show(_,(Jv n E V L T S U R _).1,true)=_
 rw[ht]
theorem BM (h:cC n E V L T S U R=0)(h2:(ec n E V L T S U R).2=false)(hb:∀j:Nat,j<(aT n E V L T S).length->(Jv n E V L T S U R ((aT n E V L T S).getD j [])).2=false):gb n E V L T S U R=([],0,false):=by
 unfold gb
 rw[if_neg (by rw[h,h2];rintro(q|q);exact q rfl;cases q),Jr hb]
end
def fN (n:Int)(E:List (Int×Int))(V L:List Int)(T S U R:List (List Int)):Int:=
 if cC n E V L T S U R≠0 then cC n E V L T S U R else if(ec n E V L T S U R).2=true then 5 else if(gb n E V L T S U R).2.2=true then 7 else 0
end Go.Proofs.YtnfdimfepbbbpaaGreat
namespace Go.Proofs.YtnfdimfepbbbpaaGreat
open Go.RowKit
open Go.Proofs.YtnfdimfepbbbpaaGreat.Deep
end Go.Proofs.YtnfdimfepbbbpaaGreat
namespace Go.Proofs.YtnfdimfepbbbpaaGreat
open Go.RowKit
open Go.Proofs.YtnfdimfepbbbpaaGreat.Deep
section
variable {V L:List Int}{T U:List (List Int)}
end
section
variable {n:Int}{E:List (Int×Int)}{V L:List Int}{T S U R:List (List Int)}{l:List Int}
end
def Pm (n:Int)(E:List (Int×Int))(V L:List Int):Int:=if(E.length:Int)>60\/(V.length:Int)>60\/(L.length:Int)>60\/(n>60/\n<=1024) then 0 else 1
def v8 (T:List (List Int))(N:Nat):Bool:=decide (∃j,j<T.length/\N<(T.getD j []).length)
def L0 (n:Int)(E:List (Int×Int))(V L:List Int)(T:List (List Int)):Int:=if Pm n E V L=0\/(T.length:Int)>100\/v8 T 200=true then 0 else 1
def Al (n:Int)(E:List (Int×Int))(V L:List Int)(T S:List (List Int)):Int:=if L0 n E V L T=0\/(S.length:Int)>60\/v8 S 60=true then 0 else 1
def wv (n:Int)(E:List (Int×Int))(V L:List Int)(T S:List (List Int))(V' L':List Int):Int:=if Al n E V L T S=0\/Pm n E V' L'=0\/(E.length:Int)>14\/n>16 then 0 else 1
def ZS (n:Int)(E:List (Int×Int))(V L:List Int)(T S U R:List (List Int)):Bool:=decide (wv n E V L T S [] []=1/\Al n E [] [] U R=1)
theorem Fg {T:List (List Int)}{N:Nat}{i:Int}(h0:0<=i)(h1:i<(T.length:Int))(h:(N:Int)<((T.getD i.toNat []).length:Int)):v8 T N=true:=decide_eq_true ⟨i.toNat,by omega,by omega⟩
theorem Jw {T:List (List Int)}{N:Nat}{i:Int}(h1:(T.length:Int)<=i)(h:∀j:Nat,(j:Int)<i->¬(N:Int)<((T.getD j []).length:Int)):v8 T N=false:=decide_eq_false fun⟨j,hj,q⟩=>h j (by omega) (by omega)
theorem Fh {T:List (List Int)}{N:Nat}(h:v8 T N=false):∀l∈T,l.length<=N:=fun l hl=>by
 obtain⟨j,hj,e⟩:=aB (z:=([]:List Int)).1 hl
 refine Nat.le_of_not_lt fun q=>?_
 have:v8 T N=true:=decide_eq_true ⟨j,hj,by rw[e];exact q⟩
 rw[h] at this;cases this
theorem Pn {n:Int}{E:List (Int×Int)}{V L:List Int}{T S:List (List Int)}(h:Al n E V L T S=1):az T/\az S:=by
 unfold Al at h
 split at h
 .cases h
 rename_i q
 have h6:¬L0 n E V L T=0:=fun z=>q (.inl z)
 unfold L0 at h6
 split at h6
 .exact absurd rfl h6
 rename_i w
 have l1:=Fh (T:=T) (N:=200) (by cases hq:v8 T 200;rfl;exact absurd (.inr (.inr hq)) w)
 have l2:=Fh (T:=S) (N:=60) (by cases hq:v8 S 60;rfl;exact absurd (.inr (.inr hq)) q)
 have w1:¬(T.length:Int)>100:=fun z=>w (.inr (.inl z))
 have w2:¬(S.length:Int)>60:=fun z=>q (.inr (.inl z))
 exact⟨⟨by omega,fun l hl=>Nat.le_trans (l1 l hl) (by decide)⟩,by omega,fun l hl=>Nat.le_trans (l2 l hl) (by decide)⟩
theorem Wl {n:Int}{E:List (Int×Int)}{V L:List Int}{T S U R:List (List Int)}(h:ZS n E V L T S U R=true):az T/\az S/\az U/\az R:=by
 obtain⟨h1,h2⟩:=of_decide_eq_true (p:=wv n E V L T S [] []=1/\Al n E [] [] U R=1) h
 unfold wv at h1
 split at h1
 .cases h1
 rename_i q
 have h8:Al n E V L T S=1:=by
  have:¬Al n E V L T S=0:=fun z=>q (.inl z)
  unfold Al at this ⊢
  split at this
  .exact absurd rfl this
  rename_i w;rw[if_neg w]
 obtain⟨a,b⟩:=Pn h8
 obtain⟨c,d⟩:=Pn h2
 exact⟨a,b,c,d⟩
theorem ZT:bG Tryz.prog 77 [(false,nv),(false,kI)] [.int] (fun x=>cF (I_ x.1.1)) (fun x=>(Pm (I_ x.1.1) (E_ x.1.2) (J_ x.2.1.1) (J_ x.2.1.2),())):=by
 refine bn Tryz.f77 31 [] Tryz.func77 fun o x hd _ _ h=>?_
 obtain⟨⟨(n:Int),(E:List (Int×Int))⟩,⟨(V:List Int),(L:List Int)⟩,_⟩:=x
 have jt:=mh h 0 E
 have gE:=dh h 1 V
 have gH:=dh h 2 L
 change cF n at hd
 refine aZ [] h fun _ _ h=>?_
 refine av h (fun(q1:((((60:Int)<(E.length:Int))\/((60:Int)<(V.length:Int)))\/((60:Int)<(L.length:Int)))\/(((60:Int)<n)/\(n<=1024)))=>?_) (fun(q1:(((¬((60:Int)<(E.length:Int)))/\(¬((60:Int)<(V.length:Int))))/\(¬((60:Int)<(L.length:Int))))/\((¬((60:Int)<n))\/(¬(n<=1024))))=>?_)
 .refine aZ [] h fun _ _ h=>?_
  exact out (((0:Int):Int),()) h (by show _=(Pm n E V L,());unfold Pm;rw[if_pos (by have:=q1;omega)]<;>rfl)
 refine aZ [] h fun _ _ h=>?_
 exact out (((1:Int):Int),()) h (by show _=(Pm n E V L,());unfold Pm;rw[if_neg (by have:=q1;omega)]<;>rfl)
def UL:dy Tryz.prog:=plain ZT
theorem ZU:bG Tryz.prog 39 [(false,nv),(false,kI),(false,(.list (.list .int)))] [.int] (fun x=>cF (I_ x.1.1)) (fun x=>(L0 (I_ x.1.1) (E_ x.1.2) (J_ x.2.1.1) (J_ x.2.1.2) (K_ x.2.2.1),())):=by
 refine bn Tryz.f39 29 [UL] Tryz.func39 fun o x hd _ _ h=>?_
 obtain⟨⟨(n:Int),(E:List (Int×Int))⟩,⟨(V:List Int),(L:List Int)⟩,(T:List (List Int)),_⟩:=x
 have jt:=mh h 0 E
 have gE:=dh h 1 V
 have gH:=dh h 2 L
 have lT:=gC h 3 T
 change cF n at hd
 have hn:=hd
 refine go (pr:=(cF n)) [] h hn fun _ _ h=>?_
 refine av h (fun(q1:(Pm n E V L=0)\/((100:Int)<(T.length:Int)))=>?_) (fun(q1:(¬(Pm n E V L=0))/\(¬((100:Int)<(T.length:Int))))=>?_)
 .refine aZ [] h fun _ _ h=>?_
  exact out (((0:Int):Int),()) h (by show _=(L0 n E V L T,());unfold L0;rw[if_pos (q1.elim .inl fun q=>.inr (.inl (by omega)))]<;>rfl)
 refine aZ [] h fun _ _ h=>?_
 refine go_loop (Int) (fun i=>⟨[(2,eo 0),(7,en i)],[(0,some (.ar (.list .int) T))],1⟩) (fun i=>0<=i/\i<=(T.length:Int)/\∀j:Nat,(j:Int)<i->¬((200:Nat):Int)<((T.getD j []).length:Int)) (fun i=>((T.length:Int)-i).toNat) (0) (rk [3]) h ⟨Int.le_refl _,Int.natCast_nonneg _,fun j hj=>by omega⟩ fun i _ _ _ eH hI h=>?_
 obtain⟨i0,i1,i2⟩:=hI
 refine aZ [] h fun _ _ h=>?_
 refine av h (fun(q2:i<(T.length:Int))=>?_) (fun(q2:¬(i<(T.length:Int)))=>?_)
 .refine go (pr:=(bX i T.length)) [] h bx fun _ _ h=>?_
  refine av h (fun(q3:(200:Int)<((T.getD i.toNat []).length:Int))=>?_) (fun(q3:¬((200:Int)<((T.getD i.toNat []).length:Int)))=>?_)
  .refine aZ [] h fun _ _ h=>?_
   exact out (((0:Int):Int),()) h (by show _=(L0 n E V L T,());unfold L0;rw[if_pos (.inr (.inr (Fg i0 (by omega) (by have:=q3;omega))))]<;>rfl)
  refine go (pr:=(bR .i64 (i+1))) [] h cz fun _ _ h=>?_
  exact dR (eH (i+1) (ir 1) h ⟨by omega,by omega,fun j hj=>if z:(j:Int)<i then i2 j z else by rw[show j=i.toNat by omega];have:=q3;omega⟩ (by omega))
 refine aZ [] h fun _ _ h=>?_
 exact out (((1:Int):Int),()) h (by show _=(L0 n E V L T,());unfold L0;rw[if_neg (by rintro(q|q|q);exact q1.1 q;(have:=q1.2;omega);rw[Jw (by omega) i2] at q;cases q)]<;>rfl)
def ZV:dy Tryz.prog:=plain ZU
theorem ZW:bG Tryz.prog 19 [(false,nv),(false,kI),(false,(.pair (.list (.list .int)) (.list (.list .int))))] [.int] (fun x=>cF (I_ x.1.1)) (fun x=>(Al (I_ x.1.1) (E_ x.1.2) (J_ x.2.1.1) (J_ x.2.1.2) (K_ x.2.2.1.1) (K_ x.2.2.1.2),())):=by
 refine bn Tryz.f19 34 [ZV] Tryz.func19 fun o x hd _ _ h=>?_
 obtain⟨⟨(n:Int),(E:List (Int×Int))⟩,⟨(V:List Int),(L:List Int)⟩,⟨(T:List (List Int)),(S:List (List Int))⟩,_⟩:=x
 have jt:=mh h 0 E
 have gE:=dh h 1 V
 have gH:=dh h 2 L
 have lT:=gC h 3 T
 have Am:=gC h 4 S
 change cF n at hd
 have hn:=hd
 refine go (pr:=(cF n)) [] h hn fun _ _ h=>?_
 refine av h (fun(q1:(L0 n E V L T=0)\/((60:Int)<(S.length:Int)))=>?_) (fun(q1:(¬(L0 n E V L T=0))/\(¬((60:Int)<(S.length:Int))))=>?_)
 .refine aZ [] h fun _ _ h=>?_
  exact out (((0:Int):Int),()) h (by show _=(Al n E V L T S,());unfold Al;rw[if_pos (q1.elim .inl fun q=>.inr (.inl (by omega)))]<;>rfl)
 refine aZ [] h fun _ _ h=>?_
 refine go_loop (Int) (fun i=>⟨[(5,ep 0),(7,en i)],[(0,some (.box 30 [.own 1,.own 2])),(1,some (.ar (.list .int) T)),(2,some (.ar (.list .int) S))],3⟩) (fun i=>0<=i/\i<=(S.length:Int)/\∀j:Nat,(j:Int)<i->¬((60:Nat):Int)<((S.getD j []).length:Int)) (fun i=>((S.length:Int)-i).toNat) (0) (rk [8197,3,4]) h ⟨Int.le_refl _,Int.natCast_nonneg _,fun j hj=>by omega⟩ fun i _ _ _ eH hI h=>?_
 obtain⟨i0,i1,i2⟩:=hI
 refine aZ [] h fun _ _ h=>?_
 refine av h (fun(q2:i<(S.length:Int))=>?_) (fun(q2:¬(i<(S.length:Int)))=>?_)
 .refine go (pr:=(bX i S.length)) [] h bx fun _ _ h=>?_
  refine av h (fun(q3:(60:Int)<((S.getD i.toNat []).length:Int))=>?_) (fun(q3:¬((60:Int)<((S.getD i.toNat []).length:Int)))=>?_)
  .refine aZ [] h fun _ _ h=>?_
   exact out (((0:Int):Int),()) h (by show _=(Al n E V L T S,());unfold Al;rw[if_pos (.inr (.inr (Fg i0 (by omega) (by have:=q3;omega))))]<;>rfl)
  refine go (pr:=(bR .i64 (i+1))) [] h cz fun _ _ h=>?_
  exact dR (eH (i+1) (ir 3) h ⟨by omega,by omega,fun j hj=>if z:(j:Int)<i then i2 j z else by rw[show j=i.toNat by omega];have:=q3;omega⟩ (by omega))
 refine aZ [] h fun _ _ h=>?_
 exact out (((1:Int):Int),()) h (by show _=(Al n E V L T S,());unfold Al;rw[if_neg (by rintro(q|q|q);exact q1.1 q;(have:=q1.2;omega);rw[Jw (by omega) i2] at q;cases q)]<;>rfl)
def UM:dy Tryz.prog:=plain ZW
theorem Wm:bG Tryz.prog 76 [(false,(.pair nv (.pair kI (.pair (.list (.list .int)) (.list (.list .int))))))] [.int] (fun x=>cF (I_ x.1.1.1)) (fun x=>(Al (I_ x.1.1.1) (E_ x.1.1.2) (J_ x.1.2.1.1) (J_ x.1.2.1.2) (K_ x.1.2.2.1) (K_ x.1.2.2.2),())):=by
 refine bn Tryz.f76 10 [UM] Tryz.func76 fun o x hd _ _ h=>?_
 obtain⟨⟨⟨(n:Int),(E:List (Int×Int))⟩,⟨⟨(V:List Int),(L:List Int)⟩,⟨(T:List (List Int)),(S:List (List Int))⟩⟩⟩,_⟩:=x
 have jt:=mh h 0 E
 have gE:=dh h 1 V
 have gH:=dh h 2 L
 have lT:=gC h 3 T
 have Am:=gC h 4 S
 change cF n at hd
 have hn:=hd
 refine go (pr:=(cF n)) [] h hn fun _ _ h=>?_
 exact out ((Al n E V L T S:Int),()) h rfl
def Wo:dy Tryz.prog:=plain Wm
theorem Wp:bG Tryz.prog 38 [(false,(.pair nv (.pair kI (.pair (.list (.list .int)) (.list (.list .int)))))),(false,kI)] [.int] (fun x=>cF (I_ x.1.1.1)) (fun x=>(wv (I_ x.1.1.1) (E_ x.1.1.2) (J_ x.1.2.1.1) (J_ x.1.2.1.2) (K_ x.1.2.2.1) (K_ x.1.2.2.2) (J_ x.2.1.1) (J_ x.2.1.2),())):=by
 refine bn Tryz.f38 28 [Wo,UL] Tryz.func38 fun o x hd _ _ h=>?_
 obtain⟨⟨⟨(n:Int),(E:List (Int×Int))⟩,⟨⟨(V:List Int),(L:List Int)⟩,⟨(T:List (List Int)),(S:List (List Int))⟩⟩⟩,⟨(V9:List Int),(L9:List Int)⟩,_⟩:=x
 have jt:=mh h 0 E
 have gE:=dh h 1 V
 have gH:=dh h 2 L
 have lT:=gC h 3 T
 have Am:=gC h 4 S
 have L1:=dh h 5 V9
 have SQ:=dh h 6 L9
 change cF n at hd
 have hn:=hd
 refine go (pr:=(cF n)/\((¬(Al n E V L T S=0))->(cF n))) [] h ⟨hn,fun _=>hn⟩ fun _ _ h=>?_
 refine av h (fun(q1:(((Al n E V L T S=0)\/(Pm n E V9 L9=0))\/((14:Int)<(E.length:Int)))\/((16:Int)<n))=>?_) (fun(q1:(((¬(Al n E V L T S=0))/\(¬(Pm n E V9 L9=0)))/\(¬((14:Int)<(E.length:Int))))/\(¬((16:Int)<n)))=>?_)
 .refine aZ [] h fun _ _ h=>?_
  exact out (((0:Int):Int),()) h (by show _=(wv n E V L T S V9 L9,());unfold wv;rw[if_pos (by have:=q1;omega)]<;>rfl)
 refine aZ [] h fun _ _ h=>?_
 exact out (((1:Int):Int),()) h (by show _=(wv n E V L T S V9 L9,());unfold wv;rw[if_neg (by have:=q1;omega)]<;>rfl)
def Wq:dy Tryz.prog:=plain Wp
theorem Wr:bG Tryz.prog 18 [(false,(.pair nv (.pair kI (.pair (.list (.list .int)) (.list (.list .int))))))] [.int] (fun x=>cF (I_ x.1.1.1)) (fun x=>(wv (I_ x.1.1.1) (E_ x.1.1.2) (J_ x.1.2.1.1) (J_ x.1.2.1.2) (K_ x.1.2.2.1) (K_ x.1.2.2.2) [] [],())):=by
 refine bn Tryz.f18 6 [Wq] Tryz.func18 fun o x hd _ _ h=>?_
 obtain⟨⟨⟨(n:Int),(E:List (Int×Int))⟩,⟨⟨(V:List Int),(L:List Int)⟩,⟨(T:List (List Int)),(S:List (List Int))⟩⟩⟩,_⟩:=x
 have jt:=mh h 0 E
 have gE:=dh h 1 V
 have gH:=dh h 2 L
 have lT:=gC h 3 T
 have Am:=gC h 4 S
 change cF n at hd
 have hn:=hd
 refine go (pr:=(cF n)) [] h hn fun _ _ h=>?_
 exact out ((wv n E V L T S [] []:Int),()) h rfl
def Ws:dy Tryz.prog:=plain Wr
theorem Wt:bG Tryz.prog 6 [(false,(.pair nv (.pair kI (.pair (.list (.list .int)) (.list (.list .int)))))),(false,(.pair (.list (.list .int)) (.list (.list .int))))] [.bool] (fun x=>cF (I_ x.1.1.1)) (fun x=>(ZS (I_ x.1.1.1) (E_ x.1.1.2) (J_ x.1.2.1.1) (J_ x.1.2.1.2) (K_ x.1.2.2.1) (K_ x.1.2.2.2) (K_ x.2.1.1) (K_ x.2.1.2),())):=by
 refine bn Tryz.f6 16 [Ws,UM] Tryz.func6 fun o x hd _ _ h=>?_
 obtain⟨⟨⟨(n:Int),(E:List (Int×Int))⟩,⟨⟨(V:List Int),(L:List Int)⟩,⟨(T:List (List Int)),(S:List (List Int))⟩⟩⟩,⟨(U:List (List Int)),(R:List (List Int))⟩,_⟩:=x
 have jt:=mh h 0 E
 have gE:=dh h 1 V
 have gH:=dh h 2 L
 have lT:=gC h 3 T
 have Am:=gC h 4 S
 have L1:=gC h 5 U
 have SQ:=gC h 6 R
 change cF n at hd
 have hn:=hd
 refine go (pr:=(cF n)/\((wv n E V L T S [] []=1)->(cF n))) [] h ⟨hn,fun _=>hn⟩ fun _ _ h=>?_
 exact out (((decide (wv n E V L T S [] []=1)) && (decide (Al n E [] [] U R=1)):Bool),()) h (by unfold ZS;simp only[Bool.decide_and]<;>rfl)
def Wu:dy Tryz.prog:=plain Wt
abbrev UN:rD:=⟨[.box 32 [.int,.own 1,.own 2,.own 3,.own 4,.own 5],.rd j8,.rd .int,.rd .int,.rd (.list .int),.rd (.list .int)],[.int,.ptr 0 0],[.box 32 [.int,.own 1,.own 2,.own 3,.own 4,.own 5],.rd j8,.rd .int,.rd .int,.rd (.list .int),.rd (.list .int)],[.bool],6⟩
theorem Po:eO Tryz.prog 22 UN (fun x=>0<=(I_ x.2.1)/\(I_ x.2.1)<=1000000/\(J_ x.1.2.2.2.1).length<=1000000) (fun x=>((((I_ x.1.1.1),(),(),(),(),(),()),(E_ x.1.2.1),(J_ x.1.2.2.1),(J_ x.1.2.2.2.1),(K_ x.1.2.2.2.2.1),(K_ x.1.2.2.2.2.2.1),()),(hasB (J_ x.1.2.2.2.1) ((I_ x.2.1)/2),()))):=by
 refine fo Tryz.f22 10 [BD] UN Tryz.func22 fun o A x hd _ _ h=>?_
 obtain⟨⟨⟨(n:Int),_,_,_,_,_,_⟩,(E:List (Int×Int)),(V:List Int),(L:List Int),(T:List (List Int)),(S:List (List Int)),_⟩,⟨(d:Int),_,_⟩⟩:=x
 have gE:=mh h 1 E
 have gH:=dh h 2 V
 have lT:=dh h 3 L
 have Am:=gC h 4 T
 have L1:=gC h 5 S
 change 0<=d/\d<=1000000/\L.length<=1000000 at hd
 obtain⟨d0,d1,d2⟩:=hd
 refine go (pr:=(0<=d/\0<(2:Int)/\bR .i64 d)/\(L.length<=1000000)) [] h ⟨⟨by omega,by omega,⟨by omega,by omega⟩⟩,by omega⟩ fun _ _ h=>?_
 exact kJ (((n,(),(),(),(),(),()),E,V,L,T,S,()),(hasB L (d/2),())) (ir 6) h rfl
def Pp:dy Tryz.prog:=oJ Po
abbrev Jx:rD:=⟨[.box 32 [.int,.own 1,.own 2,.own 3,.own 4,.own 5],.rd j8,.rd .int,.rd .int,.rd (.list .int),.rd (.list .int),.rd .int],[.own 6,.mA 22 [(0,0)]],[.box 32 [.int,.own 1,.own 2,.own 3,.own 4,.own 5],.rd j8,.rd .int,.rd .int,.rd (.list .int),.rd (.list .int),.rd .int,.row 3 .int],[.own 7],7⟩
theorem Wv:eO Tryz.prog 21 Jx (fun x=>(∀d∈(J_ x.1.2.2.2.2.2.2.1),0<=d/\d<=1000000)/\(J_ x.1.2.2.2.2.2.2.1).length<=1000000/\(J_ x.1.2.2.2.1).length<=1000000) (fun x=>((((I_ x.1.1.1),(),(),(),(),(),()),(E_ x.1.2.1),(J_ x.1.2.2.1),(J_ x.1.2.2.2.1),(K_ x.1.2.2.2.2.1),(K_ x.1.2.2.2.2.2.1),(J_ x.1.2.2.2.2.2.2.1),Dc (J_ x.1.2.2.2.1) (J_ x.1.2.2.2.2.2.2.1) (J_ x.1.2.2.2.2.2.2.1).length,()),((),()))):=by
 refine fo Tryz.f21 25 [Pp] Jx Tryz.func21 fun o A x hd _ _ h=>?_
 obtain⟨⟨⟨(n:Int),_,_,_,_,_,_⟩,(E:List (Int×Int)),(V:List Int),(L:List Int),(T:List (List Int)),(S:List (List Int)),(l:List Int),_⟩,⟨_,_,_⟩⟩:=x
 have gE:=mh h 1 E
 have gH:=dh h 2 V
 have lT:=dh h 3 L
 have Am:=gC h 4 T
 have L1:=gC h 5 S
 have SQ:=dh h 6 l
 change (∀d∈l,0<=d/\d<=1000000)/\l.length<=1000000/\L.length<=1000000 at hd
 obtain⟨Pq,Nf,Fi⟩:=hd
 refine aZ [] h fun _ _ h=>?_
 refine bq Int (List Int) (fun i ou=>⟨[(1,some ⟨[],.one (.mA 22 [(0,0)])⟩),(5,eo 7),(10,eo 6),(11,en (l.length:Int)),(12,en i)],[(0,some (.box 32 [.v (.int .i64 n),.own 1,.own 2,.own 3,.own 4,.own 5])),(1,some (.ar j8 E)),(2,some (.ar .int V)),(3,some (.ar .int L)),(4,some (.ar (.list .int) T)),(5,some (.ar (.list .int) S)),(6,some (.ar .int l)),(7,some (.row 3 .int ou))],8⟩) (fun i ou=>0<=i/\i<=(l.length:Int)/\ou=Dc L l i.toNat) (fun i ou=>((l.length:Int)-i).toNat) 0 [] [(0,some 0),(1,some 1),(2,some 2),(3,some 3),(4,some 4),(5,some 5),(6,some 6),(7,none)] h ⟨Int.le_refl _,Int.natCast_nonneg _,rfl⟩ fun i ou _ _ _ eH hI h=>?_
 obtain⟨i0,i1,i2⟩:=hI
 refine aZ [] h fun _ _ h=>?_
 refine av h (fun(q1:i<(l.length:Int))=>?_) (fun(q1:¬(i<(l.length:Int)))=>?_)
 .have vP:=Pq _ (ag (l:=l) (i:=i.toNat) (d:=0) (by omega))
  have XU:=Dd L l i.toNat
  rw[<-i2] at XU
  refine go (pr:=(bX i l.length)/\(0<=(l.getD i.toNat 0)/\(l.getD i.toNat 0)<=1000000/\L.length<=1000000)) [] h ⟨bx,⟨vP.1,vP.2,Fi⟩⟩ fun _ _ h=>?_
  refine av h (fun(q2:(hasB L ((l.getD i.toNat 0)/2))=true)=>?_) (fun(q2:(hasB L ((l.getD i.toNat 0)/2))=false)=>?_)
  .refine go (pr:=(ou.length+([(l.getD i.toNat 0)]:List Int).length<=2147483647)/\(bR .i64 (i+1))) [] h ⟨ln,cz⟩ fun _ _ h=>?_
   exact dR (eH (i+1) (ou++([(l.getD i.toNat 0)]:List Int)) (rk [0,1,2,3,4,5,6,40968]) h ⟨by omega,by omega,by rw[Jp i0 (by omega) q2,<-i2]⟩ (by omega))
  refine go (pr:=(bR .i64 (i+1))) [] h cz fun _ _ h=>?_
  exact dR (eH (i+1) ou (ir 8) h ⟨by omega,by omega,by rw[Ph i0 (by omega) q2,<-i2]⟩ (by omega))
 have uP:i.toNat=l.length:=by omega
 rw[uP] at i2
 refine aZ [] h fun _ _ h=>?_
 exact kJ (((n,(),(),(),(),(),()),E,V,L,T,S,l,ou,()),((),())) (ir 8) h (by rw[i2])
def Ww:dy Tryz.prog:=oJ Wv
end Go.Proofs.YtnfdimfepbbbpaaGreat
namespace Go.Proofs.YtnfdimfepbbbpaaGreat
open Go.RowKit Go.Shelf
attribute [local go_sem] Oper.semAt_some
theorem Fj (F:Fence)(n:Nat)(h7:F.fn 115)(Kn:F.round=none)(hn:1<=n)(l Bs rb b off cap:Nat)(zs:List Int)(abo:zs.length<=9223372036854775807)(J:Nat->World->Prop)
  (XV:∀k W,J k W->W.cell? ⟨Bs,0,none⟩=some (.pointer (some ⟨rb,0,none⟩))) (Uz:∀k W,J k W->W.cell? ⟨rb,3,none⟩=some (.slice (some ⟨b,off,none⟩) zs.length cap))
  (hc:∀k W,J k W->∀j,j<zs.length->W.cell? ⟨b,off+j,none⟩=some (.int .i64 (zs.getD j 0)))
  (hY:∀k W,J k W->k<zs.length->YieldAt F (n-1) Tryz.prog l #[.int .i64 (zs.getD k 0)] W fun e W'=>e= .returned (.bool true)/\J (k+1) W')
  (W:World) (h0:J 0 W):
  CallsIn F n Tryz.prog 115 #[.func (.yield l) #[] #[],.pointer (some ⟨Bs,0,none⟩)] W fun e W'=>(∃v,e= .returned v)/\J zs.length W':=by
 have abp:=XV _ _ h0
 have abq:=Uz _ _ h0
 refine callsIn_of_wp Tryz.func115 rfl h7 ?_ Kn
 simp only[Tryz.ntmps115,List.size_toArray,List.length_cons,List.length_nil,Nat.reduceAdd,Nat.reduceSub,Array.replicate_succ,Array.replicate_zero,List.push_toArray,List.append_toArray,List.nil_append,List.cons_append]
 gi_wp2
 gi_loopw [12] (fun i wr=> ∃k:Nat,k<=zs.length/\i= .int .i64 k/\J k wr)
  (fun i _=>zs.length-(intOf i).toNat)
 case atStart=>exact⟨0,Nat.zero_le _,rfl,h0⟩
 case round=>
  obtain⟨k,hk,rfl,ZX⟩:=hrel
  have hcx:k<zs.length->wr.cell? ⟨b,off+k,none⟩=some (.int .i64 (zs.getD k 0)):=fun h=>hc k wr ZX k h
  by_cases iL:k<zs.length
  .obtain⟨fn,tmps,assign,body,hy,hR⟩:=hY _ wr ZX iL
   have abr:=hcx iL
   generalize zs.getD k 0=x at hy hR abr
   clear hcx
   gi_wp2
   refine hR.mono ?_
   rintro e W3 ⟨rfl,hJ3⟩
   gi_wp2
   go_roundw
   case rel=>exact⟨k+1,by omega,by simp,hJ3⟩
   case measure=>simp[intOf];omega
  obtain rfl:k=zs.length:=by omega
  gi_wp2
  go_end0
  exact⟨⟨_,rfl⟩,ZX⟩
theorem Hy (F:Fence)(n:Nat)(h7:F.fn 115)(Kn:F.round=none)(hn:1<=n)(l Bs rb cap:Nat)(p:Option Addr)(J:Nat->World->Prop)
  (XV:∀k W,J k W->W.cell? ⟨Bs,0,none⟩=some (.pointer (some ⟨rb,0,none⟩))) (Uz:∀k W,J k W->W.cell? ⟨rb,3,none⟩=some (.slice p 0 cap))
  (W:World) (h0:J 0 W):
  CallsIn F n Tryz.prog 115 #[.func (.yield l) #[] #[],.pointer (some ⟨Bs,0,none⟩)] W fun e W'=>(∃v,e= .returned v)/\J 0 W':=by
 have abp:=XV _ _ h0
 have abq:=Uz _ _ h0
 refine callsIn_of_wp Tryz.func115 rfl h7 ?_ Kn
 simp only[Tryz.ntmps115,List.size_toArray,List.length_cons,List.length_nil,Nat.reduceAdd,Nat.reduceSub,Array.replicate_succ,Array.replicate_zero,List.push_toArray,List.append_toArray,List.nil_append,List.cons_append]
 gi_wp2
 gi_loopw [12] (fun i wr=>i= .int .i64 0/\J 0 wr)
  (fun i _=>0)
 case atStart=>exact⟨rfl,h0⟩
 case round=>
  obtain⟨rfl,ZX⟩:=hrel
  gi_wp2
  go_end0
  exact⟨⟨_,rfl⟩,ZX⟩
def Jy (P:Program) (f:FuncId):Prop:=(∃fn,P.funcs[f]?=some fn/\fn.body.isSome=true/\(fn.name== "runtime.NumGoroutine")=false)/\∀(l Bs rb cap:Nat) (p:Option Addr) (zs:List Int) (J:Nat->World->Prop),zs.length<=9223372036854775807->
 (∀k W,J k W->W.cell? ⟨Bs,0,none⟩=some (.pointer (some ⟨rb,0,none⟩)))->(∀k W,J k W->W.cell? ⟨rb,3,none⟩=some (.slice p zs.length cap))->
 (zs=[]\/∃b off,p=some ⟨b,off,none⟩/\∀k W,J k W->∀j,j<zs.length->W.cell? ⟨b,off+j,none⟩=some (.int .i64 (zs.getD j 0)))->
 (∀k W,J k W->k<zs.length->YieldAt Fence.wide 0 P l #[.int .i64 (zs.getD k 0)] W fun e W'=>e= .returned (.bool true)/\J (k+1) W')->
 ∀W,J 0 W->CallsIn Fence.wide 0 P f #[.func (.yield l) #[] #[],.pointer (some ⟨Bs,0,none⟩)] W fun e W'=>(∃v,e= .returned v)/\J zs.length W'
theorem Fk:Jy Tryz.prog 115:=by
 refine⟨⟨Tryz.f115,Tryz.func115,by kernel_rfl,by kernel_rfl⟩,fun l Bs rb cap p zs J hz XV Uz hc hY W h0=>?_⟩
 refine callsIn_wide.2 ((callsIn_wide (n:=1)).1 ?_)
 rcases hc with rfl|⟨b,off,rfl,hc⟩
 .exact Hy Fence.wide 1 tv rfl (Nat.le_refl _) l Bs rb cap p J XV Uz W h0
 exact Fj Fence.wide 1 tv rfl (Nat.le_refl _) l Bs rb b off cap zs hz J XV Uz hc hY W h0
abbrev wz:Ty:=.pair (.list (.list .int)) (.pair (.map .int .int) (.pair (.map .int .int) (.list .int)))
def cD (D:Nat):Deferred:={target:=.collected D,args:= #[]}
def Lj (D:Nat)(Q:iM):iM:=fun e a w=>Q e (fu a [cD D]) w
def Wx:List It->Bool
 |[]=>true
 | .lp _::_=>false
 |_::r=>Wx r
structure RGI where
 pt:List Nat
 r:List It
 p:Nat
 f:FuncId
 q:Nat
 j:Nat
 t:Nat
def vo (B:Code)(n:Nat)(σ:gW):List It->Option RGI
 | .run p::r=>match sub B p with
  | .rangeFunc (.tmp t) ps _ _=>match ps.toList,nX σ t with
   |[x],some ⟨[],.one (.mA f [(q,0)])⟩=>match jd σ q with
    |some (.box _ [.pd j])=>match Nat.blt x n && Wx r with
     |true=>some ⟨p,r,x,f,q,j,t⟩
     |false=>none
    |_=>none
   |_,_=>none
  |_=>none
 |_=>none
def gI:Option RGI->RGI
 |some x=>x
 |none=>⟨[],[],0,0,0,0,0⟩
def qB (I:RGI)(σ:gW):Bool:=match jd σ I.q with
 |some (.box _ [.pd j])=>Nat.beq j I.j
 |_=>false
def scB (k:Nat):Sc->Bool
 | .v _=>true
 | .b _=>true
 | .own j=>Nat.blt j k
 | .mp j=>Nat.blt j k
 | .ptr j _=>Nat.blt j k
 | .pd j=>Nat.blt j k
 | .mA _ cr=>cr.all fun c=>Nat.blt c.1 k
 |_=>false
def syB (k:Nat):Sy->Bool
 | .one c=>scB k c
 | .agg cs=>cs.all (scB k)
 | .mU ps=>ps.all fun p=>p.2.all (scB k)
def abt (k:Nat)(env:List (Nat×Option E2)):Bool:=env.all fun p=>match p.2 with
 |some e=>e.ch.isEmpty && syB k e.sy
 |none=>true
def Pr (rs:List (Nat×Option R2)):Bool:=rs.all fun p=>match p.2 with
 |some x=>!kH x
 |none=>true
def SR (p:Nat)(x:Int)(σ:gW):gW:=⟨(p,some ⟨[],.one (.v (.int .i64 x))⟩)::σ.env,σ.rs,σ.nx⟩
def abu (D:Nat)(σ:gW):gW:=⟨σ.env,(σ.nx,some (.ext (.DT D)))::σ.rs,σ.nx+1⟩
def Pu (σ:gW):gW:=⟨[],σ.rs,σ.nx⟩
def Wy:List It->Bool
 |[]=>true
 |_=>false
def ZY:Option RL->Bool
 |some x=>x.cs.isEmpty && (x.hs.isEmpty && (Wy x.st && Pr x.σ.rs))
 |none=>false
theorem zf {σ:gW}(h:Pr σ.rs=true){j:Nat}{x:R2}(hj:jd σ j=some x):kH x=false:=by
 have:=List.all_eq_true.1 h _ (jJ hj)
 simpa using this
theorem Hz (g:Operand)(ps:Array Tmp)(x y:Code):sub (.rangeFunc g ps x y) [0]=x:=by simp only[sub];cases x<;>rfl
theorem HA (g:Operand)(ps:Array Tmp)(x y:Code):sub (.rangeFunc g ps x y) [1]=y:=by simp only[sub];cases y<;>rfl
theorem qz {a b:Nat}(h:Nat.blt a b=true):a<b:=by simpa[Nat.blt_eq] using h
theorem zg {k:Nat}:∀ {c:Sc},scB k c=true->c.all (· <k)/\∀A,c.b7 A
 | .v _,_=>⟨tv,fun _=>trivial⟩
 | .b _,_=>⟨tv,fun _=>trivial⟩
 | .own j,h=>⟨qz h,fun _=>trivial⟩
 | .mp j,h=>⟨qz h,fun _=>trivial⟩
 | .ptr j _,h=>⟨qz h,fun _=>trivial⟩
 | .pd j,h=>⟨qz h,fun _=>trivial⟩
 | .mA _ cr,h=>⟨fun c hc=>qz (List.all_eq_true.1 h c hc),fun _=>trivial⟩
 | .el _ _ _ _,h=>by cases h
 | .hd _ _ _,h=>by cases h
theorem Wz {k:Nat}:∀ {y:Sy},syB k y=true->y.all (· <k)/\∀A,y.b7 A
 | .one c,h=>zg h
 | .agg cs,h=>⟨fun c hc=>(zg (List.all_eq_true.1 h c hc)).1,fun A c hc=>(zg (List.all_eq_true.1 h c hc)).2 A⟩
 | .mU ps,h=>⟨fun p hp c hc=>(zg (List.all_eq_true.1 (List.all_eq_true.1 h p hp) c hc)).1,fun A p hp c hc=>(zg (List.all_eq_true.1 (List.all_eq_true.1 h p hp) c hc)).2 A⟩
theorem zh (a:Act)(x y:List Deferred):fu (fu a x) y=fu a (x++y):=by unfold fu;rw[List.append_assoc]
section
variable {o:bC}{n:Nat}{A A' A0:bF}{S S' S0:aL}{F:Nat->Prop}{s:Nat->Option E2}{f g:Nat->Option Rs}{w w' W:World}{a:Act}{kp l D:Nat}{σ σ2:gW}
def gp.zJ (H:gp o w S f)(kp:Nat)(A:bF):bC:=
 ⟨⟨w,S,H.iI⟩,fun b=> ∃j rr,f j=some rr/\rr.has b,fun k ⟨j,rr,h1,h2⟩=>(H.own j rr k h1 h2).2.2,fun k ⟨j,rr,h1,h2⟩=>(H.own j rr k h1 h2).2.1,(· <kp),A,kp⟩
theorem gp.ZZ (H:gp o w S f)(kp:Nat)(A:bF):gp (H.zJ kp A) w S f:=
 ⟨jZ.refl _ _,fun _ h=>.inl h,H.iI,H.ok,fun j r b h1 h2=>⟨.inr ⟨j,r,h1,h2⟩,(H.own j r b h1 h2).2⟩,H.apart⟩
theorem gp.Df (H:gp o w S f){b:Nat}(h:(H.zJ kp A).new b):o.new b:=h.elim (fun q=>bC.DU H.pT q) fun⟨j,rr,h1,h2⟩=>(H.own j rr b h1 h2).1
theorem gp.back (H:gp o w S f)(H2:gp (H.zJ kp A) w' S' g):gp o w' S' g:=by
 refine⟨H.pT.trans H2.pT fun j hj q=>?_,fun k hk=>?_,H2.iI,H2.ok,fun j r b h1 h2=>?_,H2.apart⟩
 .rcases H.Df (kp:=kp) (A:=A) (.inr q) with q|q
  .omega
  exact q
 .rcases H2.src k hk with q|q
  .exact H.src k q
  exact .inr (H.Df q)
 obtain⟨x,y⟩:=H2.own j r b h1 h2
 exact⟨H.Df x,y⟩
theorem gp.other (H:gp o w S f)(hl:o.new l)(hS:¬S l)(hn:∀j r,f j=some r->¬r.has l)(hg:jZ w w' (· =l)):gp o w' S f where
 pT:=H.pT.trans hg fun j hj q=>by
  subst q
  rcases hl with q|q
  .omega
  exact q
 src:=H.src
 iI k hk:=Nat.lt_of_lt_of_le (H.iI k hk) hg.size
 ok j r hj:=r.keep _ _ _ (H.ok j r hj) (fun k hk=>hg.block k (H.iI k hk) fun e=>hS (e▸hk)) fun b hb=>hg.block b (H.own j r b hj hb).2.1 fun e=>hn j r hj (e▸hb)
 own j r b hj hb:=let⟨x,y,z⟩:=H.own j r b hj hb;⟨x,Nat.lt_of_lt_of_le y hg.size,z⟩
 apart:=H.apart
theorem SS (w:World)(l:Nat)(x:Obj):jZ w (w.putObj l x) (· =l):=⟨rfl,rfl,rfl,by rw[World.putObj_size];exact Nat.le_refl _,fun k _ hn=>World.putObj_heap_other hn⟩
def Lone (o:bC)(S:aL)(f:Nat->Option Rs)(w:World)(l:Nat):Prop:=o.new l/\¬S l/\(∀j r,f j=some r->¬r.has l)/\l<w.heap.size
structure MS (o:bC)(kp:Nat)(A0:bF)(S0:aL)(l D:Nat)(σ:gW)(A:bF)(S:aL)(W:World):Prop where
 bB:gp o W S (bw A (jd σ))
 dB:∀j x,jd σ j=some x->j<σ.nx/\x.all (· <σ.nx)/\x.b7 A
 SU:cR (· <kp) A0 A
 s0:∀k,S0 k->(∀j r,bw A (jd σ) j=some r->¬r.has k)/\k<W.heap.size
 l1:Lone o S (bw A (jd σ)) W l
 d1:Lone o S (bw A (jd σ)) W D
theorem MS.lone (m:MS o kp A0 S0 l D σ A S W){k:Nat}(hk:Lone o S (bw A (jd σ)) W k)(H2:gp (m.bB.zJ kp A) w' S' g):Lone o S' g w' k/\w'.heap[k]?=W.heap[k]?:=by
 obtain⟨h1,h2,h3,h4⟩:=hk
 have ye:¬(m.bB.zJ kp A).new k:=fun q=>q.elim (fun q=>by have q:W.heap.size<=k:=q;omega) fun⟨j,r,q1,q2⟩=>h3 j r q1 q2
 refine⟨⟨h1,fun q=>?_,fun j r q1 q2=>ye (H2.own j r k q1 q2).1,Nat.lt_of_lt_of_le h4 H2.pT.size⟩,H2.pT.block k h4 fun q=>ye (.inr q)⟩
 rcases H2.src k q with q|q
 .exact h2 q
 exact ye q
theorem MS.keeps (m:MS o kp A0 S0 l D σ A S W)(H2:gp (m.bB.zJ kp A) w' S' g):cK S0 W w':=fun k hk=>H2.pT.block k (m.s0 k hk).2 fun⟨j,r,q1,q2⟩=>(m.s0 k hk).1 j r q1 q2
theorem MS.next (m:MS o kp A0 S0 l D σ A S W){a:Act}(H2:cv (m.bB.zJ kp A) n A' S' (· <σ2.nx) s (jd σ2) a w'):MS o kp A0 S0 l D σ2 A' S' w' where
 bB:=m.bB.back H2.bB
 dB:=H2.dB
 SU:=m.SU.trans H2.s8.2
 s0 k hk:=by
  obtain⟨h1,h2⟩:=m.s0 k hk
  refine⟨fun j r q1 q2=>?_,Nat.lt_of_lt_of_le h2 H2.bB.pT.size⟩
  rcases(H2.bB.own j r k q1 q2).1 with q|⟨j,r,q1,q2⟩
  .have q:W.heap.size<=k:=q
   omega
  exact h1 j r q1 q2
 l1:=(m.lone m.l1 H2.bB).1
 d1:=(m.lone m.d1 H2.bB).1
theorem MS.put (m:MS o kp A0 S0 l D σ A S W)(x:Obj)(hlD:l≠D):MS o kp A0 S0 l D σ A S (W.putObj l x) where
 bB:=m.bB.other m.l1.1 m.l1.2.1 m.l1.2.2.1 (SS W l x)
 dB:=m.dB
 SU:=m.SU
 s0 k hk:=⟨(m.s0 k hk).1,by rw[World.putObj_size];exact(m.s0 k hk).2⟩
 l1:=⟨m.l1.1,m.l1.2.1,m.l1.2.2.1,by rw[World.putObj_size];exact m.l1.2.2.2⟩
 d1:=⟨m.d1.1,m.d1.2.1,m.d1.2.2.1,by rw[World.putObj_size];exact m.d1.2.2.2⟩
end
theorem BN {S:aL}{w W:World}{l:Nat}(x:Obj)(h:cK S w W)(hl:∀k,S k->k≠l):cK S w (W.putObj l x):=fun k hk=>(World.putObj_heap_other (hl k hk)).trans (h k hk)
theorem WA {a:Act}(ha:a.defers=[])(D:Nat)(ds:List Deferred):({fu a ds with defers:=[cD D]++(fu a ds).defers}:Act)=fu (fu a [cD D]) ds:=by
 unfold fu;rw[ha];simp
section
variable {mo:Mode}{P:Program}{o:bC}{n:Nat}{σ:gW}{a:Act}{w:World}{T:List (dy P)}{B:Code}{Q:iM}{st:List It}
theorem zk {ds:List Deferred}(D:Nat):∀ {r:List It} (e:Exit) (a:Act) (w:World),Wx r=true->post ⟨none,cD D::ds⟩ P B (Lj D Q) r e a w->post ⟨none,ds⟩ P B Q r e (fu a [cD D]) w
 |[],e,a,w,_,h=>h
 | .lp _::_,_,_,_,hr,_=>by cases hr
 | .dM i::r,e,a,w,hr,h=>by
  have ih:=fun e a w=>zk (ds:=ds) D (r:=r) e a w hr
  cases e with
  |exit j=>
   have h:if j=i then post ⟨none,cD D::ds⟩ P B (Lj D Q) r .normal a w else post ⟨none,cD D::ds⟩ P B (Lj D Q) r (.exit j) a w:=h
   show if j=i then post ⟨none,ds⟩ P B Q r .normal _ w else post ⟨none,ds⟩ P B Q r (.exit j) _ w
   split
   .rename_i q;rw[if_pos q] at h;exact ih _ _ _ h
   rename_i q;rw[if_neg q] at h;exact ih _ _ _ h
  |_=>exact ih _ _ _ h
 | .run p::r,e,a,w,hr,h=>by
  have ih:=fun e a w=>zk (ds:=ds) D (r:=r) e a w hr
  cases e with
  |normal=>
   have h:(sub B p).wpIn Fence.wide 0 P (o9 ⟨none,cD D::ds⟩ (post ⟨none,cD D::ds⟩ P B (Lj D Q) r)) (fu a (cD D::ds)) w:=h
   show(sub B p).wpIn Fence.wide 0 P (o9 ⟨none,ds⟩ (post ⟨none,ds⟩ P B Q r)) (fu (fu a [cD D]) ds) w
   rw[zh]
   refine wpIn_mono h fun e a w ⟨a0,h1,h2⟩=>⟨fu a0 [cD D],?_,ih _ _ _ h2⟩
   rw[h1,zh];rfl
  |_=>exact ih _ _ _ h
theorem Fl {Y:Type}{f:FuncId}(XW:Jy P f)(acc:Y->gW)(kp:Nat)(Inv:Nat->Y->Prop)(y0:Y)(ρ:List (Nat×Option Nat))(pd:l5 (El wz))(d:List (List Int)×(List (Int×Int)×(List (Int×Int)×List Int)))
  (h:iZ o n σ a w) (hpd:pd=(some d:Option (El wz))) (hI:Inv 0 y0)
  (round:∀(k:Nat) (y:Y) (og:Orig) (G:Nat->Prop) (gS:∀b,G b->¬og.S b) (gin:∀b,G b->b<og.w.heap.size) (A:bF) (l:Nat) (a:Act) (w:World) (K:iM),
   (∀(y':Y) (ρ:List (Nat×Option Nat)) {CJ:gW} {a:Act} {w:World},iZ ⟨og,G,gS,gin,(· <kp),A,kp⟩ n CJ a w->Inv (k+1) y'->(h2:gl ρ CJ (Pu (acc y')):=by delta gl;kernel_rfl)->(h3:jh ρ (Pu (acc y'))=true:=by kernel_rfl)->(h4:rS ρ kp=true:=by kernel_rfl)->K .normal a w)->
   k<d.2.2.2.length->Inv k y->iZ ⟨og,G,gS,gin,(· <kp),A,kp⟩ n (xS (Ab P T [] n B [.run ((gI (vo B n (acc y0) st)).pt++[0])] (SR (gI (vo B n (acc y0) st)).p (d.2.2.2.getD k 0) (acc y)))) a w->
   At ⟨some l,[]⟩ P T B K [.run ((gI (vo B n (acc y0) st)).pt++[1])] a w)
  (after:∀(y:Y) (D:Nat) (a:Act) (w:World),Inv d.2.2.2.length y->iZ o n (abu D (acc y)) a w->At ⟨none,cD D::mo.ds⟩ P T B (Lj D Q) (gI (vo B n (acc y0) st)).r a w)
  (Kn:mo.ro=none:=by rfl) (ht:(vo B n (acc y0) st).isSome=true:=by kernel_rfl) (hf:(gI (vo B n (acc y0) st)).f=f:=by kernel_rfl)
  (hj:jd (acc y0) (gI (vo B n (acc y0) st)).j=some (.ext (.vC wz pd)):=by kernel_rfl)
  (c1:∀y,(acc y).env=(acc y0).env:=by intro y;kernel_rfl) (c2:abt kp (acc y0).env=true:=by kernel_rfl) (c3:∀y,Pr (acc y).rs=true:=by intro y;kernel_rfl)
  (c4:∀y,Nat.ble kp (acc y).nx=true:=by intro y;kernel_rfl) (c5:Nat.ble o.kp kp=true:=by kernel_rfl)
  (c6:(Nat.blt (gI (vo B n (acc y0) st)).q kp && Nat.blt (gI (vo B n (acc y0) st)).j kp)=true:=by kernel_rfl) (c7:∀y,qB (gI (vo B n (acc y0) st)) (acc y)=true:=by intro y;kernel_rfl)
  (c8:∀y x,ZY (Ab P T [] n B [.run ((gI (vo B n (acc y0) st)).pt++[0])] (SR (gI (vo B n (acc y0) st)).p x (acc y)))=true:=by intro y x;kernel_rfl)
  (h1:eL ρ σ (acc y0):=by delta eL;kernel_rfl) (h2:gl ρ σ (acc y0):=by delta gl;kernel_rfl) (h3:jh ρ (acc y0)=true:=by kernel_rfl) (h4:rS ρ o.kp=true:=by kernel_rfl):At mo P T B Q st a w:=by
 have hs:=uT ρ h h1 h2 h3 h4
 clear h h1 h2 h3 h4
 subst hpd
 obtain⟨I,IK⟩:=Option.isSome_iff_exists.1 ht
 simp only[IK,gI] at round after hf hj c6 c7 c8
 clear ht
 unfold vo at IK
 split at IK
 .rename_i pt r
  split at IK
  .rename_i t ps asg body kC
   split at IK
   .rename_i x f' q J9 he
    split at IK
    .rename_i bt j hR
     split at IK
     .rename_i hg
      cases IK
      dsimp only at round after hf hj c6 c7 c8
      subst hf
      obtain⟨⟨A0,S0,H⟩,abX,np⟩:=hs
      rw[Bool.and_eq_true] at hg c6
      have hxn:=qz hg.1
      have hq:=qz c6.1
      have hjk:=qz c6.2
      have Z0:ps= #[x]:=by rw[<-Array.toList_inj,J9]
      have hv:a.eval (.tmp t)= .func (.func f') #[] #[.pointer (some ⟨A0.b q,0,none⟩)]:=by
       have hv:=(H.env t _ he).1 (fun l hl=>by cases hl)
       simp only[Act.eval,Array.getD_eq_getD_getElem?]
       rw[show a.tmps[t]?=some (.func (.func f') #[] #[.pointer (some ⟨A0.b q,0,none⟩)]) from hv];rfl
      have Dg:∀y t e,nX (acc y) t=some e->e.ch=[]/\e.sy.all (· <kp)/\(∀A,e.sy.b7 A)/\∀A,cR (· <kp) A0 A->DH a ⟨t,e.ch,e.sy.den A⟩:=fun y t e ht=>by
       have ht:nX (acc y0) t=some e:=by unfold nX at ht ⊢;rw[<-c1 y];exact ht
       have hm:(t,some e)∈(acc y0).env:=(qQ ht).resolve_left fun q=>by cases q
       have:=List.all_eq_true.1 c2 _ hm
       simp only[Bool.and_eq_true] at this
       obtain⟨k1,k2⟩:=Wz this.2
       exact⟨List.isEmpty_iff.1 this.1,k1,k2,fun A hA=>by rw[<-Sy.congr hA k1];exact H.env t e ht⟩
      have XK:∀y j,j<kp->j<(acc y).nx:=fun y j hj=>Nat.lt_of_lt_of_le hj (Nat.le_of_ble_eq_true (c4 y))
      have hm:bw A0 (jd (acc y0)) j=some (R2.den A0 j (.ext (.vC wz (show l5 (El wz) from(some d:Option (El wz)))))):=by show(jd (acc y0) j).map _=_;rw[hj];rfl
      have gF:Rd S0 w (.pointer (A0.p j)) (show l5 (El wz) from(some d:Option (El wz))):=H.bB.ok j _ hm
      obtain⟨rb,cur,ct,fz,cs,e1,e2,e3,e4,e5⟩:=(show kQ S0 w (.pointer (A0.p j)) (some d:Option (El wz)) from od gF)
      obtain⟨v3,hv3,lT⟩:=(gZ wz e4).get (j:=3) (c:=.l .int d.2.2.2) rfl
      have lT:Rd S0 w v3 (show List Int from d.2.2.2):=lT
      obtain⟨pp,cap,rfl,z1,z2,z3⟩:=cq lT
      have e53:=(e5 3 (by decide)).trans hv3
      generalize Xz:d.2.2.2=zs at*
      refine⟨?_⟩
      show(sub B pt).j7 mo P (post mo P B Q r) a w
      rw[kC]
      obtain⟨ro,ds⟩:=mo
      have Kn:ro=none:=Kn
      subst Kn
      show(Code.rangeFunc (.tmp t) ps asg body).wpIn Fence.wide 0 P (o9 ⟨none,ds⟩ (post ⟨none,ds⟩ P B Q r)) (fu a ds) w
      refine wpIn_rangeFunc fun fn _=>?_
      obtain⟨rec,HB⟩:∃rec:LoopState->Option Code->Loop,rec=fun st pe=>{state:=st,pending:=pe,fn,tmps:=a.tmps,params:=ps,assign:=asg,body,defers:=w.heap.size}:=⟨_,rfl⟩
      obtain⟨W1,Z1⟩:∃W1,(w.alloc (.deferred (some []))).alloc (.loop (rec .ready none))=W1:=⟨_,rfl⟩
      have XL:W1.heap[w.heap.size+1]?=some (.loop (rec .ready none)):=by
       rw[<-Z1];have:=World.alloc_heap_new (w.alloc (.deferred (some []))) (.loop (rec .ready none));rwa[World.size_alloc] at this
      have eH:W1.heap[w.heap.size]?=some (.deferred (some [])):=by
       rw[<-Z1];exact(Below.heap_alloc _ _ _ (by simp)).trans (World.alloc_heap_new w _)
      have hb1:Below w.heap.size w W1:=by
       rw[<-Z1];exact((Below.refl _ w).alloc (Nat.le_refl _) _).alloc (by simp) _
      have dc:W1.heap.size=w.heap.size+2:=by rw[<-Z1];simp
      have hSl:∀k,S0 k->k≠w.heap.size+1:=fun k hk e=>by have:=H.bB.iI k hk;omega
      have eg:∀args w,(callFunc f' args).run P w= .ok (.enter f' args) w:=by
       obtain⟨⟨fn,q1,q2,q3⟩,_⟩:=XW
       intro args w
       have T8:¬fn.name= "runtime.NumGoroutine" :=by simpa using q3
       have mX:¬fn.body=none:=by
        intro e;rw[e] at q2;cases q2
       simp[callFunc,program,Sem.run,q1,T8,mX]
      refine⟨w.heap.size+1,[cD w.heap.size],W1,{target:=.fn (.func f') #[.pointer (some ⟨A0.b q,0,none⟩)],args:= #[.func (.yield (w.heap.size+1)) #[] #[]]},W1,f',
       #[.func (.yield (w.heap.size+1)) #[] #[]]++ #[.pointer (some ⟨A0.b q,0,none⟩)],W1,?_,?_,?_,?_,(fun q=>by cases q),?_⟩
      .rw[<-Z1,HB];exact run_enterLoop_outer _ _ _ _ _
      .simp only[resolve,A5,hv]
       simp[go_sem]
      .intro _ _;trivial
      .simp[invoke,go_sem,eg]
      obtain⟨J,hJ⟩:∃J:Nat->World->Prop,J=fun k W=> ∃y A S,Inv k y/\MS o kp A0 S0 (w.heap.size+1) w.heap.size (acc y) A S W/\cK S0 w W/\W.heap[w.heap.size+1]?=some (.loop (rec .ready none))/\W.heap[w.heap.size]?=some (.deferred (some [])):=⟨_,rfl⟩
      refine(XW.2 (w.heap.size+1) (A0.b q) rb cap pp zs J (Nat.le_trans z1 (Nat.le_trans z2 (by decide))) ?_ ?_ ?_ ?_ W1 ?_).mono ?_
      .rw[hJ]
       rintro k W ⟨y,A,S,_,m,_,_,_⟩
       have h7:=c7 y
       unfold qB at h7
       dsimp only at h7
       split at h7
       .rename_i bt' j' Kg
        have:=b6 h7
        subst this
        have zL:bw A (jd (acc y)) q=some (Rs.of (.box (A.b q) bt' [.pointer (A.p j')])):=by simp[bw,Kg,R2.den,Sc.den]
        have hb:W.heap[A.b q]?=some (.cells #[.pointer (A.p j')] bt' (0,0)):=m.bB.ok q _ zL
        have eb:A0.b q=A.b q:=(m.SU q hq).2.1
        have ep:A0.p j'=A.p j':=by
         have:=(m.SU j' hjk).1
         unfold bF.v at this
         injection this
        rw[eb,cell_of_row W _ 0 _ _ _ hb]
        show some (Value.pointer (A.p j'))=_
        rw[<-ep];exact congrArg some e1
       cases h7
      .rw[hJ]
       rintro k W ⟨y,A,S,_,m,hk,_,_⟩
       rw[cell_of_row W rb 3 cur ct fz ((hk rb e2).trans e3)]
       exact e53
      .rcases z3 with z3|⟨g,off,Z2,t',fz',z4,z5,z6,z7⟩
       .exact .inl z3
       refine .inr ⟨g,off,z4,?_⟩
       rw[hJ]
       rintro k W ⟨y,A,S,_,m,hk,_,_⟩ i hi
       obtain⟨tc,q1,q2⟩:=z7 i hi
       have q1:tc=[.int .i64 zs[i]]:=q1
       have q2:=q2 0 (by decide)
       rw[cell_of_row W g (off+i) Z2 t' fz' ((hk g z5).trans z6)]
       have q2:Z2[off+i*1+0]?=tc[0]?:=q2
       rw[Nat.mul_one,Nat.add_zero] at q2
       rw[q2,q1,List.getD_eq_getElem?_getD,List.getElem?_eq_getElem hi];rfl
      ·
       subst hJ
       rintro k W ⟨y,A,S,hi,m,hk,hl,hD⟩ iL
       have hy:=run_yield (P:=P) (args:= #[.int .i64 (zs.getD k 0)]) hl (by rw[HB,Z0];rfl)
       rw[HB] at hy
       refine⟨fn,_,asg,body,hy,roundIn_of_wpIn tv ?_⟩
       have abv:({tmps:=(ps.zip #[.int .i64 (zs.getD k 0)]).foldl (fun t (p,v)=>t.setIfInBounds p v) a.tmps,defers:=[]}:Act)=a.put (some x) (.int .i64 (zs.getD k 0)):=by
        have hd:=H.fh
        obtain⟨tm,df⟩:=a
        simp only at hd
        subst hd Z0
        simp[Act.put]
       have H1:cv (m.bB.zJ kp A) n A S (· <(acc y).nx) (nX (acc y)) (jd (acc y)) a W:=
        ⟨H.size,H.fh,fun t e he=>(Dg y t e he).2.2.2 A m.SU,fun t e he _=>⟨Sy.mono (XK y) (Dg y t e he).2.1,(Dg y t e he).2.2.1 A⟩,m.dB,m.bB.ZZ kp A,fun j x hj=>gJ (zf (c3 y) hj),⟨XK y,cR.refl _ _⟩⟩
       have H2:=H1.put (C:=[]) (d:=x) (y:=.one (.v (.int .i64 (zs.getD k 0)))) (u:=.int .i64 (zs.getD k 0)) hxn (fun t e he l hl=>by rw[(Dg y t e he).1] at hl;cases hl) (fun l hl=>by cases hl) (fun _=>⟨tv,tv⟩) ⟨fun _=>rfl,fun q=>(q fun l hl=>by cases hl).elim⟩
       have O2:iZ (m.bB.zJ kp A) n (SR x (zs.getD k 0) (acc y)) (a.put (some x) (.int .i64 (zs.getD k 0))) W:=by
        refine⟨⟨A,S,H2⟩,fun t e he=>?_,fun j q=>q⟩
        have he:l9 (nX (acc y)) x (some ⟨[],.one (.v (.int .i64 (zs.getD k 0)))⟩) t=some e:=he
        by_cases q:x=t
        .subst q;rw[e8] at he;cases he;rfl
        rw[mC q] at he;exact(Dg y t e he).1
       have h8:=c8 y (zs.getD k 0)
       have gF:=round k y
       cases hE:Ab P T [] n B [.run (pt++[0])] (SR x (zs.getD k 0) (acc y)) with
       |none=>rw[hE] at h8;cases h8
       |some ex=>
       rw[hE] at h8 gF
       unfold ZY at h8
       simp only[Bool.and_eq_true] at h8
       obtain⟨a1,a2,a3,a4⟩:=h8
       have a1:=List.isEmpty_iff.1 a1
       have a2:=List.isEmpty_iff.1 a2
       have a3:ex.st=[]:=by cases uB:ex.st<;>rw[uB] at a3<;>first|rfl|cases a3
       have G1:=(go (mo:=⟨some (w.heap.size+1),[]⟩) (T:=T) (B:=B) (st:=[.run (pt++[0])]) (pr:=True) (Q:=fun e a1 w1=>e= .normal/\iZ (m.bB.zJ kp A) n ex.σ a1 w1) [] O2 tv
        (fun a w h=>by rw[hE] at h ⊢;show At _ P T B _ ex.st a w;rw[a3];exact⟨⟨rfl,h⟩⟩) (by rw[hE];rfl) (by rw[hE];show Rh ex.cs=True;rw[a1];rfl) (fun A w=>by rw[hE];show ex.hs.map _=_;rw[show xH (some ex)=ex.hs from rfl,a2];rfl)).get
       have G1:(sub B (pt++[0])).j7 ⟨some (w.heap.size+1),[]⟩ P (fun e a1 w1=>e= .normal/\iZ (m.bB.zJ kp A) n ex.σ a1 w1) (a.put (some x) (.int .i64 (zs.getD k 0))) W:=by
        refine yl G1 fun e a w h=>?_
        cases e with
        |normal=>exact h
        |_=>exact h
       rw[ez,kC,Hz] at G1
       have G1:asg.wpIn (Fence.wide.inRound (w.heap.size+1)) 0 P (o9 ⟨some (w.heap.size+1),[]⟩ (fun e a1 w1=>e= .normal/\iZ (m.bB.zJ kp A) n ex.σ a1 w1)) (fu (a.put (some x) (.int .i64 (zs.getD k 0))) []) W:=G1
       rw[k8] at G1
       rw[abv]
       refine wpIn_mono G1 ?_
       rintro e Z3 w1 ⟨a0,ea,rfl,hq⟩
       have ea:Z3=fu a0 []:=ea
       rw[k8] at ea
       subst ea
       obtain⟨⟨A1,S1,K2⟩,ch1,_⟩:=hq
       have m1:=m.next K2
       have gE:=(m.lone m.l1 K2.bB).2.trans hl
       have hD1:=(m.lone m.d1 K2.bB).2.trans hD
       have Ac:cK S0 w w1:=fun i hi=>(m.keeps K2.bB i hi).trans (hk i hi)
       refine⟨_,run_beginRound gE (by rw[HB]),?_⟩
       have m2:=m1.put (.loop {rec .ready none with state:=.busy}) (by omega)
       have gH:(w1.putObj (w.heap.size+1) (.loop {rec .ready none with state:=.busy})).heap[w.heap.size+1]?=some (.loop {rec .ready none with state:=.busy}):=World.putObj_heap_same m1.l1.2.2.2
       have hD2:(w1.putObj (w.heap.size+1) (.loop {rec .ready none with state:=.busy})).heap[w.heap.size]?=some (.deferred (some [])):=(World.putObj_heap_other (by omega)).trans hD1
       have hk2:=BN (.loop {rec .ready none with state:=.busy}) Ac hSl
       have H3:cv (m2.bB.zJ kp A1) n A1 S1 (· <ex.σ.nx) (nX ex.σ) (jd ex.σ) Z3 _:=
        ⟨K2.size,K2.fh,K2.env,K2.l8,m2.dB,m2.bB.ZZ kp A1,fun j x hj=>gJ (zf a4 hj),⟨K2.s8.1,cR.refl _ _⟩⟩
       have B2:=(gF (m2.bB.zJ kp A1).toOrig (m2.bB.zJ kp A1).G (m2.bB.zJ kp A1).gS (m2.bB.zJ kp A1).gin A1 (w.heap.size+1) Z3 _ (fun e a3 w3=>e= .normal/\∃y',Inv (k+1) y'/\iZ (m2.bB.zJ kp A1) n (Pu (acc y')) a3 w3)
        (fun y' fQ _ _ _ hk LM h2 h3 h4=>⟨rfl,y',LM,uT fQ hk rfl h2 h3 h4⟩) iL hi ⟨⟨A1,S1,H3⟩,ch1,fun j q=>q⟩).get
       have B2:(sub B (pt++[1])).j7 ⟨some (w.heap.size+1),[]⟩ P (fun e a3 w3=>e= .normal/\∃y',Inv (k+1) y'/\iZ (m2.bB.zJ kp A1) n (Pu (acc y')) a3 w3) Z3 (w1.putObj (w.heap.size+1) (.loop {rec .ready none with state:=.busy})):=by
        refine yl B2 fun e a w h=>?_
        cases e with
        |normal=>exact h
        |_=>exact h
       rw[ez,kC,HA] at B2
       have B2:body.wpIn (Fence.wide.inRound (w.heap.size+1)) 0 P (o9 ⟨some (w.heap.size+1),[]⟩ (fun e a3 w3=>e= .normal/\∃y',Inv (k+1) y'/\iZ (m2.bB.zJ kp A1) n (Pu (acc y')) a3 w3)) (fu Z3 []) (w1.putObj (w.heap.size+1) (.loop {rec .ready none with state:=.busy})):=B2
       rw[k8] at B2
       refine wpIn_mono B2 ?_
       rintro e a3 w3 ⟨a4',_,rfl,y',LM,⟨A3,S3,K4⟩,_,_⟩
       have m3:MS o kp A0 S0 (w.heap.size+1) w.heap.size (acc y') A3 S3 w3:=m2.next (σ2:=acc y') K4
       have lT:=(m2.lone m2.l1 K4.bB).2.trans gH
       have hD3:=(m2.lone m2.d1 K4.bB).2.trans hD2
       have hk3:cK S0 w w3:=fun i hi=>(m2.keeps K4.bB i hi).trans (hk2 i hi)
       refine⟨_,_,run_endRound (P:=P) none lT,rfl,y',A3,S3,LM,m3.put _ (by omega),BN _ hk3 hSl,?_,(World.putObj_heap_other (by omega)).trans hD3⟩
       rw[World.putObj_heap_same m3.l1.2.2.2,HB];rfl
      ·
       rw[hJ]
       have hS:∀k,S0 k->k<w.heap.size:=H.bB.iI
       have iY:∀j r b,bw A0 (jd (acc y0)) j=some r->r.has b->b<w.heap.size:=fun j r b q1 q2=>(H.bB.own j r b q1 q2).2.1
       have abY:=H.bB.pT.size
       refine⟨y0,A0,S0,hI,⟨H.bB.on hb1,H.dB,cR.refl _ _,fun k hk=>⟨fun j r q1 q2=>(H.bB.own j r k q1 q2).2.2 hk,by have:=hS k hk;omega⟩,⟨.inl (by omega),fun q=>by have:=hS _ q;omega,fun j r q1 q2=>by have:=iY j r _ q1 q2;omega,by omega⟩,
        ⟨.inl (by omega),fun q=>by have:=hS _ q;omega,fun j r q1 q2=>by have:=iY j r _ q1 q2;omega,by omega⟩⟩,fun k hk=>hb1.block k (hS k hk),XL,eH⟩
      rw[hJ]
      rintro e W2 ⟨⟨v,rfl⟩,y,A,S,hi,m,hk,hl,hD⟩
      refine⟨none,W2.putObj (w.heap.size+1) (.loop {rec .ready none with state:=.exhausted}),by have:=run_endLoop (P:=P) hl (by rw[HB];simp);rw[HB] at this ⊢;exact this,?_⟩
      have m4:=m.put (.loop {rec .ready none with state:=.exhausted}) (by omega)
      have hD4:(W2.putObj (w.heap.size+1) (.loop {rec .ready none with state:=.exhausted})).heap[w.heap.size]?=some (.deferred (some [])):=(World.putObj_heap_other (by omega)).trans hD
      have hkp:=Nat.le_of_ble_eq_true c5
      have H5:cv o n A S (· <(acc y).nx+1) (nX (acc y)) (jd (acc y)) a (W2.putObj (w.heap.size+1) (.loop {rec .ready none with state:=.exhausted})):=
       ⟨H.size,H.fh,fun t e he=>(Dg y t e he).2.2.2 A m.SU,fun t e he _=>⟨Sy.mono (fun j hj=>Nat.lt_succ_of_lt (XK y j hj)) (Dg y t e he).2.1,(Dg y t e he).2.2.1 A⟩,
        fun j x hj=>⟨Nat.lt_succ_of_lt (m4.dB j x hj).1,R2.mono (fun j hj=>Nat.lt_succ_of_lt hj) (m4.dB j x hj).2.1,(m4.dB j x hj).2.2⟩,m4.bB,fun j x hj=>gJ (zf (c3 y) hj),
        ⟨fun j hj=>Nat.lt_succ_of_lt (XK y j (Nat.lt_of_lt_of_le (np j hj) hkp)),H.s8.2.trans (m.SU.mono fun j hj=>Nat.lt_of_lt_of_le (np j hj) hkp)⟩⟩
      have H6:=H5.mV (w':=W2.putObj (w.heap.size+1) (.loop {rec .ready none with state:=.exhausted})) (S':=S) (acc y).nx (some (.ext (.DT w.heap.size))) (fun y e=>by cases e;exact⟨Nat.lt_succ_self _,tv,tv⟩) (fun y e=>by cases e;exact gJ rfl)
       (m4.bB.put _ (Mp w.heap.size) hD4 fun b e=>by
        have e:b=w.heap.size:=e
        subst e
        exact⟨m4.d1.1,m4.d1.2.2.2,m4.d1.2.1,fun i ri _ hi=>m4.d1.2.2.1 i ri hi⟩)
      refine⟨fu a [cD w.heap.size],WA H.fh _ _,zk w.heap.size _ _ _ hg.2 (after y w.heap.size a _ hi ⟨⟨A,S,H6⟩,fun t e he=>(Dg y t e he).1,np⟩).get⟩
     cases IK
    cases IK
   cases IK
  cases IK
 cases IK
theorem rg_ (k:Q .normal a w)(ht:Wy st=true:=by kernel_rfl):At mo P T B Q st a w:=by
 unfold Wy at ht
 split at ht
 .exact⟨k⟩
 cases ht
def BO:List Nat->iM->iM
 |[],Q=>Q
 |D::Ds,Q=>Lj D (BO Ds Q)
theorem Fm:∀ {Ds:List Nat} {e:Exit} {a:Act} {w:World},BO Ds Q e a w↔Q e (fu a (Ds.map cD)) w
 |[],e,a,w=>by rw[List.map_nil,k8];exact Iff.rfl
 |D::Ds,e,a,w=>by
  show BO Ds Q e (fu a [cD D]) w↔_
  rw[Fm,zh];rfl
def SV (σ:gW)(j:Nat):gW:=⟨σ.env,(j,none)::σ.rs,σ.nx⟩
def lkD:List Nat->List Nat->gW->Prop
 |[],[],_=>True
 |j::js,D::Ds,σ=>jd σ j=some (.ext (.DT D))/\lkD js Ds (SV σ j)
 |_,_,_=>False
theorem und {D j:Nat}(h:iZ o n σ a w)(hj:jd σ j=some (.ext (.DT D))):w.heap[D]?=some (.deferred (some []))/\iZ o n (SV σ j) a (w.putObj D (.deferred none)):=by
 obtain⟨⟨A,S,H⟩,h0,np⟩:=h
 have hm:bw A (jd σ) j=some (Mp D):=by show(jd σ j).map _=_;rw[hj];rfl
 refine⟨H.bB.ok j _ hm,⟨A,S,?_⟩,h0,np⟩
 exact H.mV j none (fun y e=>by cases e) (fun y e=>by cases e) (H.bB.mut j hm ⟨rfl,rfl,rfl,by rw[World.putObj_size];exact Nat.le_refl _,fun k _ hn=>World.putObj_heap_other fun e=>hn e⟩)
theorem Fo {fn:Func}{R:Ending->World->Prop}:∀ {js Ds:List Nat} {σ:gW} {w:World},iZ o n σ a w->lkD js Ds σ->(∀w',iZ o n (js.foldl SV σ) a w'->LeavesInM Fence.wide 2 P fn a.tmps R [] .returning w')->LeavesInM Fence.wide 2 P fn a.tmps R (Ds.map cD) .returning w
 |[],[],σ,w,h,_,k=>k w h
 |j::js,D::Ds,σ,w,h,hl,k=>by
  obtain⟨h1,h2⟩:=und h hl.1
  exact⟨by simp,.inl ⟨D,_,rfl,run_takeDeferred h1,Fo h2 hl.2 k⟩⟩
 |[],_::_,_,_,_,hl,_=>hl.elim
 |_::_,[],_,_,_,hl,_=>hl.elim
theorem Z4 {o:Orig}{fn:Func}{rs:List Ty}{fx:iX rs}(js Ds:List Nat)(y:iX rs)(h:iZ (bC.of o) n σ a w)(e:y=fx)(hl:lkD js Ds σ:=by first|exact tv|exact⟨by kernel_rfl,tv⟩|exact⟨by kernel_rfl,by kernel_rfl,tv⟩)(ht:Ev B st=true:=by kernel_rfl)(hy:Y1 P fn rs (js.foldl SV σ)=some ⟨y⟩:=by kernel_rfl):At ⟨none,Ds.map cD⟩ P T B (BO Ds (bodyPostM Fence.wide 2 P fn (Ie o fun S v w'=>kA S w' rs v fx))) st a w:=by
 subst e
 have Bc:=h.ok.choose_spec.choose_spec.fh
 have key:LeavesInM Fence.wide 2 P fn a.tmps (Ie o fun S v w'=>kA S w' rs v y) (Ds.map cD) .returning w:=by
  refine Fo h hl fun w' h'=>?_
  obtain⟨⟨A,S,H⟩,h0⟩:=h'
  obtain⟨ys,h1,hy⟩:=p9 H hy
  obtain⟨h2,hy⟩:=p8 hy
  obtain⟨x,h3,hy⟩:=uV H (T':=rT o w') (fun k hk=>tH hk) (fun c hc j hj z hz=>(pX H h2 c hc j hj z hz).up fun k hk=>tH hk) hy
  have hx:x=y:=by have:=Option.some.inj hy;exact congrArg ULift.down this
  subst hx
  exact⟨_,mF (ys:=ys.map (Sy.den A)) h1,_,rfl,GQ h3,yw H.bB.pT⟩
 have e1:∀e,(e= .normal\/e= .ret)->BO Ds (bodyPostM Fence.wide 2 P fn (Ie o fun S v w'=>kA S w' rs v y)) e a w:=fun e he=>by
  rw[Fm]
  have:LeavesInM Fence.wide 2 P fn (fu a (Ds.map cD)).tmps (Ie o fun S v w'=>kA S w' rs v y) (fu a (Ds.map cD)).defers .returning w:=by
   show LeavesInM Fence.wide 2 P fn a.tmps _ (a.defers++Ds.map cD) .returning w
   rw[Bc];exact key
  rcases he with rfl|rfl<;>exact this
 unfold Ev at ht
 split at ht
 .rename_i p r
  refine⟨?_⟩
  show(sub B p).j7 ⟨none,Ds.map cD⟩ P (post ⟨none,Ds.map cD⟩ P B _ r) a w
  have hc:sub B p= .ret:=by
   cases hc:sub B p<;>rw[hc] at ht<;>first|rfl|cases ht
  rw[hc]
  exact wP (k9 (e1 _ (.inr rfl)))
 .exact⟨e1 _ (.inl rfl)⟩
 cases ht
theorem WB {f:FuncId}(fn:Func)(n:Nat){args:List Value}{R:Ending->World->Prop}(hf:P.funcs[f]?=some fn)
  (k:∀a,T9 n a (Ib ((List.range args.length).zip args))->(sub (fn.body.getD .skip) []).wp P (bodyPostM Fence.wide 2 P fn R) a w) (hb:fn.body.isSome=true:=by kernel_rfl) (hn:fn.ntmps=n:=by kernel_rfl) (hl:decide (args.length<=n)=true:=by kernel_rfl):Calls P f args.toArray w R:=by
 obtain⟨B,hb⟩:=Option.isSome_iff_exists.1 hb
 rw[hb] at k
 have hl:=of_decide_eq_true hl
 refine callsIn_wide.1 (callsIn_of_wp_marks (F:=Fence.wide) (n:=2) hf hb tv (wpIn_wide.2 ?_) rfl)
 rw[<-Ic B]
 refine k _ ⟨?_,rfl,fun e he=>?_⟩
 .simp;omega
 obtain⟨x,hx,rfl⟩:=List.mem_map.1 he
 obtain⟨j,hj,rfl⟩:=List.getElem_of_mem hx
 have J8:j<args.length:=by simp at hj;exact hj
 refine⟨fun _=>?_,fun hn=>(hn (fun l hl=>by simp at hl)).elim⟩
 simp only[List.getElem_zip,List.getElem_range]
 rw[Array.getElem?_append_left (by simpa using J8)]
 simp[J8]
theorem SX {f:FuncId}(fn:Func)(n:Nat)(T:List (dy P)){c9:List (Bool×Ty)}{rs:List Ty}{rY:jE c9->Prop}{fx:jE c9->iX rs}(hf:P.funcs[f]?=some fn)
  (k:∀(o:Orig) (x:jE c9),rY x->∀a w,iZ (bC.of o) n (XI c9 x) a w->At ⟨none,([]:List Nat).map cD⟩ P T (fn.body.getD .skip) (BO [] (bodyPostM Fence.wide 2 P fn (Ie o fun S v w'=>kA S w' rs v (fx x)))) [.run []] a w)
  (hb:fn.body.isSome=true:=by kernel_rfl) (hn:fn.ntmps=n:=by kernel_rfl) (hl:decide (c9.length<=n)=true:=by kernel_rfl):bG P f c9 rs rY fx:=by
 intro o vs x hx Cl
 have hlen:=qV hx
 refine WB fn n hf (fun a ha=>?_) hb hn (by rw[hlen];exact hl)
 obtain⟨A,h1,h2,h3,h5,h4⟩:=qT (o:=bC.of o) c9 x vs 0 Mq (fun _=>False) (qc (fun k hk=>⟨hk,fun q=>q⟩) hx) fun _ _ q=>q
 have ji:∀t e,nX (XI c9 x) t=some e->e.ch=[]/\∃y,(cU c9 x 0).1[t]?=some y/\e=⟨[],y⟩:=fun t e he=>by
  obtain⟨_,y,q1,q2⟩:=kN he
  exact⟨by rw[q2],y,by simpa using q1,q2⟩
 have H0:cv (bC.of o) n A o.S (fun _=>False) (fun _=>none) (fun _=>none) a o.w:=⟨ha.1,ha.2.1,fun _ _ q=>(by cases q),fun _ _ q=>(by cases q),fun _ _ q=>(by cases q),gp.start (bC.of o),fun _ _ q=>(by cases q),⟨fun _ q=>q.elim,fun _ q=>q.elim⟩⟩
 have H1:=H0.ro (cR.refl _ _) h3
 have hle:∀j,FU (fun _=>False) (cU c9 x 0).2 j->j<(cU c9 x 0).2.length:=fun j hj=>by
  rcases hj with hj|⟨z,hz⟩
  .exact hj.elim
  have:=h5 _ hz;simpa using this
 have qd:iZ (bC.of o) n (XI c9 x) a o.w:=by
  refine⟨⟨A,o.S,H1.size,H1.fh,fun t e he=>?_,fun t e he _=>?_,fun j y hj=>?_,H1.bB,H1.args,⟨fun _ q=>q.elim,fun _ q=>q.elim⟩⟩,fun t e he=>(ji t e he).1,fun _ q=>q.elim⟩
  .obtain⟨_,y,q1,rfl⟩:=ji t e he
   have hv:vs[t]?=some (y.den A):=by rw[<-h2,List.getElem?_map,q1];rfl
   have A7:=(List.getElem?_eq_some_iff.1 hv).1
   refine ha.2.2 ⟨t,[],y.den A⟩ (List.mem_map.2 ⟨(t,y.den A),?_,rfl⟩)
   refine List.mem_iff_getElem?.2 ⟨t,?_⟩
   rw[List.getElem?_zip_eq_some]
   exact⟨by simp[A7],hv⟩
  .obtain⟨_,y,q1,rfl⟩:=ji t e he
   have:=h4 y (List.mem_of_getElem? q1)
   exact⟨Sy.mono hle this.1,this.2⟩
  have:=H1.dB j y hj
  exact⟨hle j this.1,R2.mono hle this.2.1,this.2.2⟩
 have:=(k o x Cl a o.w qd).get
 have this:(sub (fn.body.getD .skip) []).j7 pl P (post pl P (fn.body.getD .skip) (bodyPostM Fence.wide 2 P fn (Ie o fun S v w'=>kA S w' rs v (fx x))) []) a o.w:=this
 exact yj.1 this
end
theorem Pv:bG Tryz.prog 110 [(false,(.list .int)),(false,.int)] [(.list .int)] (fun x=>0<=(I_ x.2.1)/\(I_ x.2.1)<=((J_ x.1).length:Int)/\(J_ x.1).length<=1000000) (fun x=>(cW (J_ x.1) (I_ x.2.1),())):=by
 refine bn Tryz.f110 20 [] Tryz.func110 fun o x hd _ _ h=>?_
 obtain⟨(l:List Int),(i:Int),_⟩:=x
 have jt:=dh h 0 l
 change 0<=i/\i<=(l.length:Int)/\l.length<=1000000 at hd
 obtain⟨i0,i1,hl⟩:=hd
 refine go (pr:=(0<=(0:Int)/\(0:Int)<=(l.length:Int)/\(l.length:Int)<=2147483647)/\(0<=i/\i<=(l.length:Int))/\((List.replicate (0:Int).toNat 0).length+(l.drop i.toNat).length<=2147483647)/\(0<=i/\i<=i/\i<=(l.length:Int))/\(((List.replicate (0:Int).toNat 0)++(l.drop i.toNat)).length+(l.take i.toNat).length<=2147483647)) [] h ⟨⟨by omega,by omega,by omega⟩,ct,ln,⟨by omega,by omega,by omega⟩,ln⟩ fun _ _ h=>?_
 exact out (((((List.replicate (0:Int).toNat 0)++(l.drop i.toNat))++(l.take i.toNat)):List Int),()) h rfl
def Pw:dy Tryz.prog:=plain Pv
theorem SY:bG Tryz.prog 69 [(false,(.list .int))] [(.list .int)] (fun x=>(J_ x.1).length<=1000000) (fun x=>(aI (J_ x.1),())):=by
 refine bn Tryz.f69 24 [Pw] Tryz.func69 fun o x hd _ _ h=>?_
 obtain⟨(l:List Int),_⟩:=x
 have jt:=dh h 0 l
 change l.length<=1000000 at hd
 have hb:=lz l l.length
 refine aZ [] h fun _ _ h=>?_
 refine bq Int Int (fun i b=>⟨[(0,eo 0),(3,en b),(6,eo 0),(7,en (l.length:Int)),(8,en i)],[(0,some (.ar .int l))],1⟩) (fun i b=>0<=i/\i<=(l.length:Int)/\b=gN l i.toNat) (fun i b=>((l.length:Int)-i).toNat) 0 0 (ir 1) h ⟨Int.le_refl _,Int.natCast_nonneg _,rfl⟩ fun i b _ _ _ eH hI h=>?_
 obtain⟨h0,h1,h2⟩:=hI
 refine aZ [] h fun _ _ h=>?_
 refine av h (fun(q1:i<(l.length:Int))=>?_) (fun(q1:¬(i<(l.length:Int)))=>?_)
 .obtain⟨b0,b1⟩:=lz l i.toNat
  rw[<-h2] at b0 b1
  refine go (pr:=(bX i l.length)/\(bX b l.length)) [] h ⟨bx,bx⟩ fun _ _ h=>?_
  refine av h (fun(q2:(l.getD i.toNat 0)<(l.getD b.toNat 0))=>?_) (fun(q2:¬((l.getD i.toNat 0)<(l.getD b.toNat 0)))=>?_)
  .refine go (pr:=(bR .i64 (i+1))) [] h cz fun _ _ h=>?_
   exact dR (eH (i+1) i (ir 1) h ⟨by omega,by omega,by rw[vW l h0,<-h2,if_pos q2]⟩ (by omega))
  refine go (pr:=(bR .i64 (i+1))) [] h cz fun _ _ h=>?_
  exact dR (eH (i+1) b (ir 1) h ⟨by omega,by omega,by rw[vW l h0,<-h2,if_neg q2]⟩ (by omega))
 obtain⟨b0,b1⟩:=lz l i.toNat
 rw[<-h2] at b0 b1
 have he:i.toNat=l.length:=by omega
 rw[he] at h2
 refine go (pr:=(0<=b/\b<=(l.length:Int)/\l.length<=1000000)) [] h (⟨by omega,by omega,by omega⟩) fun _ _ h=>?_
 exact out ((cW l b:List Int),()) h (by rw[h2];rfl)
def Dh:dy Tryz.prog:=plain SY
theorem WC:bG Tryz.prog 114 [(false,(.list (.list .int))),(true,(.map .int .int)),(true,(.list .int))] [(.ptr (.pair (.list (.list .int)) (.pair (.map .int .int) (.pair (.map .int .int) (.list .int)))))] (fun x=>aC (K_ x.1)/\az (K_ x.1)) (fun x=>(some ((K_ x.1).map aI,(show bh .int Int from x.2.1),lB (K_ x.1) (K_ x.1).length,(J_ x.2.2.1)),())):=by
 refine bn Tryz.f114 54 [Dh] Tryz.func114 fun o x hd _ _ h=>?_
 obtain⟨(fF:List (List Int)),(lv:bh .int Int),(ds:List Int),_⟩:=x
 have jt:=gC h 0 fF
 have gH:=dh h 2 ds
 change aC fF/\az fF at hd
 obtain⟨eS,dc⟩:=hd
 have WD:=dc.1
 refine aZ [] h fun _ _ h=>?_
 refine jk Int (List (List Int)) (List (Int×Int)) (fun i ts pl=>⟨[(7,ep 0),(20,eo 1),(21,en (fF.length:Int)),(22,en i)],[(0,some (.box 143 [.own 2,.mp 3,.mp 4,.own 5])),(1,some (.ar (.list .int) fF)),(2,some (.row 25 (.list .int) ts)),(3,some (.mL .int .int lv)),(4,some (.map .int .int pl)),(5,some (.ro .int ds))],6⟩) (fun i ts pl=>0<=i/\i<=(fF.length:Int)/\ts=(fF.take i.toNat).map aI/\pl=lB fF i.toNat) (fun i ts pl=>((fF.length:Int)-i).toNat) 0 [] [] [(0,some 28675),(1,some 0),(2,none),(3,some 1),(4,some 16387),(5,some 2)] h ⟨Int.le_refl _,Int.natCast_nonneg _,rfl,rfl⟩ fun i ts pl _ _ _ eH hI h=>?_
 obtain⟨h0,h1,h2,h3⟩:=hI
 refine aZ [] h fun _ _ h=>?_
 refine av h (fun(q1:i<(fF.length:Int))=>?_) (fun(q1:¬(i<(fF.length:Int)))=>?_)
 .have hm:(fF.getD i.toNat [])∈fF:=ag (by omega)
  have QZ:=dc.2 _ hm
  have XQ:=EK dc i.toNat
  have Iq:=di (fF.getD i.toNat [])
  have hts:ts.length=i.toNat:=by rw[h2,List.length_map,List.length_take];omega
  have XP:=yJ (lB fF i.toNat) (aI (fF.getD i.toNat []))
  refine go (pr:=(bX i fF.length)/\((fF.getD i.toNat []).length<=1000000)) [] h ⟨bx,by omega⟩ fun _ _ h=>?_
  refine bq Int (List (Int×Int)) (fun j pm=>⟨[(7,ep 0),(10,eo 1),(20,eo 2),(21,en (fF.length:Int)),(22,en i),(28,eo 1),(29,en ((aI (fF.getD i.toNat [])).length:Int)),(30,en j)],[(0,some (.box 143 [.own 3,.mp 4,.mp 5,.own 6])),(1,some (.ro .int (aI (fF.getD i.toNat [])))),(2,some (.ar (.list .int) fF)),(3,some (.row 25 (.list .int) ts)),(4,some (.mL .int .int lv)),(5,some (.map .int .int pm)),(6,some (.ro .int ds))],7⟩) (fun j pm=>0<=j/\j<=((aI (fF.getD i.toNat [])).length:Int)/\pm=tR (lB fF i.toNat) (aI (fF.getD i.toNat [])) j.toNat) (fun j pm=>(((aI (fF.getD i.toNat [])).length:Int)-j).toNat) 0 pl (rk [0,20486,1,2,3,4,5]) h ⟨Int.le_refl _,Int.natCast_nonneg _,h3⟩ fun j pm _ _ _ lS hI h=>?_
  obtain⟨j0,j1,j2⟩:=hI
  refine aZ [] h fun _ _ h=>?_
  refine av h (fun(q2:j<((aI (fF.getD i.toNat [])).length:Int))=>?_) (fun(q2:¬(j<((aI (fF.getD i.toNat [])).length:Int)))=>?_)
  .have hk:=eS _ hm _ (sI (ag (l:=aI (fF.getD i.toNat [])) (i:=j.toNat) (d:=0) (by omega)))
   have hpj:=XP j.toNat
   rw[<-j2] at hpj
   refine go (pr:=(bX j (aI (fF.getD i.toNat [])).length)/\(cA .int ((aI (fF.getD i.toNat [])).getD j.toNat 0))/\(pm.length<=2147483647)/\(bR .i64 (j+1))) [] h ⟨bx,wk,ln,cz⟩ fun _ _ h=>?_
   exact dR (lS (j+1) (b9 pm ((aI (fF.getD i.toNat [])).getD j.toNat 0) j) (ir 7) h ⟨by omega,by omega,by rw[KX j0,<-j2]⟩ (by omega))
  have hj:j.toNat=(aI (fF.getD i.toNat [])).length:=by omega
  have Q3:=j2
  rw[hj] at Q3
  refine go (pr:=(ts.length+([aI (fF.getD i.toNat [])]:List (List Int)).length<=2147483647)/\(bR .i64 (i+1))) [] h ⟨ln,cz⟩ fun _ _ h=>?_
  exact dR (eH (i+1) (ts++([aI (fF.getD i.toNat [])]:List (List Int))) pm (rk [0,2,32775,4,5,6]) h ⟨by omega,by omega,by rw[u0 [] h0 q1,<-h2],by rw[KY h0];exact Q3⟩ (by omega))
 have he:i.toNat=fF.length:=by omega
 rw[he] at h2 h3
 rw[List.take_length] at h2
 refine aZ [] h fun _ _ h=>?_
 exact out (((some (ts,(lv,(pl,ds)))):Option ((List (List Int))×(bh .int Int)×(bh .int Int)×List Int)),()) h (by rw[h2,h3];rfl)
def WE:dy Tryz.prog:=plain WC
end Go.Proofs.YtnfdimfepbbbpaaGreat
