/-
  Texts joined by program: VJ5, VJ6, VK, VL, VM, VN, VO, VPM, VP, VQ, VR, VS, VU, VW, VX, GraphA, GraphB, BlockT.
-/
import Derived.Test.YtnfdimfepbbbpaaGreatJAuditAgrees2
import Derived.RangeFuncNested
import Derived.RangeFuncLeaves
import Derived.RangeFuncCalls
import Derived.OrdersIn
import Derived.TacticsIn
import Derived.Lib.SlicesCompact
set_option linter.unusedSimpArgs false
set_option linter.unusedVariables false
set_option maxRecDepth 100000
set_option maxHeartbeats 8000000
namespace Go.Proofs.YtnfdimfepbbbpaaGreat
open Go.RowKit
section
variable {P:Program}{o:bC}{n:Nat}{A A':bF}{S S' T:aL}{F G:Nat->Prop}{s:Nat->Option E2}{r:Nat->Option R2}{a:Act}{w w':World}{C:List (Nat×Bool)}{b:Nat}
theorem GI {B:Nat}(H:cv o n A S F s r a w)(hF:∀j,b<=j->j<B->¬F j){op:Oper}{t:TypeId}{x y:Operand}{p q:Sy}{out:Out}(ho:op.op= .makeSlice t x y)(hx:a.eval x=p.den A)(hy:a.eval y=q.den A)
  (h:(sB P b t p q).run s r=some out) (cE:∀p∈out.cs,p) (hB:∀p∈out.re,p.1<B) {K:Act->World->Prop} {Q:Exit->Act->World->Prop} (k:∀v w',eY o n F s r a out v w'->K (a.put op.dst v) w'):op.wp P a w K Q:=by
 unfold sB at h
 split at h
 .rename_i l c
  split at h
  .rename_i ty z Yz hz
   obtain⟨hg,h1⟩:=ax h
   clear h
   obtain⟨bytes,Ku,E⟩:=nh hg
   have hzc:=x8 hz
   obtain⟨x0,MX,YA,h2⟩:=oo (T:=S) (w:=w) (A:=A) (fun c hc j hj=>by rw[hzc c hc] at hj;cases hj) h1
   clear h1
   have e:=aW h2
   subst e
   obtain⟨c1,c2,c3⟩:0<=l/\l<=c/\c<=2147483647:=cE _ (List.mem_singleton.2 rfl)
   obtain⟨w',zv,m1,m2,m3,m4,m5⟩:=Rp (P:=P) (w:=w) E (kl:=.i64) (kc:=.i64) c1 c2 Ku c3
   have yc:(aH z).map (Sc.den A)=zv.cells.toList:=by
    obtain⟨inf,uN,hzv⟩:=Option.bind_eq_some_iff.1 m1
    unfold xQ at hz
    rw[uN] at hz
    simp only at hz
    rw[hzv] at hz
    cases hz
    cases zv with
    |agg cs=>show(cs.toList.map l7).map (Sc.den A)=_;rw[List.map_map,show(Sc.den A∘l7)=id from funext fun v=>pU A v];simp[Value.cells]
    |_=>first|(show[Sc.den A (l7 _)]=_;rw[pU];rfl)
   rw[yc] at MX
   have hx:a.eval x= .int .i64 l:=hx
   have hy:a.eval y= .int .i64 c:=hy
   have e2:(execOp a.eval op).run P w= .ok (.value (.slice (some ⟨w.heap.size,0,none⟩) l.toNat c.toNat)) w':=by
    simp only[execOp,ho,Sem.run_bind,hx,hy,m3];rfl
   have oe:=hF b (Nat.le_refl _) (hB _ (List.mem_singleton.2 rfl))
   have XB:l.toNat<=c.toNat:=by omega
   have dc:zv.cells.size=aF ty:=m2
   subst m4
   have mc:cw S w ((madeCells zv.cells (c.toNat*aF ty)).toList.take (l.toNat*aF ty)) (List.replicate l.toNat x0):=by
    have:=M5 XB MX
    rw[dc] at this;exact this
   obtain⟨A',k1,k2⟩:=H.Ea (b:=b) (w':=w.alloc (.cells (madeCells zv.cells (c.toNat*Im ty)) (P.elem t))) (v:=.slice none 0 0) (v':=.slice (some ⟨w.heap.size,0,none⟩) l.toNat c.toNat) (e:=P.elem t) (m:=List.replicate l.toNat x0) (old:=none) oe rfl
    ⟨rfl,rfl,rfl,by simp,fun k hk _=>heap_alloc_old w _ hk⟩ (m5.as (b5 ty) (List.length_replicate (n:=l.toNat) (a:=x0)).symm) (fun hk=>mc.keep hk) (fun c hc=>.inr (by cases hc;exact⟨Nat.le_refl _,by simp⟩))
   exact bH e2 (k _ _ ⟨A',S,k1,k2,.inr ⟨_,List.mem_cons_self⟩,tv⟩)
  cases h
 cases h
theorem cv.No (H:cv o n A S F s r a w)(hF:¬F b){k:Kc}{ty:Ty}{m:bh k (El ty)}{lf:bL k->Bool}{cnt:Nat}(hw:w.grownBy w' none)(dc:w'.heap.size=w.heap.size+1)(hi:Cc S w' w.heap.size m lf cnt none\/tf w' w.heap.size m lf (none:Option (bL k×El ty))):
  ∃A',cv o n A' S (FU F [(b,some (.iter k ty m lf cnt none))]) s (aQ r [(b,some (.iter k ty m lf cnt none))]) a w'/\A'.b b=w.heap.size:=by
 have vz:=cR.set (A:=A) hF none 0 0 w.heap.size
 have hbb:(A.set b none 0 0 w.heap.size).b b=w.heap.size:=bF.xO A b none 0 0 w.heap.size
 refine⟨A.set b none 0 0 w.heap.size,H.swap vz (S':=S) (fun _=>False) (fun _ q=>q.elim) ((jZ.of hw).mono fun _ q=>by cases q) (fun _ q=>q) (fun _ q=>.inl q) (fun d z hz=>?_) (fun d d' z z' bb h1 h2 _ _=>by cases List.mem_singleton.1 h1;cases List.mem_singleton.1 h2;rfl),hbb⟩
 cases List.mem_singleton.1 hz
 refine⟨tv,tv,rfl,?_,fun c hc=>?_⟩
 .show Cc S w' ((A.set b none 0 0 w.heap.size).b b) m lf cnt none\/tf w' ((A.set b none 0 0 w.heap.size).b b) m lf none
  rw[hbb];exact hi
 have hc:c=(A.set b none 0 0 w.heap.size).b b:=hc
 rw[hbb] at hc
 exact⟨.inr (by omega),by omega⟩
theorem Ei {B:Nat}(H:cv o n A S F s r a w)(hF:∀j,b<=j->j<B->¬F j){op:Oper}{t:TypeId}{x:Operand}{p:Sy}{out:Out}(ho:op.op= .range t x)(hx:a.eval x=p.den A)
  (h:(Gy P b t p).run s r=some out) (hB:∀p∈out.re,p.1<B) {K:Act->World->Prop} {Q:Exit->Act->World->Prop} (k:∀v w',eY o n F s r a out v w'->K (a.put op.dst v) w'):op.wp P a w K Q:=by
 have exec:∀ {u:Value} {w'':World},a.eval x=u->(Instr.range t u).run P w= .ok (.pointer (some ⟨w.heap.size,0,none⟩)) w''->(execOp a.eval op).run P w= .ok (.value (.pointer (some ⟨w.heap.size,0,none⟩))) w'':=fun h1 h2=>by
  simp only[execOp,ho,Sem.run_bind,h1,h2];rfl
 unfold Gy at h
 split at h
 .rename_i j
  split at h
  .rename_i kt et hu
   obtain⟨re,hz,hl,h1⟩:=mD _ _ h
   clear h
   obtain⟨S',hS,H'⟩:=H.freeze hz
   obtain⟨R,hR,h2⟩:=aY h1
   clear h1
   split at h2
   .rename_i kc ty m hm
    obtain⟨hg,h3⟩:=ax h2
    clear h2
    simp only[Bool.and_eq_true] at hg
    obtain⟨⟨g1,g2⟩,g3⟩:=hg
    have hk:=gd g1
    have e:=aW h3
    subst e
    have hx:a.eval x= .map (A.m j):=hx
    have oe:=hF b (Nat.le_refl _) (hB _ List.mem_cons_self)
    have gF:Rd S' w (.map (A.m j)) m:=by
     exact(ni H hz hS H' hl _ List.mem_cons_self j rfl R hR).m kc ty m hm
    obtain⟨x',wj,pH⟩:=sq gF
    have wj:A.m j=x':=by injection wj
    have fin:∀ {w'':World},w.grownBy w'' none->w''.heap.size=w.heap.size+1->(Instr.range t (.map (A.m j))).run P w= .ok (.pointer (some ⟨w.heap.size,0,none⟩)) w''->
      (Cc S' w'' w.heap.size m (fun x=>(aG (show List (bL kc×El ty) from m) x).isSome) (show List (bL kc×El ty) from m).length none\/tf w'' w.heap.size m (fun x=>(aG (show List (bL kc×El ty) from m) x).isSome) (none:Option (bL kc×El ty)))->op.wp P a w K Q:=by
     intro w'' q1 q2 q3 q4
     obtain⟨A',k1,k2⟩:=H'.No (b:=b) oe q1 q2 q4
     rw[<-dz] at k1
     refine bH (exec hx q3) (k _ _ ⟨A',S',k1.agree (cR.refl _ _) fun c hc=>FU.mono (fun p hp=>by rw[List.mem_singleton.1 hp];exact List.mem_cons_self) hc,?_,.inr ⟨_,List.mem_cons_self⟩,tv⟩)
     show _=Value.pointer (some ⟨A'.b b,0,none⟩)
     rw[k2]
    subst wj
    cases XF:A.m j with
    |none=>
     rw[XF] at pH
     have pH:m=([]:List (bL kc×El ty)):=pH
     subst pH
     refine fin (w'':=w.alloc (.mapIter none 0 #[] 0)) ⟨rfl,rfl,rfl,by simp,fun k hk _=>heap_alloc_old w _ hk⟩ (by simp) (by rw[XF];exact AF hu) (.inr ⟨rfl,rfl,fun _=>rfl,0,#[],0,heap_alloc_new w _⟩)
    |some dM=>
     rw[XF] at pH
     obtain⟨hSb,zs,n1,n2,n3⟩:=pH
     obtain⟨w'',q1,q2,q3,q4⟩:=n1.range hu hk
     have Ik:(fun x=>(aG (zs.map fun q=>(q.1,q.2.1)) x).isSome)=fun x=>(aG (show List (bL kc×El ty) from m) x).isSome:=by
      funext x
      have e1:aG (zs.map fun q=>(q.1,q.2.1)) x=(aG zs x).map (·.1):=e7 (fun y:Value×El ty=>y.1) zs x
      have e2:aG (show List (bL kc×El ty) from m) x=(aG zs x).map (·.2):=by rw[n2];exact e7 (fun y:Value×El ty=>y.2) zs x
      rw[e1,e2];cases aG zs x<;>rfl
     have hlen:(zs.map fun q=>(q.1,q.2.1)).length=(show List (bL kc×El ty) from m).length:=by rw[n2];simp
     rw[Ik,hlen] at q2
     have Un:cK S' w w'':=fun c hc=>q3.block c (H'.bB.iI c hc) fun q=>by cases q
     exact fin q3 q4 (by rw[XF];exact q1) (.inl ⟨dM,zs,none,hSb,q2,n2,fun z hz=>(n3 z hz).keep Un,rfl,fun _ q=>by cases q⟩)
   cases h2
  cases h
 .split at h
  .rename_i kt et kc ty hu hc
   have e:=aW h
   subst e
   have oe:=hF b (Nat.le_refl _) (hB _ List.mem_cons_self)
   have hx:a.eval x= .map none:=hx
   obtain⟨A',k1,k2⟩:=H.No (b:=b) (w':=w.alloc (.mapIter none 0 #[] 0)) (k:=kc) (ty:=ty) (m:=([]:List (bL kc×El ty))) (lf:=fun _=>false) (cnt:=0) oe ⟨rfl,rfl,rfl,by simp,fun k hk _=>heap_alloc_old w _ hk⟩ (by simp) (.inr ⟨rfl,rfl,fun _=>rfl,0,#[],0,heap_alloc_new w _⟩)
   refine bH (exec hx (AF hu)) (k _ _ ⟨A',S,k1,?_,.inr ⟨_,List.mem_cons_self⟩,tv⟩)
   show _=Value.pointer (some ⟨A'.b b,0,none⟩)
   rw[k2]
  cases h
 cases h
theorem AU {k:Kc}(x:bL k):(vJ k x).den A=fP k x:=by cases k<;>rfl
theorem qO {k:Kc}(x:bL k):(vJ k x).all F/\(vJ k x).b7 A:=by cases k<;>exact⟨tv,tv⟩
theorem GJ {B:Nat}(H:cv o n A S F s r a w)(hF:∀j,b<=j->j<B->¬F j){op:Oper}{x:Operand}{p:Sy}{out:Out}(ho:op.op= .entry x)(hx:a.eval x=p.den A)
  (h:(Gz b p).run s r=some out) (hB:∀p∈out.re,p.1<B) {K:Act->World->Prop} {Q:Exit->Act->World->Prop} (k:∀v w',eY o n F s r a out v w'->K (a.put op.dst v) w'):op.wp P a w K Q:=by
 unfold Gz at h
 split at h
 .rename_i j
  obtain⟨R,hR,h2⟩:=aY h
  clear h
  split at h2
  .rename_i kc ty m lf cnt e
   have e0:=aW h2
   subst e0
   have hm:bw A r j=some (Gf (A.b j) m lf cnt (some e)):=by show(r j).map _=_;rw[hR];rfl
   rcases H.bB.ok j _ hm with⟨mb,zs,cu,h1,h3,h4,h5,h6,h7⟩|⟨_,h6,_⟩
   .cases Yu:cu with
    |none=>rw[Yu] at h6;cases h6
    |some q=>
     rw[Yu] at h6 h3
     have hq:e=(q.1,q.2.2):=by simpa using h6
     have gF:=h7 q Yu
     have bY:=h3.2 q.1 q.2.1 rfl P w rfl rfl
     obtain⟨vs,J5,hv⟩:=jT gF
     subst hq
     obtain⟨A',k1,k2,k3,k4⟩:=fH (o:=o) (S:=S) (w:=w) (k:=true) _ vs b A F J5 hF hB
     have hx:a.eval x= .pointer (some ⟨A.b j,0,none⟩):=hx
     have e2:(execOp a.eval op).run P w= .ok (.value (.tuple #[fP kc q.1,q.2.1])) w:=by
      simp only[execOp,ho,Sem.run_bind,hx,bY];rfl
     refine bH e2 (k _ _ ⟨A',S,H.ro k1 k3,?_,fun p hp c hc=>?_,fun p hp c hc=>?_⟩)
     .show Value.tuple #[_,_]=Value.tuple #[fe A' (false,[vJ kc q.1]),fe A' (cG ty,(bA true b (bl ty q.2.2)).1)]
      unfold fe
      simp only[List.map_cons,List.map_nil,AU,k2,Bool.false_eq_true,if_false,List.headD_cons]
      rw[hv]
     .rcases List.mem_cons.1 hp with rfl|hp
      .have:=List.mem_singleton.1 hc;subst this;exact(qO (A:=A) q.1).1
      have:=List.mem_singleton.1 hp;subst this;exact(k4 c hc).1
     rcases List.mem_cons.1 hp with rfl|hp
     .have:=List.mem_singleton.1 hc;subst this;exact(qO (F:=F) q.1).2
     have:=List.mem_singleton.1 hp;subst this;exact(k4 c hc).2
   cases h6
  cases h2
 cases h
end
section
variable {P:Program}{o:bC}{n:Nat}{A A':bF}{S S' T:aL}{F G:Nat->Prop}{s:Nat->Option E2}{r:Nat->Option R2}{a:Act}{w w':World}{C:List (Nat×Bool)}{b:Nat}
theorem YE {S:aL}{w:World}{v:Value}{x:Int}(h:Rd S w v x):v= .int .i64 x:=by
 obtain⟨cs,h1,rfl⟩:=h
 have h1:cs=[.int .i64 x]:=h1
 subst h1;rfl
theorem Uo {S:aL}{w:World}(x:Int):Rd S w (.int .i64 x) x:=⟨[.int .i64 x],rfl,rfl⟩
theorem Np {B:Nat}(H:cv o n A S F s r a w)(hF:∀j,b<=j->j<B->¬F j){op:Oper}{t:TypeId}{m x:Operand}{p q:Sy}{out:Out}(ho:op.op= .mapEntry t m x)(hm:a.eval m=p.den A)(hx:a.eval x=q.den A)
  (h:(Vv P b t p q).run s r=some out) (cE:∀p∈out.cs,p) (mN:∀h∈out.hs,∀A w,h.lhs A w=h.rhs A w) (hB:∀p∈out.re,p.1<B) {K:Act->World->Prop} {Q:Exit->Act->World->Prop} (k:∀v w',eY o n F s r a out v w'->K (a.put op.dst v) w'):op.wp P a w K Q:=by
 unfold Vv at h
 split at h
 .rename_i kt et j hu
  obtain⟨R,hR,h⟩:=aY h
  split at h
  .rename_i kc mm
   split at h
   .rename_i kx MW
    obtain⟨hk,h2⟩:=ax h
    clear h
    have hk:=gd hk
    have e:=aW h2
    subst e
    have hq:q.den A=fP kc kx:=nj MW
    have hm:a.eval m= .map (A.m j):=hm
    have hw:cA kc kx:=cE _ List.mem_cons_self
    have hlen:(show List (bL kc×Int) from mm).length<=2147483647:=cE _ (List.mem_cons_of_mem _ List.mem_cons_self)
    have hz:(zeroValue et).run P w= .ok (.int .i64 0) w:=mN _ List.mem_cons_self A w
    have fE:bw A r j=some (rU (A.m j) (show bh kc Int from mm)):=by show(r j).map _=_;rw[hR];rfl
    obtain⟨dM,hb,zs,h2,h3,h4⟩:=H.bB.ok j _ fE
    have h3:(show List (bL kc×Int) from mm)=zs.map fun q=>(q.1,q.2.2):=h3
    have iY:=H.bB.own j _ dM fE hb
    obtain⟨st,w',bY,LJ,hE,hG,dc⟩:=h2.entry hu hk (by rw[List.length_map];rw[h3] at hlen;simpa using hlen) hz hw
    generalize hd:(aG (show List (bL kc×Int) from mm) kx).getD 0=d at*
    have hold:(aG (zs.map fun q=>(q.1,q.2.1)) kx).getD (.int .i64 0)= .int .i64 d:=by
     have e1:aG (zs.map fun q=>(q.1,q.2.1)) kx=(aG zs kx).map (·.1):=e7 (fun y:Value×Int=>y.1) zs kx
     have e2:aG (show List (bL kc×Int) from mm) kx=(aG zs kx).map (·.2):=by rw[h3];exact e7 (fun y:Value×Int=>y.2) zs kx
     rw[<-hd,e1,e2]
     cases hl:aG zs kx with
     |none=>rfl
     |some z=>exact YE (h4 _ (jA hl))
    rw[hold] at bY LJ
    have oe:=hF b (Nat.le_refl _) (hB _ (List.mem_cons_of_mem _ List.mem_cons_self))
    have x9:(execOp a.eval op).run P w= .ok (.value (.tuple #[.int .i64 d,.int .i64 st])) w':=by
     simp only[execOp,ho,Sem.run_bind,hm,hx,hq,hb,bY];rfl
    have rV:cK S w w':=fun q hq=>hG.block q (H.bB.iI q hq) fun e=>by cases e;exact iY.2.2 hq
    have hA:=cR.dF (A:=A) oe (fun _=>Value.int .i64 st)
    have Vz:mz S w' dM (show bh kc Int from gD (show List (bL kc×Int) from mm) kx d):=⟨gD zs kx (.int .i64 d,d),by rw[jQ (fun y:Value×Int=>y.1)];exact LJ,by rw[jQ (fun y:Value×Int=>y.2),h3],fun y hy=>by
     rcases pS.1 hy with rfl|⟨hy,_⟩
     .exact Uo d
     exact(h4 y hy).keep rV⟩
    have H2:=H.swap hA (w':=w') (S':=S) (re:=[(j,some (.ext (.DS b kc .int (gD (show List (bL kc×Int) from mm) kx d) kx))),(b,none)]) (fun c=>c=j) (fun c hc=>by rw[show c=j from hc];exact⟨_,List.mem_cons_self⟩)
     ((jZ.of hG).mono fun c hc=>⟨j,_,rfl,hR,by cases hc;exact hb⟩) (fun _ q=>q) (fun _ q=>.inl q) (fun c y hy=>by
      rcases List.mem_cons.1 hy with e|hy
      .cases e
       refine⟨.inr ⟨none,List.mem_cons_of_mem _ List.mem_cons_self⟩,tv,rfl,⟨dM,hb,Vz,st,by rw[bF.j6],hE⟩,fun c hc=>?_⟩
       have hc:A.m j=some c:=hc
       rw[hb] at hc;cases hc
       exact⟨.inl ⟨j,_,rfl,hR,hb⟩,by rw[dc];exact iY.2.1⟩
      .cases List.mem_singleton.1 hy) (fun c c' y y' bb q1 q2 _ _=>by
      rcases List.mem_cons.1 q1 with e|q1
      .rcases List.mem_cons.1 q2 with e'|q2
       .cases e;cases e';rfl
       cases List.mem_singleton.1 q2
      cases List.mem_singleton.1 q1)
    refine bH x9 (k _ _ ⟨_,S,H2,?_,?_,?_⟩)
    .show Value.tuple #[.int .i64 d,.int .i64 st]=Value.tuple #[.int .i64 d,(A.dF b (fun _=>Value.int .i64 st)).f b _]
     rw[bF.j6]
    .intro q hq c hc
     rcases List.mem_cons.1 hq with rfl|hq
     .have:=List.mem_singleton.1 hc;subst this;trivial
     have:=List.mem_singleton.1 hq;subst this
     have:=List.mem_singleton.1 hc;subst this
     exact⟨.inl (H.dB j _ hR).1,.inr ⟨none,List.mem_cons_of_mem _ List.mem_cons_self⟩⟩
    intro q hq c hc
    rcases List.mem_cons.1 hq with rfl|hq
    .have:=List.mem_singleton.1 hc;subst this;trivial
    have:=List.mem_singleton.1 hq;subst this
    have:=List.mem_singleton.1 hc;subst this
    trivial
   cases h
  cases h
 cases h
theorem GK (H:cv o n A S F s r a w){op:Oper}{t:TypeId}{m x y:Operand}{p q z:Sy}{out:Out}(ho:op.op= .entryStore t m x y)(hm:a.eval m=p.den A)(hx:a.eval x=q.den A)(hy:a.eval y=z.den A)
  (h:(Gx P t p q z).run s r=some out) (cE:∀p∈out.cs,p) {K:Act->World->Prop} {Q:Exit->Act->World->Prop} (k:∀v w',eY o n F s r a out v w'->K (a.put op.dst v) w'):op.wp P a w K Q:=by
 unfold Gx at h
 split at h
 .rename_i kt et j jj qq kc kx nn hu
  obtain⟨R,hR,h⟩:=aY h
  split at h
  .rename_i q' k' mm QT
   obtain⟨hg,h2⟩:=ax h
   clear h
   rw[Bool.and_eq_true] at hg
   have hk:=gd hg.1
   have hqq:=b6 hg.2
   subst hqq
   have e:=aW h2
   subst e
   have MH:cN kc kx=cN k' QT:=cE _ List.mem_cons_self
   have hw:cA k' QT:=cE _ (List.mem_cons_of_mem _ List.mem_cons_self)
   have hlen:(show List (bL k'×Int) from mm).length<=2147483647:=cE _ (List.mem_cons_of_mem _ (List.mem_cons_of_mem _ List.mem_cons_self))
   have hm:a.eval m= .map (A.m j):=hm
   have hy:a.eval y= .int .i64 nn:=hy
   have fE:bw A r j=some (Ub (A.m j) (A.f qq) (show bh k' Int from mm) QT):=by show(r j).map _=_;rw[hR];rfl
   obtain⟨dM,hb,⟨zs,h2,h3,h4⟩,st,hf,hE⟩:=H.bB.ok j _ fE
   have h3:(show List (bL k'×Int) from mm)=zs.map fun q=>(q.1,q.2.2):=h3
   have iY:=H.bB.own j _ dM fE hb
   have hx:a.eval x= .int .i64 st:=by
    rw[hx]
    show A.f qq (cN kc kx)=_
    rw[MH];exact hf
   obtain⟨w',bY,LJ,hG,dc⟩:=h2.entryStore hu hk (by rw[List.length_map];rw[h3] at hlen;simpa using hlen) hw hE (.int .i64 nn)
   have x9:(execOp a.eval op).run P w= .ok .skip w':=by
    simp only[execOp,ho,Sem.run_bind,hm,hx,hy,hb,bY];rfl
   have rV:cK S w w':=fun q hq=>hG.block q (H.bB.iI q hq) fun e=>by cases e;exact iY.2.2 hq
   have Vz:mz S w' dM (show bh k' Int from gD (show List (bL k'×Int) from mm) QT (show Int from nn)):=⟨gD zs QT (.int .i64 nn,nn),by rw[jQ (fun y:Value×Int=>y.1)];exact LJ,by rw[jQ (fun y:Value×Int=>y.2),h3],fun y hy=>by
    rcases pS.1 hy with rfl|⟨hy,_⟩
    .exact Uo nn
    exact(h4 y hy).keep rV⟩
   unfold Oper.wp
   rw[x9]
   refine k undef _ ?_
   have H2:=H.swap (cR.refl _ _) (w':=w') (S':=S) (re:=[(j,some (.map k' .int (gD (show List (bL k'×Int) from mm) QT (show Int from nn))))]) (fun c=>c=j) (fun c hc=>by rw[show c=j from hc];exact⟨_,List.mem_singleton.2 rfl⟩)
    ((jZ.of hG).mono fun c hc=>⟨j,_,rfl,hR,by cases hc;exact hb⟩) (fun _ q=>q) (fun _ q=>.inl q) (fun c y hy=>by
     cases List.mem_singleton.1 hy
     refine⟨tv,tv,rfl,⟨dM,hb,Vz⟩,fun c hc=>?_⟩
     have hc:A.m j=some c:=hc
     rw[hb] at hc;cases hc
     exact⟨.inl ⟨j,_,rfl,hR,hb⟩,by rw[dc];exact iY.2.1⟩) (fun c c' y y' bb q1 q2 _ _=>by cases List.mem_singleton.1 q1;cases List.mem_singleton.1 q2;rfl)
   exact⟨A,S,H2,rfl,tv,tv⟩
  cases h
 cases h
end
section
variable {P:Program}{o:bC}{n:Nat}{A A':bF}{S S':aL}{F G:Nat->Prop}{s:Nat->Option E2}{r:Nat->Option R2}{a:Act}{w w':World}{C:List (Nat×Bool)}{b:Nat}
theorem uQ {B:Nat}(H:cv o n A S F s r a w)(hF:∀j,b<=j->j<B->¬F j){op:Oper}{c:Call}{t:TypeId}{x y:Operand}{q:Sy}{ty:Ty}{e:TypeId}{l:List (El ty)}{ps:List Prop}{old:Option (Nat×Option R2)}{v:Value}{out:Out}(ho:op.op= .call c)(jq:c.callee= .builtin .append)(dD:c.args.toList=[x,y])(pQ:c.argTypes.toList=[t,t])
  (hx:a.eval x=v) (hy:a.eval y=q.den A) (hv:(∀p∈ps,p)->(∃xs,gw w e (Data.size (El ty)) v l.length xs/\cw S w xs l)/\D9 A S F w r v old) (h:(Gv P b t ty e l ps old.toList q).run s r=some out) (cE:∀p∈out.cs,p) (hB:∀p∈out.re,p.1<B)
  {K:Act->World->Prop} {Q:Exit->Act->World->Prop} (k:∀v w',eY o n F s r a out v w'->K (a.put op.dst v) w'):op.wp P a w K Q:=by
 have ha:c.args= #[x,y]:=by apply Array.ext';exact dD
 have hb:c.argTypes= #[t,t]:=by apply Array.ext';exact pQ
 unfold Gv at h
 cases hu:P.underlying t with
 |none=>
  exfalso
  have key:∀ {q:Sy} {out:Out},(Kv ty (fun qs m=>bg (gB P t e (Im ty)) (.ret ⟨(l.length+m.length<=2147483647)::(ps++qs),[],.one (.own b),(b,some (.row e ty (l++m)))::old.toList⟩)) q).run s r=some out->False:=by
   intro q out h
   have hg:gB P t e (Im ty)=false:=by unfold gB;rw[hu]
   rw[hg] at h
   unfold Kv at h
   split at h
   .obtain⟨Y,hY,h⟩:=aY h
    split at h
    .split at h
     .obtain⟨_,h⟩:=ax h;cases h
     cases h
    cases h
   .obtain⟨Y,hY,h⟩:=aY h
    split at h
    .split at h
     .obtain⟨_,h⟩:=ax h;cases h
     cases h
    cases h
   .cases h
   cases h
  exact key h
 |some d=>
  have main:∀ {e':TypeId},d= .slice e'->op.wp P a w K Q:=by
   intro e' hd
   subst hd
   obtain⟨qs,m,h1,h2⟩:=Nb H hu h
   clear h
   obtain⟨hg,h3⟩:=ax h1
   clear h1
   have e0:=aW h3
   subst e0
   obtain⟨bytes,Ku,E⟩:=nh hg
   rw[Mu] at E
   have J9:∀p∈ps,p:=fun p hp=>cE p (List.mem_cons_of_mem _ (List.mem_append_left _ hp))
   have hqs:∀p∈qs,p:=fun p hp=>cE p (List.mem_cons_of_mem _ (List.mem_append_right _ hp))
   obtain⟨k1,k2⟩:=hv J9
   obtain⟨v',w',r1,A',r2,r3⟩:=Rq H (hF b (Nat.le_refl _) (hB _ List.mem_cons_self)) E Ku k1 k2 (h2 hqs) (cE _ List.mem_cons_self) op.type
   have e2:(execOp a.eval op).run P w= .ok (.value v') w':=by
    unfold execOp
    simp only[ho,resolve,jq,ha,hb,invoke,builtin,Sem.run_bind,Sem.run_pure,Result.andThen_ok,List.map_toArray,List.map_cons,List.map_nil,hx,hy,r1]
   exact bH e2 (k _ _ ⟨A',S,r2,r3,.inr ⟨_,List.mem_cons_self⟩,tv⟩)
  cases d with
  |slice e'=>exact main rfl
  |_=>
   exfalso
   have hg:gB P t e (Im ty)=false:=by unfold gB;rw[hu]
   rw[hg] at h
   unfold Kv at h
   split at h
   .obtain⟨Y,hY,h⟩:=aY h
    split at h
    .split at h
     .obtain⟨_,h⟩:=ax h;cases h
     cases h
    cases h
   .obtain⟨Y,hY,h⟩:=aY h
    split at h
    .split at h
     .obtain⟨_,h⟩:=ax h;cases h
     cases h
    cases h
   .cases h
   cases h
theorem AV {k:Ty->Tr Out}{q:Sy}{out:Out}(h:(Iu k q).run s r=some out):∃ty,(k ty).run s r=some out:=by
 unfold Iu at h
 split at h
 .obtain⟨Y,hY,h⟩:=aY h
  split at h
  .exact⟨_,h⟩
  cases h
 .obtain⟨Y,hY,h⟩:=aY h
  split at h
  .exact⟨_,h⟩
  cases h
 cases h
theorem Nq {B:Nat}(H:cv o n A S F s r a w)(hF:∀j,b<=j->j<B->¬F j){op:Oper}{c:Call}{t:TypeId}{x y:Operand}{p q:Sy}{out:Out}(ho:op.op= .call c)(jq:c.callee= .builtin .append)(dD:c.args.toList=[x,y])(pQ:c.argTypes.toList=[t,t])
  (hx:a.eval x=p.den A) (hy:a.eval y=q.den A) (h:(Vu P b t p q).run s r=some out) (cE:∀p∈out.cs,p) (hB:∀p∈out.re,p.1<B)
  {K:Act->World->Prop} {Q:Exit->Act->World->Prop} (k:∀v w',eY o n F s r a out v w'->K (a.put op.dst v) w'):op.wp P a w K Q:=by
 have ha:c.args= #[x,y]:=by apply Array.ext';exact dD
 have hb:c.argTypes= #[t,t]:=by apply Array.ext';exact pQ
 have YF:∀ {ty:Ty} {q:Sy},p= .one (.v (.slice none 0 0))->a.eval y=q.den A->(Gv P b t ty (P.elem t) [] [] [] q).run s r=some out->op.wp P a w K Q:=fun {ty q'} e GL h'=>by
  subst e
  exact uQ (q:=q') (old:=none) H hF ho jq dD pQ hx GL (fun _=>⟨⟨[],gw.nil w _ _,cw.nil _ _⟩,rfl⟩) h' cE hB k
 have nest:∀ {v:Value} {old:Option Nat} {i qi:Nat} {e e' ie:TypeId} {ty:Ty} {l m:List (El ty)},a.eval x=v->a.eval y=A.v i->gB P t e (Im ty)=true->
   (match old with
   |some j=>v=A.v j/\∃qf,r j=some (.ext (.nest qf none e ty ie l))
   |none=>v= .slice none 0 0/\l=[])->r i=some (.ext (.nest qi none e' ty ie m))->old≠some i->l.length+m.length<=2147483647->∀cs hs,out=⟨cs,hs,.one (.own b),(b,some (.ext (.nest b none e ty ie (l++m))))::(old.toList.map (fun j=>(j,none))++[(i,none)])⟩->op.wp P a w K Q:=by
  intro v old i qi e e' ie ty l m hx hy hg hold hi cO hlen cs hs e0
  subst e0
  obtain⟨bytes,Ku,E⟩:=nh hg
  obtain⟨v',w',r1,A',r2,r3⟩:=Rx H (hF b (Nat.le_refl _) (hB _ List.mem_cons_self)) E Ku hold hi cO hlen op.type
  have e2:(execOp a.eval op).run P w= .ok (.value v') w':=by
   unfold execOp
   simp only[ho,resolve,jq,ha,hb,invoke,builtin,Sem.run_bind,Sem.run_pure,Result.andThen_ok,List.map_toArray,List.map_cons,List.map_nil,hx,hy,r1]
  exact bH e2 (k _ _ ⟨A',S,r2,r3,.inr ⟨_,List.mem_cons_self⟩,tv⟩)
 unfold Vu at h
 split at h
 .split at h
  .rename_i i
   obtain⟨Y,hY,h2⟩:=aY h
   clear h
   split at h2
   .rename_i qi e ty ie m
    obtain⟨hg,h3⟩:=ax h2
    have e0:=aW h3
    have hlen:m.length<=2147483647:=cE _ (by rw[e0];exact List.mem_singleton.2 rfl)
    exact nest (old:=none) (l:=[]) hx hy hg ⟨rfl,rfl⟩ hY (by simp) (by simpa using hlen) _ _ e0
   obtain⟨ty,h3⟩:=AV h2
   exact YF rfl hy h3
  obtain⟨ty,h3⟩:=AV h
  exact YF rfl hy h3
 .rename_i j
  obtain⟨X,hX,h2⟩:=aY h
  clear h
  split at h2
  .rename_i e ty l
   refine uQ (old:=some (j,none)) (v:=A.v j) H hF ho jq dD pQ hx hy (fun _=>⟨H.bB.ok j (o5 e (A.v j) l) (by show(r j).map _=_;rw[hX];rfl),⟨_,hX,fun c hc=>hc,fun z q=>by cases q⟩⟩) h2 cE hB k
  .rename_i qf e ty ie l
   split at h2
   .rename_i i
    obtain⟨Y,hY,h3⟩:=aY h2
    clear h2
    split at h3
    .rename_i qi e' AM Gw m
     split at h3
     .rename_i m' Vx
      obtain⟨hg,h4⟩:=ax h3
      clear h3
      obtain⟨et,F3⟩:=eE Vx
      have et:AM=ty:=by injection et
      subst et
      have F3:m=m':=F3
      subst F3
      simp only[Bool.and_eq_true] at hg
      obtain⟨g1,g2,g3⟩:=hg
      have g2:=b6 g2
      subst g2
      have e0:=aW h4
      have hlen:l.length+m.length<=2147483647:=cE _ (by rw[e0];exact List.mem_singleton.2 rfl)
      exact nest (old:=some j) hx hy g1 ⟨rfl,qf,hX⟩ hY (fun q=>by cases q;simp at g3) hlen _ _ e0
     cases h3
    cases h3
   cases h2
  cases h2
 .rename_i j qf wj
  obtain⟨Y,hY,h2⟩:=aY h
  clear h
  split at h2
  .rename_i I hI
   refine uQ (old:=some (j,some I.z)) (v:=A.f qf wj.lit) H hF ho jq dD pQ hx hy (fun hp=>?_) h2 cE hB k
   obtain⟨q1,q2,q3,q4,q5,q6,q7⟩:=Ul H hY hI hp
   exact⟨q1,_,hY,q2,fun z e=>by cases e;exact⟨q3,q4,q5,q6,q7⟩⟩
  cases h2
 cases h
theorem Ej {R:Sc->Prop}{fs:Array Field}:∀ {l:List (Nat×Sy)} {cs tc:List Sc},(∀p∈l,∀c∈aH p.2,R c)->(∀c∈cs,R c)->Ck fs l cs=some tc->∀c∈tc,R c
 |[],cs,tc,_,h,e=>by cases e;exact h
 |(i,y)::l,cs,tc,hl,h,e=>by
  simp only[Ck] at e
  split at e
  .rename_i fd _
   refine Ej (fun p hp=>hl p (List.mem_cons_of_mem _ hp)) (fun c hc=>?_) e
   rcases List.mem_append.1 hc with hc|hc
   .rcases List.mem_append.1 hc with hc|hc
    .exact h c (List.mem_of_mem_take hc)
    exact hl (i,y) (by simp) c hc
   exact h c (List.mem_of_mem_drop hc)
  cases e
theorem Nr {B:Nat}{T:List (dy P)}{md:Bool}(H:cv o n A S F s r a w)(hC:jy a C)(hF:∀j,b<=j->j<B->¬F j){op:Oper}{out:Out}(h:(XC P T C md b op.op).run s r=some out)(cE:∀p∈out.cs,p)(mN:∀h∈out.hs,∀A w,h.lhs A w=h.rhs A w)(hB:∀p∈out.re,p.1<B)
  {K:Act->World->Prop} {Q:Exit->Act->World->Prop} (k:∀v w',eY o n F s r a out v w'->K (a.put op.dst v) w'):op.wp P a w K Q:=by
 have quiet:(jD P C b op.op).run s r=some out->op.wp P a w K Q:=by
  intro h
  obtain⟨⟨A',h1,h2,h3,h4,h5⟩,_⟩:=Ko H hC hF h cE hB
  exact Nc (h2 op rfl) (k _ _ ⟨A',S,H.ro h1 h5,rfl,h3,h4⟩)
 cases fC:op.op
 case box t x=>
  rw[fC] at h
  obtain⟨y,e1,e2,e3,h⟩:=aP H hC h
  have e:=aW h
  subst e
  have bY:=mN _ (List.mem_singleton.2 rfl) A w
  have e4:(execOp a.eval op).run P w= .ok (.value (.pointer (some ⟨w.heap.size,0,none⟩))) (w.alloc (.cells ((aH y).map (Sc.den A)).toArray t)):=by
   simp only[MR] at bY
   simp only[execOp,fC,Sem.run_bind,e1,bY]
   rfl
  have eS:∀c∈aH y,c.all F/\c.b7 A:=by
   intro c hc
   cases y with
   |one c'=>have:=List.mem_singleton.1 hc;subst this;exact⟨e2,e3⟩
   |agg ds=>exact⟨e2 c hc,e3 c hc⟩
   |mU ps=>cases hc
  exact Eb H (hF b (Nat.le_refl _) (hB _ (List.mem_singleton.2 rfl))) (fun c hc=>(eS c hc).1) (fun c hc=>(eS c hc).2) e4 k
 case alloc t=>
  rw[fC] at h
  simp only[XC] at h
  split at h
  .split at h
   .rename_i z hz
    have e:=aW h
    subst e
    have bY:=mN _ (List.mem_singleton.2 rfl) A w
    have e4:(execOp a.eval op).run P w= .ok (.value (.pointer (some ⟨w.heap.size,0,none⟩))) (w.alloc (.cells ((z.cells.toList.map l7).map (Sc.den A)).toArray t)):=by
     simp only[D4] at bY
     simp only[execOp,fC,Sem.run_bind,bY]
     rfl
    exact Eb H (hF b (Nat.le_refl _) (hB _ (List.mem_singleton.2 rfl))) (fun c hc=>by obtain⟨u,_,rfl⟩:=List.mem_map.1 hc;exact pV F u) (fun c hc=>by obtain⟨u,_,rfl⟩:=List.mem_map.1 hc;exact nc A u) e4 k
   cases h
  cases h
 case buildSlice t len parts=>
  rw[fC] at h
  obtain⟨ys,f1,f2,h⟩:=pY H hC h
  refine KD H hF fC ?_ h cE mN hB k
  rw[<-f1,List.map_map];rfl
 case build t parts=>
  rw[fC] at h
  obtain⟨ys,f1,f2,h⟩:=pY H hC h
  unfold MT at h
  split at h
  .split at h
   .rename_i z hz
    split at h
    .rename_i cs zZ
     have e:=aW h
     subst e
     have bY:=mN _ (List.mem_singleton.2 rfl) A w
     simp only[D5] at bY
     have ep:parts.map (fun x=>(x.1,a.eval x.2))=(((parts.toList.map (·.1)).zip ys).map fun y=>(y.1,y.2.den A)).toArray:=by
      apply Array.ext'
      rw[Array.toList_map]
      show _=((parts.toList.map (·.1)).zip ys).map fun y=>(y.1,y.2.den A)
      have:(((parts.toList.map (·.1)).zip ys).map fun y=>(y.1,y.2.den A))=(parts.toList.map (·.1)).zip (ys.map (Sy.den A)):=by
       rw[List.zip_map_right]
       rfl
      rw[this,<-f1,List.map_map,List.zip_map']
      rfl
     have e4:(execOp a.eval op).run P w= .ok (.value (.agg (cs.map (Sc.den A)).toArray)) w:=by
      rw[<-ep] at bY
      simp only[execOp,fC,Sem.run_bind]
      rw[show(Array.map (fun x=>match x with|(i,x)=>(i,a.eval x)) parts)=parts.map (fun x=>(x.1,a.eval x.2)) from rfl,bY]
      rfl
     have eS:∀c∈cs,c.all F/\c.b7 A:=Ej (l:=(parts.toList.map (·.1)).zip ys) (fun p hp c hc=>by
      have hy:=f2 p.2 (List.of_mem_zip hp).2
      obtain⟨i,y⟩:=p
      cases y with
      |one c'=>have:=List.mem_singleton.1 hc;subst this;exact hy
      |agg ds=>exact⟨hy.1 c hc,hy.2 c hc⟩
      |mU ps=>cases hc) (fun c hc=>by obtain⟨u,_,rfl⟩:=List.mem_map.1 hc;exact⟨pV F u,nc A u⟩) zZ
     exact bH e4 (k _ _ ⟨A,S,H.agree (cR.refl _ _) fun _ q=>.inl q,rfl,fun c hc=>Sc.mono (fun _ q=>.inl q) (eS c hc).1,fun c hc=>(eS c hc).2⟩)
    cases h
   cases h
  cases h
 case store t x y=>
  rw[fC] at h
  obtain⟨p,e1,e2,e3,h⟩:=aP H hC h
  obtain⟨q,f1,f2,f3,h⟩:=aP H hC h
  exact Cx H hF fC e1 f1 ⟨f2,f3⟩ h cE hB k
 case call c=>
  rw[fC] at h
  simp only[XC] at h
  split at h
  .rename_i x jq
   obtain⟨p,e1,e2,e3,h⟩:=aP H hC h
   split at h
   .rename_i f cr
    split at h
    .rename_i Vr aaU
     obtain⟨hg,h⟩:=ax h
     obtain⟨ys,f1,f2,h⟩:=pY H hC h
     have hf:Vr.f=f:=b6 (by have:=List.find?_some aaU;exact this)
     exact Gs (T:=T) H hF fC jq e1 hf (by simpa using hg) f1 f2 e2 h cE mN hB k
    cases h
   cases h
  .rename_i jq
   split at h
   .rename_i x y t t' dD pQ
    obtain⟨hg,h2⟩:=ax h
    have hg:=b6 hg
    subst hg
    obtain⟨p,e1,e2,e3,h3⟩:=aP H hC h2
    obtain⟨q,f1,f2,f3,h⟩:=aP H hC h3
    exact Nq H hF fC jq dD pQ e1 f1 h cE hB k
   cases h
  .rename_i jq
   split at h
   .rename_i x t dD pQ _
    obtain⟨p,e1,e2,e3,h⟩:=aP H hC h
    exact Ks H fC jq dD pQ e1 h k
   exact quiet (by rw[fC];exact h)
  .rename_i jq
   split at h
   .rename_i x y t kt dD pQ
    obtain⟨p,e1,e2,e3,h⟩:=aP H hC h
    obtain⟨q,f1,f2,f3,h⟩:=aP H hC h
    exact Gu H fC jq dD pQ e1 f1 h cE k
   cases h
  exact quiet (by rw[fC];exact h)
 case makeMap t x=>
  rw[fC] at h
  cases x with
  |none=>exact vL H hF fC (fun y q=>by cases q) h hB k
  |some x=>
   obtain⟨p,e1,e2,e3,h⟩:=aP H hC h
   split at h
   .rename_i ik m
    exact vL H hF fC (fun y q=>by cases q;exact⟨ik,m,e1⟩) h hB k
   cases h
 case mapEntry t m x=>
  rw[fC] at h
  obtain⟨p,e1,e2,e3,h⟩:=aP H hC h
  obtain⟨q,f1,f2,f3,h⟩:=aP H hC h
  exact Np H hF fC e1 f1 h cE mN hB k
 case entryStore t m x y=>
  rw[fC] at h
  obtain⟨p,e1,e2,e3,h⟩:=aP H hC h
  obtain⟨q,f1,f2,f3,h⟩:=aP H hC h
  obtain⟨z,g1,g2,g3,h⟩:=aP H hC h
  exact GK H fC e1 f1 g1 h cE k
 case mapUpdate t m x y=>
  rw[fC] at h
  obtain⟨p,e1,e2,e3,h⟩:=aP H hC h
  obtain⟨q,f1,f2,f3,h⟩:=aP H hC h
  obtain⟨z,g1,g2,g3,h⟩:=aP H hC h
  exact AS H hF (.inl fC) e1 f1 g1 h cE hB k
 case insert t m x y=>
  rw[fC] at h
  obtain⟨p,e1,e2,e3,h⟩:=aP H hC h
  obtain⟨q,f1,f2,f3,h⟩:=aP H hC h
  obtain⟨z,g1,g2,g3,h⟩:=aP H hC h
  exact AS H hF (.inr fC) e1 f1 g1 h cE hB k
 case lookup t m x ok=>
  rw[fC] at h
  obtain⟨p,e1,e2,e3,h⟩:=aP H hC h
  obtain⟨q,f1,f2,f3,h⟩:=aP H hC h
  exact Kr H hF fC e1 f1 h cE mN hB k
 case makeFunc f first cr=>
  rw[fC] at h
  simp only[XC] at h
  split at h
  .rename_i f' VA
   obtain⟨ys,f1,f2,h2⟩:=pY H hC h
   clear h
   split at h2
   .rename_i cs zZ
    have e0:=bN h2
    subst e0
    have hc:∀ {ys:List Sy} {cs:List (Nat×Nat)},uL ys=some cs->ys.map (Sy.den A)=cs.map fun c=>Value.pointer (some ⟨A.b c.1,c.2,none⟩):=by
     intro ys
     induction ys with
     |nil=>intro cs h;cases h;rfl
     |cons y ys ih=>
      intro cs h
      unfold uL at h
      split at h
      .rename_i heq;cases heq
      .rename_i j off l heq
       cases heq
       obtain⟨tc,h1,rfl⟩:=Option.map_eq_some_iff.1 h
       rw[List.map_cons,List.map_cons,ih h1];rfl
      cases h
    have dL:∀ {ys:List Sy} {cs:List (Nat×Nat)},uL ys=some cs->(∀y∈ys,y.all F/\y.b7 A)->∀c∈cs,F c.1:=by
     intro ys
     induction ys with
     |nil=>intro cs h _ c hc;cases h;cases hc
     |cons y ys ih=>
      intro cs h hy c hc
      unfold uL at h
      split at h
      .rename_i heq;cases heq
      .rename_i j off l heq
       cases heq
       obtain⟨tc,h1,rfl⟩:=Option.map_eq_some_iff.1 h
       rcases List.mem_cons.1 hc with rfl|hc
       .exact(hy _ List.mem_cons_self).1
       exact ih h1 (fun z hz=>hy z (List.mem_cons_of_mem _ hz)) c hc
      cases h
    have YG:first= #[]:=by apply Array.ext';exact VA
    have hca:cr.map a.eval=(cs.map fun c=>Value.pointer (some ⟨A.b c.1,c.2,none⟩)).toArray:=by
     apply Array.ext'
     rw[Array.toList_map,f1,hc zZ]
    have e4:(execOp a.eval op).run P w= .ok (.value (.func (.func f') #[] (cs.map fun c=>Value.pointer (some ⟨A.b c.1,c.2,none⟩)).toArray)) w:=by
     simp only[execOp,fC,Sem.run_bind,YG,hca,Instr.makeFunc,Sem.run_pure,Array.map_empty];rfl
    exact bH e4 (k _ _ ⟨A,S,H.agree (cR.refl _ _) fun _ q=>.inl q,rfl,fun c hc=>.inl (dL zZ f2 c hc),tv⟩)
   cases h2
  cases h
 case slice t x lo hi mx=>
  rw[fC] at h
  cases mx with
  |none=>
   have plain:((gV C x fun p=>ya C lo fun i=>ya C hi fun k=>yb P b t i k p):Tr Out).run s r=some out->op.wp P a w K Q:=fun h=>by
    obtain⟨p,e1,e2,e3,h1⟩:=aP H hC h
    obtain⟨i,f1,h2⟩:=AT H hC h1
    obtain⟨k',g1,h3⟩:=AT H hC h2
    exact GH H hF fC e1 f1 g1 h3 cE hB k
   cases lo with
   |none=>exact plain h
   |some lo=>
    cases hi with
    |some hi=>exact plain h
    |none=>
     cases md with
     |false=>exact plain h
     |true=>
      obtain⟨p,e1,e2,e3,h1⟩:=aP H hC h
      obtain⟨q,f1,f2,f3,h2⟩:=aP H hC h1
      split at h2
      .exact KE H hF fC e1 f1 h2 cE hB k
      cases h2
  |some mx=>
   cases lo with
   |some _=>cases hi<;>exact quiet (by rw[fC];exact h)
   |none=>
    cases hi with
    |none=>exact quiet (by rw[fC];exact h)
    |some hi=>
     obtain⟨p,e1,e2,e3,h1⟩:=aP H hC h
     obtain⟨q,f1,f2,f3,h2⟩:=aP H hC h1
     split at h2
     .obtain⟨q',g1,g2,g3,h3⟩:=aP H hC h2
      split at h3
      .exact Eg H hF fC e1 f1 g1 h3 cE hB k
      cases h3
     cases h2
 case makeSlice t l c=>
  rw[fC] at h
  obtain⟨p,e1,e2,e3,h1⟩:=aP H hC h
  obtain⟨q,f1,f2,f3,h2⟩:=aP H hC h1
  exact GI H hF fC e1 f1 h2 cE hB k
 case range t x=>
  rw[fC] at h
  obtain⟨p,e1,e2,e3,h1⟩:=aP H hC h
  exact Ei H hF fC e1 h1 hB k
 case entry x=>
  rw[fC] at h
  obtain⟨p,e1,e2,e3,h1⟩:=aP H hC h
  exact GJ H hF fC e1 h1 hB k
 case binOp op' t x y t'=>
  rw[fC] at h
  cases md with
  |false=>exact quiet (by rw[fC];exact h)
  |true=>
   cases op' with
   |quo=>
    obtain⟨p,e1,e2,e3,h1⟩:=aP H hC h
    obtain⟨q,f1,f2,f3,h2⟩:=aP H hC h1
    unfold Uk at h2
    split at h2
    .rename_i a' b'
     obtain⟨rfl,hp⟩:=fI h2 cE
     have e1:a.eval x= .int .i64 a':=e1
     have f1:a.eval y= .int .i64 b':=f1
     have eS:bR .i64 (a'.tdiv b'):=by
      obtain⟨q1,q2⟩:=hp
      have q2: -9223372036854775808<=a'/\a'<=9223372036854775807:=q2
      have hn:(a'.tdiv b').natAbs<=a'.natAbs:=by rw[Int.natAbs_tdiv];exact Nat.div_le_self _ _
      show -9223372036854775808<=a'.tdiv b'/\a'.tdiv b'<=9223372036854775807
      by_cases hz:a'= -9223372036854775808
      .subst hz
       have:Int.tdiv (-9223372036854775808) b'<=0:=by
        rw[Int.neg_tdiv]
        have:=Int.tdiv_nonneg (a:=9223372036854775808) (b:=b') (by decide) (by omega)
        omega
       omega
      omega
     have h2':(eqGuard .quo t x y (.int .i64 a') (.int .i64 b')).run P w= .ok () w:=by simp[eqGuard,Sem.run_pure]
     have e4:(execOp a.eval op).run P w= .ok (.value (.int .i64 (a'.tdiv b'))) w:=by
      simp only[execOp,fC,Sem.run_bind,e1,f1,h2',Result.andThen_ok]
      have h3:(binOp .quo t (.int .i64 a') (.int .i64 b'))=Op.intDiv .quo .i64 a' b':=rfl
      rw[h3]
      unfold Op.intDiv
      rw[if_neg (by omega)]
      show Sem.run P (do let x <-(pure (Value.int .i64 (IntKind.i64.wrap (a'.tdiv b'))):Sem Value);_) w=_
      rw[eS.wrap]
      rfl
     exact bH e4 (k _ _ ⟨A,S,H.agree (cR.refl _ _) fun _ q=>.inl q,rfl,tv,tv⟩)
    cases h2
   |_=>exact quiet (by rw[fC];exact h)
 all_goals (rw[fC] at h;exact quiet (by rw[fC];exact h))
end
def Tr.bind {α β:Type 1}:Tr α->(α->Tr β)->Tr β
 | .ret a,k=>k a
 | .fail,_=>.fail
 | .slot t f,k=>.slot t fun e=>(f e).bind k
 | .res j f,k=>.res j fun x=>(f x).bind k
theorem Tr.p6 {α β:Type 1}{s:Nat->Option E2}{r:Nat->Option R2}:∀ {T:Tr α} {k:α->Tr β} {out:β},(T.bind k).run s r=some out->∃a,T.run s r=some a/\(k a).run s r=some out
 | .ret a,k,out,h=>⟨a,rfl,h⟩
 | .fail,k,out,h=>by cases h
 | .slot t f,k,out,h=>by
  simp only[Tr.bind,Tr.run] at h ⊢
  split at h
  .rename_i e he
   obtain⟨a,h1,h2⟩:=Tr.p6 h
   exact⟨a,h1,h2⟩
  cases h
 | .res j f,k,out,h=>by
  simp only[Tr.bind,Tr.run] at h ⊢
  split at h
  .rename_i e he
   obtain⟨a,h1,h2⟩:=Tr.p6 h
   exact⟨a,h1,h2⟩
  cases h
structure qP:Type 1 where
 cs:List Prop
 hs:List Hid
 sl:Option (Nat×Option E2)
 re:List (Nat×Option R2)
def eV (s:Nat->Option E2):List (Nat×Option E2)->Nat->Option E2
 |[]=>s
 |p::l=>l9 (eV s l) p.1 p.2
def imp:List Prop->Prop->Prop
 |[],p=>p
 |g::gs,p=>g->imp gs p
def YH:Value->Bool
 | .tuple a=>a.toList.isEmpty
 |_=>false
def GM (ops:Array Oper)(o:Oper)(k:Option (List (Nat×Bool))->Tr qP):Tr qP:=
 match o.guard with
 |none=>k (some [])
 |some (i,bv)=>match(ops[i]?).bind (·.dst) with
  |some j=>.slot j fun e=>match e.sy with
   | .one (.b (.lit c))=>match Bool.xor c bv with
    |false=>k (some e.ch)
    |true=>k none
   | .one (.b _)=>k (some (e.ch++[(j,bv)]))
   | .one (.v u)=>match YH u with
    |true=>k none
    |false=>.fail
   |_=>.fail
  |none=>.fail
def Iz:List (Nat×Bool)->(List Prop->Tr qP)->Tr qP
 |[],k=>k []
 |l::C,k=>.slot l.1 fun e=>match e.sy with
  | .one (.b be)=>Iz C fun ps=>k (be.is l.2::ps)
  |_=>.fail
def hintOf:List (Nat×Bool)->Nat->Option Bool
 |[],_=>none
 |p::l,d=>match Nat.beq p.1 d with
  |true=>some p.2
  |false=>hintOf l d
def YI (hn:List (Nat×Bool))(d:Option Nat)(out:Out):qP:=
 match d with
 |none=>⟨out.cs,out.hs,none,out.re⟩
 |some d=>match hintOf hn d,out.sy with
  |some v,.one (.b e)=>⟨out.cs++[e.is v],out.hs,some (d,some ⟨[],.one (.b (.lit v))⟩),out.re⟩
  |_,y=>⟨out.cs,out.hs,some (d,some ⟨[],y⟩),out.re⟩
def stepG (P:Program)(T:List (dy P))(sd:Nat)(hn:List (Nat×Bool))(n:Nat)(ops:Array Oper)(b:Nat)(o:Oper):Tr qP:=
 bg (match o.dst with|some d=>Nat.blt d n|none=>true) (GM ops o fun oc=>match oc with
  |none=>.ret ⟨[],[],o.dst.map fun d=>(d,some ⟨[],.one (.v (.tuple #[]))⟩),[]⟩
  |some []=>(XC P T [] (match o.dst with|some d=>hintOf hn d==some true|none=>false) b o.op).bind fun out=>bg (out.re.all fun p=>Nat.blt p.1 (b+sd)) (.ret (YI hn o.dst out))
  |some (l::C)=>(XC P T (l::C) false b o.op).bind fun out=>match out.re,o.dst with
   |[],some d=>bg ((l::C).all fun l=>!Nat.beq l.1 d) (Iz (l::C) fun ps=>.ret ⟨out.cs.map (imp ps),out.hs,some (d,some ⟨l::C,out.sy⟩),[]⟩)
   |_,_=>.fail)
section
variable {P:Program}{o:bC}{n:Nat}{A A':bF}{S S':aL}{F G:Nat->Prop}{s:Nat->Option E2}{r:Nat->Option R2}{a:Act}{w w':World}{C:List (Nat×Bool)}{b:Nat}
theorem yg {u u':qP}(h:(Tr.ret u').run s r=some u):u=u':=(Option.some.inj h).symm
theorem GN (H:cv o n A S F s r a w){ops:Array Oper}{op:Oper}{k:Option (List (Nat×Bool))->Tr qP}{out:qP}(h:(GM ops op k).run s r=some out):
  (∃C,(Region.wanted op (yielded ops a.tmps)=true↔jy a C)/\(k (some C)).run s r=some out)\/(Region.wanted op (yielded ops a.tmps)=false/\(k none).run s r=some out):=by
 unfold GM at h
 unfold Region.wanted
 split at h
 .rename_i hg
  refine .inl ⟨[],?_,h⟩
  simp[hg,jy]
 rename_i i bv hg
 split at h
 .rename_i j hj
  simp only[Tr.run] at h
  split at h
  .rename_i e he
   have QO:=H.env j e he
   have hy:yielded ops a.tmps i=some bv↔a.tmps[j]?=some (.bool bv):=by
    unfold yielded
    rw[hj]
    simp only[Option.bind_some]
    constructor
    .intro hh
     split at hh
     .rename_i c hc;cases hh;exact hc
     cases hh
    intro hh;rw[hh]
   have Cz:a.tmps[j]?=some (.bool bv)->jy a e.ch:=fun hh=>Classical.byContradiction fun hn=>by
    have:=QO.2 hn
    rw[show(⟨j,e.ch,e.sy.den A⟩:LH).slot=j from rfl,hh] at this
    simp[undef] at this
   split at h
   .rename_i c FZ
    have uE:jy a e.ch->a.tmps[j]?=some (.bool c):=fun q=>by have:=QO.1 q;rw[FZ] at this;exact this
    split at h
    .rename_i hx
     have M4:c=bv:=by cases c<;>cases bv<;>first|rfl|cases hx
     subst M4
     refine .inl ⟨e.ch,?_,h⟩
     simp only[hg,beq_iff_eq]
     rw[hy]
     exact⟨Cz,uE⟩
    rename_i hx
    refine .inr ⟨?_,h⟩
    simp only[hg,beq_eq_false_iff_ne,ne_eq]
    rw[hy]
    intro hh
    rw[uE (Cz hh)] at hh
    cases hh
    cases bv<;>cases hx
   .rename_i be _ FZ
    refine .inl ⟨e.ch++[(j,bv)],?_,h⟩
    simp only[hg,beq_iff_eq]
    rw[hy]
    constructor
    .intro hh l hl
     rcases List.mem_append.1 hl with hl|hl
     .exact Cz hh l hl
     rw[List.mem_singleton] at hl;subst hl;exact hh
    intro hh;exact hh (j,bv) (List.mem_append_right _ (by simp))
   .rename_i u FZ
    split at h
    .rename_i hu
     refine .inr ⟨?_,h⟩
     simp only[hg,beq_eq_false_iff_ne,ne_eq]
     rw[hy]
     intro hh
     have:=QO.1 (Cz hh)
     rw[show(⟨j,e.ch,e.sy.den A⟩:LH).slot=j from rfl,hh,FZ] at this
     have:u= .bool bv:=(Option.some.inj this).symm
     rw[this] at hu
     cases hu
    cases h
   cases h
  cases h
 cases h
theorem AW (H:cv o n A S F s r a w):∀ {C:List (Nat×Bool)} {k:List Prop->Tr qP} {out:qP},(Iz C k).run s r=some out->∃ps,(jy a C->∀p∈ps,p)/\(k ps).run s r=some out
 |[],k,out,h=>⟨[],fun _ _ q=>(by cases q),h⟩
 |l::C,k,out,h=>by
  simp only[Iz,Tr.run] at h
  split at h
  .rename_i e he
   split at h
   .rename_i be FZ
    obtain⟨ps,h1,h2⟩:=AW H h
    refine⟨be.is l.2::ps,fun hc p hp=>?_,h2⟩
    have hl:a.tmps[l.1]?=some (.bool l.2):=hc l (by simp)
    rcases List.mem_cons.1 hp with rfl|hp
    .have QO:=H.env l.1 e he
     have kz:jy a e.ch:=Classical.byContradiction fun hn=>by
      have:=QO.2 hn
      rw[show(⟨l.1,e.ch,e.sy.den A⟩:LH).slot=l.1 from rfl,hl] at this
      simp[undef] at this
     have hv:=QO.1 kz
     rw[show(⟨l.1,e.ch,e.sy.den A⟩:LH).slot=l.1 from rfl,hl,FZ] at hv
     have hv:Value.bool l.2= .bool be.den:=Option.some.inj hv
     exact(BE.je be l.2).2 (Value.bool.inj hv).symm
    exact h1 (fun z hz=>hc z (List.mem_cons_of_mem _ hz)) p hp
   cases h
  cases h
theorem imp_elim:∀ {ps:List Prop} {p:Prop},imp ps p->(∀q∈ps,q)->p
 |[],p,h,_=>h
 |g::gs,p,h,k=>imp_elim (h (k g (by simp))) fun q hq=>k q (List.mem_cons_of_mem _ hq)
def RB (s:Nat->Option E2):Option (Nat×Option E2)->Nat->Option E2
 |none=>s
 |some p=>l9 s p.1 p.2
theorem CA (a:Act)(v:Value):a.put none v=a:=rfl
theorem Ek {T:List (dy P)}{sd:Nat}{hn:List (Nat×Bool)}{ops:Array Oper}(H:cv o n A S F s r a w)(hF:∀j,b<=j->j<b+sd->¬F j){op:Oper}{u:qP}(h:(stepG P T sd hn n ops b op).run s r=some u)(cE:∀p∈u.cs,p)(mN:∀h∈u.hs,∀A w,h.lhs A w=h.rhs A w)
  (kz:∀d,op.dst=some d->∀t e,s t=some e->∀l∈e.ch,l.1≠d) {K:Act->World->Prop} {Q:Exit->Act->World->Prop} (k:∀A' S' a' w',cv o n A' S' (FU F u.re) (RB s u.sl) (aQ r u.re) a' w'->(∀p∈u.re,p.1<b+sd)->K a' w'):
  if Region.wanted op (yielded ops a.tmps) then op.wp P a w K Q else K (a.put op.dst undef) w:=by
 unfold stepG at h
 obtain⟨hd,h⟩:=ax h
 have QV:∀d,op.dst=some d->d<n:=fun d e=>by rw[e] at hd;simpa using Nat.blt_eq▸hd
 rcases GN H h with⟨C,hw,h⟩|⟨hw,h⟩
 .cases C with
  |nil=>
   have hw:Region.wanted op (yielded ops a.tmps)=true:=hw.2 fun l hl=>by cases hl
   rw[if_pos hw]
   obtain⟨out,ho,h⟩:=Tr.p6 h
   obtain⟨zX,h⟩:=ax h
   have hB:∀p∈out.re,p.1<b+sd:=fun p hp=>by have:=List.all_eq_true.1 zX p hp;simpa using Nat.blt_eq▸this
   have e:=yg h
   subst e
   unfold YI at cE mN k
   have hC:jy a []:=fun l hl=>by cases hl
   have fin:(∀p∈out.cs,p)->(∀h∈out.hs,∀A w,h.lhs A w=h.rhs A w)->(∀v w',eY o n F s r a out v w'->K (a.put op.dst v) w')->op.wp P a w K Q:=fun h1 h2 h3=>Nr H hC hF ho h1 h2 hB h3
   cases jr:op.dst with
   |none=>
    rw[jr] at cE mN k fin
    refine fin cE mN fun v w' ⟨A',S',h1,h2,h3,h4⟩=>?_
    rw[CA]
    exact k A' S' a w' h1 hB
   |some d=>
    rw[jr] at cE mN k fin
    have plain:(∀p∈out.cs,p)->(∀h∈out.hs,∀A w,h.lhs A w=h.rhs A w)->(∀A' S' a' w',cv o n A' S' (FU F out.re) (l9 s d (some ⟨[],out.sy⟩)) (aQ r out.re) a' w'->K a' w')->op.wp P a w K Q:=fun h1 h2 k'=>by
     refine fin h1 h2 fun v w' ⟨A',S',h1,h2,h3,h4⟩=>?_
     have h5:=h1.put (C:=[]) (d:=d) (y:=out.sy) (u:=v) (QV d jr) (kz d jr) (fun l hl=>by cases hl) (fun _=>⟨h3,h4⟩) ⟨fun _=>h2,fun q=>(q fun l hl=>by cases hl).elim⟩
     exact k' A' S' _ w' h5
    simp only at cE mN k
    split at cE
    .rename_i v e hv he
     rw[hv,he] at mN k
     refine fin (fun p hp=>cE p (List.mem_append_left _ hp)) mN fun v' w' ⟨A',S',h1,h2,h3,h4⟩=>?_
     have FY:e.den=v:=(BE.je e v).1 (cE _ (List.mem_append_right _ (List.mem_singleton.2 rfl)))
     have h5:=h1.put (C:=[]) (d:=d) (y:=.one (.b (.lit v))) (u:=v') (QV d jr) (kz d jr) (fun l hl=>by cases hl) (fun _=>⟨tv,tv⟩) ⟨fun _=>by rw[h2,he];show Value.bool e.den= .bool v;rw[FY],fun q=>(q fun l hl=>by cases hl).elim⟩
     exact k A' S' _ w' h5 hB
    rename_i cO
    have e:(match hintOf hn d,out.sy with
     |some v,.one (.b e)=>(⟨out.cs++[e.is v],out.hs,some (d,some ⟨[],.one (.b (.lit v))⟩),out.re⟩:qP)
     |_,y=>⟨out.cs,out.hs,some (d,some ⟨[],y⟩),out.re⟩)=⟨out.cs,out.hs,some (d,some ⟨[],out.sy⟩),out.re⟩:=by
     split
     .rename_i v e hv he;exact(cO v e hv he).elim
     rfl
    rw[e] at mN k
    exact plain cE mN fun A' S' a' w' q=>k A' S' a' w' q hB
  |cons l C=>
   obtain⟨out,ho,h⟩:=Tr.p6 h
   split at h
   .rename_i d zX jr
    obtain⟨Vo,h⟩:=ax h
    have Vo:∀z∈l::C,z.1≠d:=fun z hz e=>by
     have:=List.all_eq_true.1 Vo z hz
     rw[e,Nat.beq_refl] at this;cases this
    obtain⟨ps,J9,h⟩:=AW H h
    have e:=yg h
    subst e
    by_cases hC:jy a (l::C)
    .rw[if_pos (hw.2 hC)]
     refine Nr H hC hF ho (fun p hp=>imp_elim (cE _ (List.mem_map.2 ⟨p,hp,rfl⟩)) (J9 hC)) mN (fun p hp=>by rw[zX] at hp;cases hp) fun v w' ⟨A',S',h1,h2,h3,h4⟩=>?_
     rw[zX] at h1 h3
     have h5:=h1.put (C:=l::C) (d:=d) (y:=out.sy) (u:=v) (QV d jr) (kz d jr) Vo (fun _=>⟨h3,h4⟩) ⟨fun _=>h2,fun q=>(q hC).elim⟩
     rw[jr]
     exact k A' S' _ w' (h5.agree (cR.refl _ _) fun j hj=>hj) (fun p hp=>by cases hp)
    rw[if_neg (fun q=>hC (hw.1 q)),jr]
    have h5:=H.put (C:=l::C) (d:=d) (y:=out.sy) (u:=undef) (QV d jr) (kz d jr) Vo (fun q=>(hC q).elim) ⟨fun q=>(hC q).elim,fun _=>rfl⟩
    exact k A S _ w (h5.agree (cR.refl _ _) fun j hj=>.inl hj) (fun p hp=>by cases hp)
   cases h
 rw[if_neg (by rw[hw];decide)]
 have e:=yg h
 subst e
 cases jr:op.dst with
 |none=>
  rw[jr] at k
  exact k A S _ w (H.agree (cR.refl _ _) fun j hj=>.inl hj) (fun p hp=>by cases hp)
 |some d=>
  rw[jr] at k
  have h5:=H.put (C:=[]) (d:=d) (y:=.one (.v (.tuple #[]))) (u:=undef) (QV d jr) (kz d jr) (fun l hl=>by cases hl) (fun _=>⟨tv,tv⟩) ⟨fun _=>rfl,fun q=>(q fun l hl=>by cases hl).elim⟩
  exact k A S _ w (h5.agree (cR.refl _ _) fun j hj=>.inl hj) (fun p hp=>by cases hp)
end
def Ns (x:Option (Nat×Option E2))(en:List (Nat×Option E2)):List (Nat×Option E2):=match x with
 |none=>en
 |some p=>p::en
def Nt (en:List (Nat×Option E2))(d:Option Nat):Bool:=match d with
 |none=>true
 |some d=>en.all fun p=>match p.2 with
  |some ⟨[],_⟩=>true
  |some e=>e.ch.all fun l=>!Nat.beq l.1 d
  |none=>true
section
variable (P:Program)(T:List (dy P))(sd:Nat)(hn:List (Nat×Bool))(n:Nat)(ops:Array Oper)(s0:Nat->Option E2)(r0:Nat->Option R2)
def yh:List Oper->Nat->List (Nat×Option E2)->List (Nat×Option R2)->Option (List qP)
 |[],_,_,_=>some []
 |o::l,b,en,re=>match Nt en o.dst with
  |true=>match(stepG P T sd hn n ops b o).run (eV s0 en) (aQ r0 re) with
   |some u=>match yh l (b+sd) (Ns u.sl en) (u.re++re) with
    |some us=>some (u::us)
    |none=>none
   |none=>none
  |false=>none
end
def AX:List qP->List (Nat×Option E2)->List (Nat×Option E2)
 |[],en=>en
 |u::us,en=>AX us (Ns u.sl en)
def vN:List qP->List (Nat×Option R2)->List (Nat×Option R2)
 |[],re=>re
 |u::us,re=>vN us (u.re++re)
section
variable {P:Program}{o:bC}{n:Nat}{A A':bF}{S S':aL}{F G:Nat->Prop}{s s' s0:Nat->Option E2}{r r0:Nat->Option R2}{a:Act}{w w':World}{b:Nat}{T:List (dy P)}{sd:Nat}{hn:List (Nat×Bool)}{ops:Array Oper}{Q:Exit->Act->World->Prop}
theorem cv.less (H:cv o n A S F s r a w)(hs:∀t e,s' t=some e->s t=some e):cv o n A S F s' r a w:=
 ⟨H.size,H.fh,fun t e he=>H.env t e (hs t e he),fun t e he=>H.l8 t e (hs t e he),H.dB,H.bB,H.args,H.s8⟩
theorem kZ (s:Nat->Option E2)(x:Option (Nat×Option E2))(en:List (Nat×Option E2)):eV s (Ns x en)=RB (eV s en) x:=by cases x<;>rfl
theorem vO (s:Nat->Option E2):∀x y:List (Nat×Option E2),eV s (x++y)=eV (eV s y) x
 |[],_=>rfl
 |p::x,y=>by show l9 (eV s (x++y)) p.1 p.2=_;rw[vO s x y];rfl
theorem qQ:∀ {en:List (Nat×Option E2)} {t:Nat} {e:E2},eV s0 en t=some e->s0 t=some e\/(t,some e)∈en
 |[],t,e,h=>.inl h
 |p::en,t,e,h=>by
  have h:l9 (eV s0 en) p.1 p.2 t=some e:=h
  by_cases q:p.1=t
  .subst q;rw[e8] at h;exact .inr (by rw[<-h];exact List.mem_cons_self)
  rw[mC q] at h;exact(qQ h).imp id (List.mem_cons_of_mem _)
theorem KF {en:List (Nat×Option E2)}{d:Option Nat}(h0:∀t e,s0 t=some e->e.ch=[])(h:Nt en d=true):∀d',d=some d'->∀t e,eV s0 en t=some e->∀l∈e.ch,l.1≠d':=by
 intro d' hd t e he l hl
 subst hd
 rcases qQ he with h1|h1
 .rw[h0 t e h1] at hl;cases hl
 have:=List.all_eq_true.1 h _ h1
 intro q
 obtain⟨ch,y⟩:=e
 cases ch with
 |nil=>cases hl
 |cons c ch=>
  have:=List.all_eq_true.1 this l hl
  rw[q,Nat.beq_refl] at this;cases this
theorem AY {p:Nat×Option R2}:∀ {us:List qP} {re:List (Nat×Option R2)},p∈re->p∈vN us re
 |[],_,h=>h
 |u::us,re,h=>AY (us:=us) (List.mem_append_right _ h)
theorem CB {r r':Nat->Option R2}(h:∀j x,r j=some x->r' j=some x):∀ {re:List (Nat×Option R2)} {j:Nat} {x:R2},aQ r re j=some x->aQ r' re j=some x
 |[],j,x,k=>h j x k
 |p::re,j,x,k=>by
  have k:jg (aQ r re) p.1 p.2 j=some x:=k
  show jg (aQ r' re) p.1 p.2 j=some x
  by_cases q:p.1=j
  .subst q;rw[cB] at k ⊢;exact k
  rw[cS q] at k ⊢;exact CB h k
theorem AZ {r0':Nat->Option R2}(h:∀j x,r0 j=some x->r0' j=some x):∀ {l:List Oper} {b:Nat} {en:List (Nat×Option E2)} {re:List (Nat×Option R2)} {us:List qP},yh P T sd hn n ops s0 r0 l b en re=some us->yh P T sd hn n ops s0 r0' l b en re=some us
 |[],b,en,re,us,k=>k
 |op::l,b,en,re,us,k=>by
  simp only[yh] at k ⊢
  split at k
  .split at k
   .rename_i u hu
    split at k
    .rename_i YJ F7
     cases k
     have h1:=Tr.mono (fun _ _ q=>q) (fun j x q=>CB (re:=re) h q) _ hu
     simp only[h1,AZ h F7]
    cases k
   cases k
  cases k
theorem CC {L:Nat->Prop}{rest:List Oper}(h0:∀t e,s0 t=some e->e.ch=[]):∀ {l:List Oper} {b:Nat} {en:List (Nat×Option E2)} {re:List (Nat×Option R2)} {us:List qP} {A:bF} {S:aL} {F:Nat->Prop} {a:Act} {w:World},
  yh P T sd hn n ops s0 r0 l b en re=some us->cv o n A S F (eV s0 en) (aQ r0 re) a w->(∀j,b<=j->L j->¬F j)->(∀j,j<b+sd*l.length->L j)->(∀u∈us,∀p∈u.cs,p)->(∀u∈us,∀h∈u.hs,∀A w,h.lhs A w=h.rhs A w)->
  (∀A' S' F' a' w',cv o n A' S' F' (eV s0 (AX us en)) (aQ r0 (vN us re)) a' w'->(∀j,b+sd*l.length<=j->L j->¬F' j)->(∀j,F' j->F j\/∃x,(j,x)∈vN us re)->wpList P ops Q rest a' w')->wpList P ops Q (l++rest) a w
 |[],b,en,re,us,A,S,F,a,w,h,H,hF,_,_,_,k=>by
  cases h
  exact k A S F a w H (by simpa using hF) fun j hj=>.inl hj
 |op::l,b,en,re,us,A,S,F,a,w,h,H,hF,hL,cE,mN,k=>by
  simp only[yh] at h
  have hlen:sd*(op::l).length=sd*l.length+sd:=by rw[List.length_cons,Nat.mul_succ]
  split at h
  .rename_i Nu
   split at h
   .rename_i u hu
    split at h
    .rename_i YJ F7
     cases h
     simp only[List.cons_append,wpList]
     have tC:=Ek (Q:=Q) (K:=wpList P ops Q (l++rest)) H (fun j h1 h2=>hF j h1 (hL j (by omega))) hu (cE u (by simp)) (mN u (by simp)) (KF h0 Nu) fun A' S' a' w' H' hB=>by
      refine CC h0 F7 (by rw[kZ,dz];exact H') (fun j hj hLj hn=>?_) (fun j hj=>hL j (by omega)) (fun v hv=>cE v (List.mem_cons_of_mem _ hv)) (fun v hv=>mN v (List.mem_cons_of_mem _ hv)) fun A2 S2 F2 a2 w2 H2 YK hF3=>k A2 S2 F2 a2 w2 H2 (fun j hj=>YK j (by omega)) fun j hj=>?_
      .rcases hn with hn|⟨x,hx⟩
       .exact hF j (by omega) hLj hn
       have:=hB _ hx;omega
      rcases hF3 j hj with(q|⟨x,hx⟩)|q
      .exact .inl q
      .exact .inr ⟨x,AY (us:=YJ) (List.mem_append_left _ hx)⟩
      exact .inr q
     split
     .rename_i hw;rw[if_pos hw] at tC;exact .inl tC
     rename_i hw;rw[if_neg hw] at tC;exact tC
    cases h
   cases h
  cases h
def wm:List (Nat×Option E2)->List (Nat×Option E2)
 |[]=>[]
 |(t,some ⟨[],y⟩)::l=>(t,some ⟨[],y⟩)::wm l
 |(t,_)::l=>(t,none)::wm l
theorem tD (h0:∀t e,s0 t=some e->e.ch=[]):∀ {en:List (Nat×Option E2)} {t:Nat} {e:E2},eV s0 (wm en) t=some e->eV s0 en t=some e/\e.ch=[]
 |[],t,e,h=>⟨h,h0 t e h⟩
 |(d,x)::en,t,e,h=>by
  have ih:eV s0 (wm en) t=some e->eV s0 en t=some e/\e.ch=[]:=tD h0
  have gone:l9 (eV s0 (wm en)) d none t=some e->l9 (eV s0 en) d x t=some e/\e.ch=[]:=fun h=>by
   by_cases q:d=t
   .subst q;rw[e8] at h;cases h
   rw[mC q] at h ⊢;exact ih h
  match x,h with
  |none,h=>exact gone h
  |some ⟨_::_,y⟩,h=>exact gone h
  |some ⟨[],y⟩,h=>
   have h:l9 (eV s0 (wm en)) d (some ⟨[],y⟩) t=some e:=h
   show l9 (eV s0 en) d (some ⟨[],y⟩) t=some e/\e.ch=[]
   by_cases q:d=t
   .subst q;rw[e8] at h ⊢;cases h;exact⟨rfl,rfl⟩
   rw[mC q] at h ⊢;exact ih h
end
def ov (ops:List Oper)(i:Nat):List Nat:=match ops[i]? with
 |some o=>(o.after.toList.filter (Region.binds .any)).map (·.on)
 |none=>[]
def uR (ms:List Nat):List Nat->Nat
 |[]=>0
 |d::l=>Nat.lor (Nat.lor (Nat.shiftLeft 1 d) (ms.getD d 0)) (uR ms l)
def Nv (dp:Nat->List Nat):Nat->List Nat
 |0=>[]
 |k+1=>Nv dp k++[uR (Nv dp k) (dp k)]
theorem wL (dp:Nat->List Nat):∀k,(Nv dp k).length=k
 |0=>rfl
 |k+1=>by simp[Nv,wL dp k]
theorem oz (dp:Nat->List Nat){i:Nat}:∀ {k:Nat},i<k->(Nv dp k).getD i 0=uR (Nv dp i) (dp i)
 |k+1,h=>by
  rw[Nv,List.getD_eq_getElem?_getD]
  by_cases q:i<k
  .rw[List.getElem?_append_left (by rw[wL];exact q),<-List.getD_eq_getElem?_getD,oz dp q]
  have:i=k:=by omega
  subst this
  rw[List.getElem?_append_right (by rw[wL];exact Nat.le_refl _),wL,Nat.sub_self];rfl
theorem Nw (a b j:Nat):(Nat.lor a b).testBit j=(a.testBit j||b.testBit j):=Nat.testBit_or a b j
theorem RC {d j:Nat}(h:(Nat.shiftLeft 1 d).testBit j=true):j=d:=by
 have:(1<<<d).testBit j=true:=h
 rw[Nat.shiftLeft_eq,Nat.one_mul,Nat.testBit_two_pow] at this
 exact(of_decide_eq_true this).symm
theorem sC {ms:List Nat}{j:Nat}:∀ {l:List Nat},(uR ms l).testBit j=true->∃d∈l,j=d\/(ms.getD d 0).testBit j=true
 |[],h=>by simp[uR] at h
 |d::l,h=>by
  rw[uR,Nw,Bool.or_eq_true,Nw,Bool.or_eq_true] at h
  rcases h with(h|h)|h
  .exact⟨d,by simp,.inl (RC h)⟩
  .exact⟨d,by simp,.inr h⟩
  obtain⟨e,he,q⟩:=sC h
  exact⟨e,List.mem_cons_of_mem _ he,q⟩
theorem RD {dp:Nat->List Nat}{N:Nat}(hd:∀i,i<N->∀d∈dp i,d<i):∀ {i j:Nat},i<N->((Nv dp N).getD i 0).testBit j=true->j<i:=by
 intro i
 induction i using Nat.strongRecOn with
 |_ i ih=>
  intro j hi h
  rw[oz dp hi] at h
  obtain⟨d,vP,h⟩:=sC h
  have:=hd i hi d vP
  rcases h with h|h
  .omega
  have h2:=ih d this (by omega) (j:=j) (by rw[oz dp (by omega)];rwa[oz dp this] at h)
  omega
theorem IA {dp:Nat->List Nat}{N:Nat}(hd:∀i,i<N->∀d∈dp i,d<i){X:Nat->Bool}(hX:∀i,i<N->X i=true->∀d∈dp i,X d=true):∀ {i j:Nat},i<N->(∀d∈dp i,X d=true)->((Nv dp N).getD i 0).testBit j=true->X j=true:=by
 intro i
 induction i using Nat.strongRecOn with
 |_ i ih=>
  intro j hi zM h
  rw[oz dp hi] at h
  obtain⟨d,vP,h⟩:=sC h
  have:=hd i hi d vP
  rcases h with h|h
  .subst h;exact zM j vP
  exact ih d this (by omega) (hX d (by omega) (zM d vP)) (by rw[oz dp (by omega)];rwa[oz dp this] at h)
def pI (us:List qP)(k:Nat):Option (Nat×Option E2):=(us[k]?).bind (·.sl)
def oA (us:List qP)(k:Nat):List (Nat×Option R2):=match us[k]? with
 |some u=>u.re
 |none=>[]
def r5 (us:List qP)(X:Nat->Bool):Nat->List (Nat×Option E2)
 |0=>[]
 |k+1=>match X k with
  |true=>Ns (pI us k) (r5 us X k)
  |false=>r5 us X k
def r6 (us:List qP)(X:Nat->Bool):Nat->List (Nat×Option R2)
 |0=>[]
 |k+1=>match X k with
  |true=>oA us k++r6 us X k
  |false=>r6 us X k
section
variable {s0:Nat->Option E2}{r0:Nat->Option R2}{us:List qP}{X Y:Nat->Bool}
theorem oB {s:Nat->Option E2}{x:Option (Nat×Option E2)}{t:Nat}(h:∀e,x≠some (t,e)):RB s x t=s t:=by
 cases x with
 |none=>rfl
 |some p=>exact mC fun q=>h p.2 (by rw[<-q])
theorem nq {t:Nat}:∀ {K:Nat},(∀k,k<K->∀e,pI us k=some (t,e)->X k=Y k)->eV s0 (r5 us X K) t=eV s0 (r5 us Y K) t
 |0,_=>rfl
 |K+1,h=>by
  have ih:=nq (K:=K) fun k hk=>h k (by omega)
  by_cases q:∃e,pI us K=some (t,e)
  .obtain⟨e,he⟩:=q
   have AR:=h K (by omega) e he
   simp only[r5,AR]
   split
   .rw[kZ,kZ,he]
    show l9 _ t e t=l9 _ t e t
    rw[e8,e8]
   exact ih
  have h1:∀(Z:Nat->Bool),eV s0 (r5 us Z (K+1)) t=eV s0 (r5 us Z K) t:=fun Z=>by
   simp only[r5]
   split
   .rw[kZ];exact oB fun e he=>q ⟨e,he⟩
   rfl
  rw[h1,h1,ih]
theorem nr {j:Nat}:∀ {K:Nat},(∀k,k<K->(∃x,(j,x)∈oA us k)->X k=Y k)->aQ r0 (r6 us X K) j=aQ r0 (r6 us Y K) j
 |0,_=>rfl
 |K+1,h=>by
  have ih:=nr (K:=K) fun k hk=>h k (by omega)
  by_cases q:∃x,(j,x)∈oA us K
  .have AR:=h K (by omega) q
   simp only[r6,AR]
   split
   .rw[dz,dz];exact Cs q _ _
   exact ih
  have h1:∀(Z:Nat->Bool),aQ r0 (r6 us Z (K+1)) j=aQ r0 (r6 us Z K) j:=fun Z=>by
   simp only[r6]
   split
   .rw[dz];exact iB q _
   rfl
  rw[h1,h1,ih]
theorem wM {t i:Nat}:∀ {K:Nat},i<=K->(∀k,i<=k->k<K->∀e,pI us k=some (t,e)->X k=false)->eV s0 (r5 us X K) t=eV s0 (r5 us X i) t
 |0,h,_=>by rw[show i=0 by omega]
 |K+1,h,hk=>by
  by_cases q:i=K+1
  .rw[q]
  rw[<-wM (K:=K) (by omega) fun k h1 h2=>hk k h1 (by omega)]
  simp only[r5]
  split
  .rename_i hx
   rw[kZ]
   refine oB fun e he=>?_
   have:=hk K (by omega) (by omega) e he
   rw[hx] at this;cases this
  rfl
theorem wN {j i:Nat}:∀ {K:Nat},i<=K->(∀k,i<=k->k<K->(∃x,(j,x)∈oA us k)->X k=false)->aQ r0 (r6 us X K) j=aQ r0 (r6 us X i) j
 |0,h,_=>by rw[show i=0 by omega]
 |K+1,h,hk=>by
  by_cases q:i=K+1
  .rw[q]
  rw[<-wN (K:=K) (by omega) fun k h1 h2=>hk k h1 (by omega)]
  simp only[r6]
  split
  .rename_i hx
   rw[dz]
   refine iB (fun he=>?_) _
   have:=hk K (by omega) (by omega) he
   rw[hx] at this;cases this
  rfl
theorem Nx {i N:Nat}(hi:i<N)(hX:X i=false)(hY:∀k,Y k=(X k||decide (k=i)))(hc:∀k,k<N->X k=true->i<k->∀t e e',pI us i=some (t,e)->pI us k≠some (t,e')):RB (eV s0 (r5 us X N)) (pI us i)=eV s0 (r5 us Y N):=by
 funext t
 by_cases q:∃e,pI us i=some (t,e)
 .obtain⟨e,he⟩:=q
  rw[wM (i:=i+1) (X:=Y) (by omega) fun k h1 h2 e' LN=>?_]
  .have hy:Y i=true:=by rw[hY];simp
   simp only[r5,hy]
   rw[kZ,he]
   show l9 _ t e t=l9 _ t e t
   rw[e8,e8]
  rw[hY]
  cases hx:X k with
  |true=>exact(hc k h2 hx (by omega) t e e' he LN).elim
  |false=>simp;omega
 rw[oB fun e he=>q ⟨e,he⟩]
 refine nq fun k hk e he=>?_
 have:k≠i:=fun z=>q ⟨e,by rw[<-z];exact he⟩
 rw[hY,decide_eq_false this,Bool.or_false]
theorem Ny {i N:Nat}(hi:i<N)(hX:X i=false)(hY:∀k,Y k=(X k||decide (k=i)))(hc:∀k,k<N->X k=true->i<k->∀j x x',(j,x)∈oA us i->(j,x')∉oA us k):aQ (aQ r0 (r6 us X N)) (oA us i)=aQ r0 (r6 us Y N):=by
 funext j
 by_cases q:∃x,(j,x)∈oA us i
 .rw[wN (i:=i+1) (X:=Y) (by omega) fun k h1 h2 wj=>?_]
  .have hy:Y i=true:=by rw[hY];simp
   have e:r6 us Y (i+1)=oA us i++r6 us Y i:=by simp only[r6,hy]
   rw[e,dz r0 (oA us i) (r6 us Y i)]
   exact Cs q _ _
  rw[hY]
  obtain⟨x,hx⟩:=q
  obtain⟨x',wj⟩:=wj
  cases Rr:X k with
  |true=>exact(hc k h2 Rr (by omega) j x x' hx wj).elim
  |false=>simp;omega
 rw[iB q]
 refine nr fun k hk he=>?_
 have:k≠i:=fun z=>q (by rw[<-z];exact he)
 rw[hY,decide_eq_false this,Bool.or_false]
end
def IB (M:List Nat)(i j:Nat):Bool:=!Nat.beq i j && (!(M.getD i 0).testBit j && !(M.getD j 0).testBit i)
def YL (U:List Nat)(us:List qP)(t:Nat):Bool:=U.any fun j=>match pI us j with
 |some p=>Nat.beq p.1 t
 |none=>false
def YM (U:List Nat)(us:List qP)(j:Nat):Bool:=U.any fun k=>(oA us k).any fun p=>Nat.beq p.1 j
def RE {α:Type}(h:Nat->Bool)(f:Nat->Option α):Nat->Option α:=fun t=>match h t with
 |true=>none
 |false=>f t
def Nz (N:Nat)(f:Nat->Bool):Bool:=(List.range N).all f
theorem qR {N:Nat}{f:Nat->Bool}(h:Nz N f=true){i:Nat}(hi:i<N):f i=true:=List.all_eq_true.1 h i (List.mem_range.2 hi)
def CD (us:List qP)(k:Nat):List Nat:=match pI us k with
 |some (_,some e)=>e.ch.map (·.1)
 |_=>[]
section
variable (P:Program)(T:List (dy P))(sd:Nat)(hn:List (Nat×Bool))(n:Nat)(ops:Array Oper)(s0:Nat->Option E2)(r0:Nat->Option R2)(b:Nat)(us:List qP)
def NA (M:List Nat)(i:Nat):Bool:=
 match ops[i]? with
 |some o=>((stepG P T sd hn n ops (b+sd*i) o).run (RE (YL ((List.range ops.size).filter (IB M i)) us) (eV s0 (r5 us (M.getD i 0).testBit ops.size))) (RE (YM ((List.range ops.size).filter (IB M i)) us) (aQ r0 (r6 us (M.getD i 0).testBit ops.size)))).isSome
 |none=>false
def CE (i j:Nat):Bool:=
 (match pI us i,pI us j with
  |some p,some q=>!Nat.beq p.1 q.1
  |_,_=>true) && (oA us i).all fun p=>(oA us j).all fun q=>!Nat.beq p.1 q.1
def YN (M:List Nat)(i:Nat):Bool:=(oA us i).all fun p=>Nat.blt p.1 b||(let k:=(p.1-b)/sd;Nat.beq k i||(M.getD i 0).testBit k)
def NB (M:List Nat):Bool:=
 (Nat.blt 0 sd && Nz ops.size (fun i=>(ov ops.toList i).all fun d=>Nat.blt d i)) && (Nz ops.size (fun i=>NA P T sd hn n ops s0 r0 b us M i && YN sd b us M i) && Nz ops.size fun i=>Nz ops.size fun j=>(!IB M i j||CE us i j) && ((CD us j).all fun t=>(match(ops[i]?).bind (·.dst) with
  |some d=>!Nat.beq d t||((M.getD j 0).testBit i)
  |none=>true)))
end
def cnt (X:Nat->Bool):Nat->Nat
 |0=>0
 |k+1=>cnt X k+(match X k with|true=>0|false=>1)
theorem Em:∀N,cnt (fun _=>false) N=N
 |0=>rfl
 |k+1=>by rw[cnt,Em k]
theorem En {X:Nat->Bool}:∀ {N:Nat},cnt X N=0->∀k,k<N->X k=true
 |N+1,h,k,hk=>by
  rw[cnt] at h
  by_cases q:k=N
  .subst q
   cases hx:X k with
   |true=>rfl
   |false=>rw[hx] at h;simp at h
  exact En (N:=N) (by omega) k (by omega)
theorem tE {X Y:Nat->Bool}:∀ {N:Nat},(∀k,k<N->X k=Y k)->cnt X N=cnt Y N
 |0,_=>rfl
 |N+1,h=>by rw[cnt,cnt,tE fun k hk=>h k (by omega),h N (by omega)]
theorem Eo {X Y:Nat->Bool}{i:Nat}(hX:X i=false)(hY:∀k,Y k=(X k||decide (k=i))):∀ {N:Nat},i<N->cnt Y N+1=cnt X N
 |N+1,h=>by
  rw[cnt,cnt]
  by_cases q:i=N
  .subst q
   have e:cnt Y i=cnt X i:=tE fun k hk=>by rw[hY,decide_eq_false (by omega),Bool.or_false]
   rw[e,hX,hY i]
   simp
  have:=Eo hX hY (N:=N) (by omega)
  have e:Y N=X N:=by rw[hY,decide_eq_false (fun z=>q z.symm),Bool.or_false]
  rw[e];omega
section
variable {P:Program}{o:bC}{n:Nat}{A A':bF}{S S':aL}{F G:Nat->Prop}{s0:Nat->Option E2}{r0:Nat->Option R2}{a:Act}{w w':World}{b:Nat}{T:List (dy P)}{sd:Nat}{hn:List (Nat×Bool)}{ops:Array Oper}{Q:Exit->Act->World->Prop}
theorem A4 {full:List qP}:∀ {l:List Oper} {k:Nat} {us pre:List qP},full=pre++us->pre.length=k->yh P T sd hn n ops s0 r0 l (b+sd*k) (r5 full (fun _=>true) k) (r6 full (fun _=>true) k)=some us->
  us.length=l.length/\∀i op,l[i]?=some op->∃u,full[k+i]?=some u/\(stepG P T sd hn n ops (b+sd*(k+i)) op).run (eV s0 (r5 full (fun _=>true) (k+i))) (aQ r0 (r6 full (fun _=>true) (k+i)))=some u
 |[],k,us,pre,_,_,h=>by
  cases h
  exact⟨rfl,fun i op hi=>by simp at hi⟩
 |op::l,k,us,pre,Up,hk,h=>by
  simp only[yh] at h
  split at h
  .split at h
   .rename_i u hu
    split at h
    .rename_i YJ F7
     cases h
     have kG:full[k]?=some u:=by rw[Up,List.getElem?_append_right (by omega),hk,Nat.sub_self];rfl
     have QO:r5 full (fun _=>true) (k+1)=Ns u.sl (r5 full (fun _=>true) k):=by simp only[r5,pI,kG,Option.bind_some]
     have zX:r6 full (fun _=>true) (k+1)=u.re++r6 full (fun _=>true) k:=by simp only[r6,oA,kG]
     obtain⟨h1,h2⟩:=A4 (full:=full) (l:=l) (k:=k+1) (us:=YJ) (pre:=pre++[u]) (by rw[Up];simp) (by simp[hk]) (by rw[QO,zX,show b+sd*(k+1)=b+sd*k+sd by rw[Nat.mul_succ];omega];exact F7)
     refine⟨by simp[h1],fun i op' hi=>?_⟩
     cases i with
     |zero=>
      have:op=op':=by simpa using hi
      subst this
      exact⟨u,by simpa using kG,by simpa using hu⟩
     |succ i=>
      obtain⟨u',k1,k2⟩:=h2 i op' (by simpa using hi)
      exact⟨u',by rw[show k+(i+1)=k+1+i by omega];exact k1,by rw[show k+(i+1)=k+1+i by omega];exact k2⟩
    cases h
   cases h
  cases h
theorem wO {α:Type}{h:Nat->Bool}{f g:Nat->Option α}(k:∀t,h t=false->f t=g t):∀t e,RE h f t=some e->g t=some e:=by
 intro t e he
 unfold RE at he
 split at he
 .cases he
 rename_i hh;rw[<-k t hh];exact he
theorem RF {sd b i q j:Nat}(h1:b+sd*q<=j)(h2:j<b+sd*q+sd)(h3:b+sd*i<=j)(h4:j<b+sd*i+sd):q=i:=by
 rcases Nat.lt_trichotomy q i with h|h|h
 .have:=Nat.mul_le_mul_left sd (show q+1<=i from h)
  rw[Nat.mul_succ] at this;omega
 .exact h
 have:=Nat.mul_le_mul_left sd (show i+1<=q from h)
 rw[Nat.mul_succ] at this;omega
theorem NC {us:List qP}(h0:∀t e,s0 t=some e->e.ch=[])(RG:yh P T sd hn n ops s0 r0 ops.toList b [] []=some us){M:List Nat}(hM:M=Nv (ov ops.toList) ops.size)(Dw:NB P T sd hn n ops s0 r0 b us M=true)
  (cE:∀u∈us,∀p∈u.cs,p) (mN:∀u∈us,∀h∈u.hs,∀A w,h.lhs A w=h.rhs A w)
  (k:∀A' S' F' a' w',cv o n A' S' F' (eV s0 (r5 us (fun _=>true) ops.size)) (aQ r0 (r6 us (fun _=>true) ops.size)) a' w'->(∀j,b+sd*ops.size<=j->¬F' j)->Q .normal a' w')
  (H:cv o n A S F s0 r0 a w) (hF:∀j,b<=j->¬F j):wpAny P .any ops Q ops.size (Array.replicate ops.size false) a w:=by
 obtain⟨hlen,YO⟩:=A4 (b:=b) (full:=us) (us:=us) (k:=0) (pre:=[]) (by simp) rfl (by simpa[r5,r6] using RG)
 rw[Array.length_toList] at hlen
 unfold NB at Dw
 simp only[Bool.and_eq_true] at Dw
 obtain⟨⟨hsd,hd⟩,hv,hu⟩:=Dw
 have hsd:0<sd:=by simpa using Nat.blt_eq▸hsd
 have RH:∀i,i<ops.size->∀d∈ov ops.toList i,d<i:=fun i hi d vP=>by
  have:=List.all_eq_true.1 (qR hd hi) d vP
  simpa using Nat.blt_eq▸this
 have mlt:∀ {i j:Nat},i<ops.size->(M.getD i 0).testBit j=true->j<i:=fun hi h=>RD RH hi (by rw[<-hM];exact h)
 have apart:∀ {i j:Nat},i<ops.size->j<ops.size->IB M i j=true->CE us i j=true:=fun {i j} hi hj Dx=>by
  have:=qR (qR hu hi) hj
  rw[Bool.and_eq_true,Dx] at this
  simpa using this.1
 have VB:∀ {i j d t:Nat},i<ops.size->j<ops.size->(ops[i]?).bind (·.dst)=some d->t∈CD us j->d=t->(M.getD j 0).testBit i=true:=fun {i j d t} hi hj jr ht e=>by
  have:=qR (qR hu hi) hj
  rw[Bool.and_eq_true] at this
  have:=List.all_eq_true.1 this.2 t ht
  rw[jr] at this
  subst e
  simpa[Nat.beq_refl] using this
 have core:∀(fuel:Nat) (bu:Array Bool) (a:Act) (w:World) (A:bF) (S:aL) (F:Nat->Prop),bu.size=ops.size->cnt (fun i=>bu.getD i false) ops.size=fuel->
   (∀i,i<ops.size->bu.getD i false=true->∀d∈ov ops.toList i,bu.getD d false=true)->
   cv o n A S F (eV s0 (r5 us (fun i=>bu.getD i false) ops.size)) (aQ r0 (r6 us (fun i=>bu.getD i false) ops.size)) a w->
   (∀j,b<=j->F j->∃i,i<ops.size/\bu.getD i false=true/\b+sd*i<=j/\j<b+sd*i+sd)->wpAny P .any ops Q fuel bu a w:=by
  intro fuel
  induction fuel with
  |zero=>
   intro bu a w A S F dc hc Du H hFX
   have dL:=En hc
   have VC:Region.ready .any ops bu=[]:=by
    refine List.eq_nil_iff_forall_not_mem.2 fun i hi=>?_
    obtain⟨h1,op,fC,_⟩:=mem_ready.1 hi
    have zM:i<ops.size:=(Array.getElem?_eq_some_iff.1 fC).1
    have h3:=dL i zM
    rw[Array.getD_eq_getD_getElem?] at h1 h3
    rw[Array.getElem?_eq_getElem (by omega)] at h1 h3
    simp only[Option.getD_some] at h1 h3
    rw[h1] at h3;cases h3
   refine⟨VC,?_⟩
   have e1:eV s0 (r5 us (fun i=>bu.getD i false) ops.size)=eV s0 (r5 us (fun _=>true) ops.size):=funext fun t=>nq fun i hi _ _=>dL i hi
   have e2:aQ r0 (r6 us (fun i=>bu.getD i false) ops.size)=aQ r0 (r6 us (fun _=>true) ops.size):=funext fun t=>nr fun i hi _=>dL i hi
   rw[e1,e2] at H
   refine k A S F a w H fun j hj hn=>?_
   obtain⟨i,h1,_,h3,h4⟩:=hFX j (by omega) hn
   have:=Nat.mul_le_mul_left sd (show i+1<=ops.size from h1)
   rw[Nat.mul_succ] at this
   omega
  |succ fuel ih=>
   intro bu a w A S F dc hc Du H hFX
   constructor
   ·
    intro RI
    exfalso
    have hex:∃i,i<ops.size/\bu.getD i false=false:=by
     refine Classical.byContradiction fun q=>?_
     have:cnt (fun i=>bu.getD i false) ops.size=cnt (fun _=>true) ops.size:=tE fun i hi=>by
      cases hx:bu.getD i false with
      |true=>rfl
      |false=>exact(q ⟨i,hi,hx⟩).elim
     have z:∀N,cnt (fun _=>true) N=0:=fun N=>by
      induction N with
      |zero=>rfl
      |succ N ih=>exact ih
     rw[this,z] at hc;cases hc
    obtain⟨i,⟨hi,hx⟩,RJ⟩:=DI (p:=fun i=>i<ops.size/\bu.getD i false=false) hex.choose hex.choose_spec
    have fE:i∈Region.ready .any ops bu:=by
     refine mem_ready.2 ⟨?_,ops[i],Array.getElem?_eq_getElem hi,fun e he hb=>?_⟩
     .rw[Array.getD_eq_getD_getElem?,Array.getElem?_eq_getElem (by omega)] at hx ⊢
      exact hx
     have aaV:e.on∈ov ops.toList i:=by
      unfold ov
      rw[show ops.toList[i]?=some ops[i] by simp[Array.getElem?_eq_getElem hi]]
      exact List.mem_map.2 ⟨e,List.mem_filter.2 ⟨by simpa using he,hb⟩,rfl⟩
     have iL:=RH i hi _ aaV
     cases hy:bu.getD e.on false with
     |true=>rfl
     |false=>have:=RJ e.on ⟨by omega,hy⟩;omega
    rw[RI] at fE;cases fE
   intro i hir
   obtain⟨h1,op,fC,YP⟩:=mem_ready.1 hir
   have hi:i<ops.size:=(Array.getElem?_eq_some_iff.1 fC).1
   have YQ:ops.toList[i]?=some op:=by simpa using fC
   have XG:bu.getD i false=false:=by
    rw[Array.getD_eq_getD_getElem?,Array.getElem?_eq_getElem (by omega)] at h1 ⊢
    exact h1
   have hdX:∀d∈ov ops.toList i,bu.getD d false=true:=fun d vP=>by
    unfold ov at vP
    rw[YQ] at vP
    obtain⟨e,he,rfl⟩:=List.mem_map.1 vP
    obtain⟨he1,he2⟩:=List.mem_filter.1 he
    exact YP e (by simpa using he1) he2
   have min:∀ {j:Nat},(M.getD i 0).testBit j=true->bu.getD j false=true:=fun h=>IA RH (X:=fun j=>bu.getD j false) Du hi hdX (by rw[<-hM];exact h)
   have mno:∀ {j:Nat},j<ops.size->bu.getD j false=true->(M.getD j 0).testBit i=false:=fun {j} hj hl=>by
    cases hx:(M.getD j 0).testBit i with
    |false=>rfl
    |true=>
     have:=IA RH (X:=fun j=>bu.getD j false) Du hj (Du j hj hl) (by rw[<-hM];exact hx)
     rw[XG] at this;cases this
   have ne:∀ {j:Nat},bu.getD j false=true->i≠j:=fun hl e=>by subst e;rw[XG] at hl;cases hl
   have un:∀ {j:Nat},j<ops.size->bu.getD j false=true->(M.getD i 0).testBit j=false->IB M i j=true:=fun {j} hj hl hb=>by
    unfold IB
    rw[hb,mno hj hl]
    have:Nat.beq i j=false:=by
     cases hx:Nat.beq i j with
     |false=>rfl
     |true=>exact(ne hl (b6 hx)).elim
    rw[this];rfl
   obtain⟨u,hu1,YR⟩:=YO i op YQ
   rw[Nat.zero_add] at hu1 YR
   have hvk:=qR hv hi
   rw[Bool.and_eq_true] at hvk
   obtain⟨Eh,o7⟩:=hvk
   unfold NA at Eh
   rw[fC] at Eh
   obtain⟨u',FX⟩:=Option.isSome_iff_exists.1 Eh
   have IC:∀ {t j:Nat} {e:Option E2},YL ((List.range ops.size).filter (IB M i)) us t=false->j<ops.size->pI us j=some (t,e)->IB M i j=false:=fun {t j e} hh hj hs=>by
    cases hx:IB M i j with
    |false=>rfl
    |true=>
     have:=List.any_eq_false.1 hh j (List.mem_filter.2 ⟨List.mem_range.2 hj,hx⟩)
     rw[hs] at this
     exact(this (Nat.beq_refl _)).elim
   have ID:∀ {t j:Nat},YM ((List.range ops.size).filter (IB M i)) us t=false->j<ops.size->(∃x,(t,x)∈oA us j)->IB M i j=false:=fun {t j} hh hj ⟨x,hs⟩=>by
    cases hx:IB M i j with
    |false=>rfl
    |true=>
     have:=List.any_eq_false.1 hh j (List.mem_filter.2 ⟨List.mem_range.2 hj,hx⟩)
     exact(this (List.any_eq_true.2 ⟨_,hs,Nat.beq_refl _⟩)).elim
   have order:∀ {j:Nat},j<ops.size->IB M i j=false->j≠i->(M.getD i 0).testBit j=true\/(M.getD j 0).testBit i=true:=fun {j} hj Dx cO=>by
    unfold IB at Dx
    have:Nat.beq i j=false:=by
     cases hx:Nat.beq i j with
     |false=>rfl
     |true=>exact(cO (b6 hx).symm).elim
    rw[this] at Dx
    cases h1:(M.getD i 0).testBit j with
    |true=>exact .inl rfl
    |false=>
     cases h2:(M.getD j 0).testBit i with
     |true=>exact .inr rfl
     |false=>rw[h1,h2] at Dx;cases Dx
   have YS:u'=u:=by
    have:=Tr.mono (wO fun t ht=>?_) (wO fun t ht=>?_) _ FX (s':=eV s0 (r5 us (fun _=>true) i)) (r':=aQ r0 (r6 us (fun _=>true) i))
    .rw[YR] at this;exact(Option.some.inj this).symm
    .rw[wM (i:=i) (X:=(M.getD i 0).testBit) (by omega) fun j oC o8 e he=>?_]
     .refine nq fun j hj e he=>?_
      rcases order (by omega) (IC ht (by omega) he) (by omega) with q|q
      .exact q
      have:=mlt (by omega) q;omega
     cases hx:(M.getD i 0).testBit j with
     |false=>rfl
     |true=>have:=mlt hi hx;omega
    rw[wN (i:=i) (X:=(M.getD i 0).testBit) (by omega) fun j oC o8 he=>?_]
    .refine nr fun j hj he=>?_
     rcases order (by omega) (ID ht (by omega) he) (by omega) with q|q
     .exact q
     have:=mlt (by omega) q;omega
    cases hx:(M.getD i 0).testBit j with
    |false=>rfl
    |true=>have:=mlt hi hx;omega
   subst YS
   have YT:(stepG P T sd hn n ops (b+sd*i) op).run (eV s0 (r5 us (fun i=>bu.getD i false) ops.size)) (aQ r0 (r6 us (fun i=>bu.getD i false) ops.size))=some u':=by
    refine Tr.mono (wO fun t ht=>?_) (wO fun t ht=>?_) _ FX
    .refine nq fun j hj e he=>?_
     have Dx:=IC ht hj he
     cases hx:bu.getD j false with
     |true=>
      cases hb:(M.getD i 0).testBit j with
      |true=>rfl
      |false=>rw[un hj hx hb] at Dx;cases Dx
     |false=>
      cases hb:(M.getD i 0).testBit j with
      |true=>have:=min hb;rw[hx] at this;cases this
      |false=>rfl
    refine nr fun j hj he=>?_
    have Dx:=ID ht hj he
    cases hx:bu.getD j false with
    |true=>
     cases hb:(M.getD i 0).testBit j with
     |true=>rfl
     |false=>rw[un hj hx hb] at Dx;cases Dx
    |false=>
     cases hb:(M.getD i 0).testBit j with
     |true=>have:=min hb;rw[hx] at this;cases this
     |false=>rfl
   have fE:u'∈us:=List.mem_of_getElem? hu1
   have KG:pI us i=u'.sl:=by unfold pI;rw[hu1];rfl
   have zX:oA us i=u'.re:=by unfold oA;rw[hu1]
   have Nu:∀d,op.dst=some d->∀t e,eV s0 (r5 us (fun i=>bu.getD i false) ops.size) t=some e->∀l∈e.ch,l.1≠d:=by
    intro d jr t e he l hl q
    have YU:∀K,eV s0 (r5 us (fun i=>bu.getD i false) K) t=some e->K<=ops.size->s0 t=some e\/∃j,j<ops.size/\bu.getD j false=true/\pI us j=some (t,some e):=by
     intro K
     induction K with
     |zero=>intro h _;exact .inl h
     |succ K ihK=>
      intro h hK
      simp only[r5] at h
      split at h
      .rename_i hx
       rw[kZ] at h
       by_cases z:∃e',pI us K=some (t,e')
       .obtain⟨e',LN⟩:=z
        rw[LN] at h
        have h:l9 _ t e' t=some e:=h
        rw[e8] at h
        subst h
        exact .inr ⟨K,by omega,hx,LN⟩
       rw[oB fun e' LN=>z ⟨e',LN⟩] at h
       exact ihK h (by omega)
      exact ihK h (by omega)
    rcases YU _ he (Nat.le_refl _) with h3|⟨j,hj,YV,hjs⟩
    .rw[h0 t e h3] at hl;cases hl
    have:=VB (i:=i) (j:=j) (d:=d) (t:=l.1) hi hj (by rw[fC];exact jr) (by unfold CD;rw[hjs];exact List.mem_map.2 ⟨l,hl,rfl⟩) q.symm
    rw[mno hj YV] at this;cases this
   unfold wpOp
   rw[fC]
   simp only
   have hY:∀q,(bu.setIfInBounds i true).getD q false=(bu.getD q false||decide (q=i)):=fun q=>by
    rw[Array.getD_eq_getD_getElem?,Array.getD_eq_getD_getElem?,Array.getElem?_setIfInBounds]
    by_cases e:i=q
    .subst e
     rw[if_pos rfl,if_pos (by omega)]
     simp
    rw[if_neg e,decide_eq_false (fun z=>e z.symm),Bool.or_false]
   have tC:=Ek (Q:=Q) (K:=wpAny P .any ops Q fuel (bu.setIfInBounds i true)) H (fun j oC o8 Cg=>by
     obtain⟨q,q1,q2,q3,q4⟩:=hFX j (by omega) Cg
     have:q=i:=RF q3 q4 oC o8
     subst this
     rw[XG] at q2;cases q2) YT (cE _ fE) (mN _ fE) Nu fun A' S' a' w' H' hB=>by
    refine ih _ a' w' A' S' (FU F u'.re) (by simp[dc]) ?_ (fun q hq VD d vP=>?_) ?_ fun j hj Cg=>?_
    .have:=Eo (X:=fun i=>bu.getD i false) (Y:=fun q=>(bu.setIfInBounds i true).getD q false) XG hY hi
     rw[hc] at this;omega
    .rw[hY] at VD ⊢
     rw[Bool.or_eq_true] at VD ⊢
     rcases VD with VD|VD
     .exact .inl (Du q hq VD d vP)
     have:=of_decide_eq_true VD
     subst this
     exact .inl (hdX d vP)
    .rw[<-KG,<-zX] at H'
     rw[Nx (X:=fun i=>bu.getD i false) (Y:=fun q=>(bu.setIfInBounds i true).getD q false) hi XG hY fun j hj YV wD t e e' h1 h2=>?_,Ny (X:=fun i=>bu.getD i false) (Y:=fun q=>(bu.setIfInBounds i true).getD q false) hi XG hY fun j hj YV wD t e e' h1 h2=>?_] at H'
     .rw[<-zX];exact H'
     .have hb:(M.getD i 0).testBit j=false:=by
       cases hx:(M.getD i 0).testBit j with
       |false=>rfl
       |true=>have:=mlt hi hx;omega
      have:=apart hi hj (un hj YV hb)
      unfold CE at this
      rw[Bool.and_eq_true] at this
      have:=List.all_eq_true.1 (List.all_eq_true.1 this.2 _ h1) _ h2
      rw[Nat.beq_refl] at this;cases this
     have hb:(M.getD i 0).testBit j=false:=by
      cases hx:(M.getD i 0).testBit j with
      |false=>rfl
      |true=>have:=mlt hi hx;omega
     have:=apart hi hj (un hj YV hb)
     unfold CE at this
     rw[Bool.and_eq_true,h1,h2] at this
     have:=this.1
     simp only[Nat.beq_refl] at this;cases this
    rcases Cg with Cg|⟨x,hx⟩
    .obtain⟨q,q1,q2,q3,q4⟩:=hFX j hj Cg
     exact⟨q,q1,by rw[hY,q2];rfl,q3,q4⟩
    have hk:=List.all_eq_true.1 (show(oA us i).all _=true from o7) (j,x) (by rw[zX];exact hx)
    simp only[Bool.or_eq_true] at hk
    have Rb:=Nat.div_add_mod (j-b) sd
    have LG:=Nat.mod_lt (j-b) hsd
    rcases hk with hk|hk|hk
    .have:j<b:=by simpa using Nat.blt_eq▸hk
     omega
    .have:=b6 hk
     rw[this] at Rb
     refine⟨i,hi,by rw[hY];simp,by omega,by omega⟩
    have hl:=min hk
    have iL:=mlt hi hk
    exact⟨(j-b)/sd,by omega,by rw[hY,hl];rfl,by omega,by omega⟩
   split
   .rename_i hw;rw[if_pos hw] at tC;exact .inl tC
   rename_i hw;rw[if_neg hw] at tC;exact tC
 have gh:∀i,(Array.replicate ops.size false).getD i false=false:=fun i=>by
  rw[Array.getD_eq_getD_getElem?,Array.getElem?_replicate];split<;>rfl
 have e1:eV s0 (r5 us (fun i=>(Array.replicate ops.size false).getD i false) ops.size)=s0:=funext fun t=>by
  rw[wM (i:=0) (Nat.zero_le _) fun j _ _ _ _=>gh j];rfl
 have e2:aQ r0 (r6 us (fun i=>(Array.replicate ops.size false).getD i false) ops.size)=r0:=funext fun t=>by
  rw[wN (i:=0) (Nat.zero_le _) fun j _ _ _=>gh j];rfl
 refine core ops.size _ a w A S F (by simp) ?_ (fun i _ hl=>by rw[gh] at hl;cases hl) (by rw[e1,e2];exact H) fun j hj Cg=>(hF j hj Cg).elim
 rw[tE (Y:=fun _=>false) fun i _=>gh i,Em]
end
structure Mode where
 ro:Option Nat
 ds:List Deferred
def pl:Mode:=⟨none,[]⟩
def Mode.F (m:Mode):Fence:={Fence.wide with round:=m.ro}
def fu (a:Act)(ds:List Deferred):Act:={a with defers:=a.defers++ds}
theorem k8 (a:Act):fu a []=a:=by unfold fu;rw[List.append_nil]
def o9 (m:Mode)(Q:iM):iM:=fun e a w=> ∃a0,a=fu a0 m.ds/\Q e a0 w
def _root_.Go.Code.j7 (m:Mode)(P:Program)(c:Code)(Q:iM)(a:Act)(w:World):Prop:=c.wpIn m.F 0 P (o9 m Q) (fu a m.ds) w
section
variable {m:Mode}{P:Program}{Q Q':iM}{a:Act}{w:World}
theorem yj {c:Code}:c.j7 pl P Q a w↔c.wp P Q a w:=by
 have e:o9 pl Q=Q:=by
  funext e a w
  apply propext
  constructor
  .rintro⟨a0,h1,h2⟩
   rw[show pl.ds=[] from rfl,k8] at h1
   subst h1;exact h2
  intro h;exact⟨a,(k8 a).symm,h⟩
 unfold Code.j7
 rw[e,show pl.ds=[] from rfl,k8]
 exact wpIn_wide
theorem yl {c:Code}(h:c.j7 m P Q a w)(k:∀e a w,Q e a w->Q' e a w):c.j7 m P Q' a w:=wpIn_mono h fun e a w ⟨a0,h1,h2⟩=>⟨a0,h1,k _ _ _ h2⟩
theorem ND (h:Q .normal a w):Code.skip.j7 m P Q a w:=wpIn_skip ⟨a,rfl,h⟩
theorem NF {i:Nat}(h:Q (.exit i) a w):(Code.exit i).j7 m P Q a w:=wpIn_exit ⟨a,rfl,h⟩
theorem wP (h:Q .ret a w):Code.ret.j7 m P Q a w:=wpIn_ret ⟨a,rfl,h⟩
theorem RK {x y:Code}(h:x.j7 m P (Exit.then (y.j7 m P Q) Q) a w):(Code.seq x y).j7 m P Q a w:=by
 refine wpIn_seq (wpIn_mono h fun e a w ⟨a0,h1,h2⟩=>?_)
 subst h1
 cases e with
 |normal=>exact h2
 |_=>exact⟨a0,rfl,h2⟩
theorem KH {i:Nat}{x:Code}(h:x.j7 m P (Exit.inBlock i Q) a w):(Code.block i x).j7 m P Q a w:=by
 refine wpIn_block (wpIn_mono h fun e a w ⟨a0,h1,h2⟩=>?_)
 subst h1
 cases e with
 |normal=>exact⟨a0,rfl,h2⟩
 |exit j=>
  have h2:if j=i then Q .normal a0 w else Q (.exit j) a0 w:=h2
  show if j=i then o9 m Q .normal _ w else o9 m Q (.exit j) _ w
  split
  .rename_i q;rw[if_pos q] at h2;exact⟨a0,rfl,h2⟩
  rename_i q;rw[if_neg q] at h2;exact⟨a0,rfl,h2⟩
 |_=>exact⟨a0,rfl,h2⟩
theorem A5 (c:Operand)(ds:List Deferred):(fu a ds).eval c=a.eval c:=by cases c<;>rfl
theorem Ep {c:Operand}{x y:Code}{t:Bool}(hc:a.eval c= .bool t)(h:(if t then x else y).j7 m P Q a w):(Code.cond c x y).j7 m P Q a w:=wpIn_cond (t:=t) (by rw[A5];exact hc) h
theorem r7 {c:Operand}{x y:Code}(hc:a.eval c= .bool true)(h:x.j7 m P Q a w):(Code.cond c x y).j7 m P Q a w:=Ep hc h
theorem p7 {c:Operand}{x y:Code}(hc:a.eval c= .bool false)(h:y.j7 m P Q a w):(Code.cond c x y).j7 m P Q a w:=Ep hc h
theorem ym {c:Operand}{x y:Code}{b:Bool}(hc:a.eval c= .bool b)(h1:b=true->x.j7 m P Q a w)(h2:b=false->y.j7 m P Q a w):(Code.cond c x y).j7 m P Q a w:=by
 cases b with
 |true=>exact r7 hc (h1 rfl)
 |false=>exact p7 hc (h2 rfl)
def CF (Q:iM):iM:=fun e a w=>match e with
 | .normal=>Q .normal a w
 |_=>False
def Er (ops:Array Oper):Bool:=ops.toList.all fun o=>match o.op with| .defer _=>false|_=>true
theorem Es {ops:Array Oper}(h:Er ops=true){o:Oper}(ho:o∈ops.toList):∀c,o.op≠.defer c:=by
 intro c e
 have:=List.all_eq_true.1 h o ho
 rw[e] at this
 cases this
theorem nt (d:Option Tmp)(v:Value)(ds:List Deferred):(fu a ds).put d v=fu (a.put d v) ds:=by unfold Act.put fu;cases d<;>rfl
theorem VE {n:Nat}{f:FuncId}{args:Array Value}{R:Ending->World->Prop}(h:Calls P f args w R):CallsIn m.F n P f args w R:=by
 have:=callsIn_wide (n:=n).2 h
 cases m with
 |mk ro ds=>exact this
theorem YW {n:Nat}{row:String}{args:Array Value}{R:Value->World->Prop}(h:Rows P row args w R):RowsIn m.F n P row args w R:=by
 cases m with
 |mk ro ds=>
  cases ro with
  |none=>exact fun c cs _=>let⟨v,w',r,s⟩:=h c cs;⟨v,w',r,stepsIn_wide.2 s⟩
  |some l=>exact fun c cs _=>let⟨v,w',r,s⟩:=h c cs;⟨v,w',r,stepsIn_wide.2 s⟩
theorem NG {o:Oper}{K K':Act->World->Prop}(hd:∀c,o.op≠.defer c)(hK:∀a w,K a w->K' (fu a m.ds) w)(h:o.wp P a w K (CF Q)\/(o.asks P a w/\LetsOut (CF Q))):o.wpIn m.F 0 P (fu a m.ds) w K' (o9 m Q):=by
 rcases h with h|⟨_,a0,w0,hq⟩
 .refine⟨fun f _=>trivial,?_⟩
  rw[Oper.semAt_eq _ _ _ hd]
  have he:execOp (fu a m.ds).eval o=execOp a.eval o:=by
   congr 1
  rw[he]
  unfold Oper.wp at h
  generalize (execOp a.eval o).run P w=r at*
  cases r with
  |ok x w'=>
   cases x with
   |value v=>simp only[Oper.upon,Oper.uponIn] at h ⊢;rw[nt];exact hK _ _ h
   |skip=>simp only[Oper.upon,Oper.uponIn] at h ⊢;rw[nt];exact hK _ _ h
   |enter f args=>
    simp only[Oper.upon,Oper.uponIn] at h ⊢
    refine⟨fun e=>(by cases e),(VE (m:=m) h).mono fun e w'' he=>?_⟩
    cases e with
    |returned v=>simp only at he ⊢;rw[nt];exact hK _ _ he
    |panicked ch=>exact(he:False).elim
    |outgrown=>obtain⟨a0,w0,hq⟩:=he;exact(hq:False).elim
   |row rw_ args=>
    simp only[Oper.upon,Oper.uponIn] at h ⊢
    refine⟨fun e=>(by cases e),RowsIn.mono (YW (m:=m) h) fun v w'' he=>?_⟩
    rw[nt];exact hK _ _ he
   |defer d=>simp only[Oper.upon,Oper.uponIn] at h ⊢;have:=hK _ _ h;unfold Act.put fu at this ⊢;cases jr:o.dst<;>rw[jr] at this<;>exact this
   |_=>exact(h:False).elim
  |halt x w'=>cases x<;>simp only[Oper.upon,Oper.uponIn] at h ⊢ <;>exact(h:False).elim
 exact(hq:False).elim
theorem NH {ops:Array Oper}:∀(l:List Oper) (a:Act) (w:World),(∀o∈l,∀c,o.op≠.defer c)->wpList P ops (CF Q) l a w->wpListIn m.F 0 P ops (o9 m Q) l (fu a m.ds) w
 |[],a,w,_,h=>⟨a,rfl,h⟩
 |o::l,a,w,hl,h=>by
  simp only[wpList] at h
  simp only[wpListIn]
  have ih:=fun a w=>NH (ops:=ops) l a w (fun o' LJ=>hl o' (List.mem_cons_of_mem _ LJ))
  have ew:(fu a m.ds).tmps=a.tmps:=rfl
  rw[ew]
  by_cases hw:Region.wanted o (yielded ops a.tmps)=true
  .rw[if_pos hw] at h ⊢
   exact NG (hl o List.mem_cons_self) ih h
  rw[if_neg hw] at h ⊢
  exact⟨fun f _=>trivial,by rw[nt];exact ih _ _ h⟩
theorem IE {ops:Array Oper}(Aa:∀o∈ops.toList,∀c,o.op≠.defer c):∀(k:Nat) (bu:Array Bool) (a:Act) (w:World),wpAny P .any ops (CF Q) k bu a w->wpAnyIn m.F 0 P .any ops (o9 m Q) k bu (fu a m.ds) w
 |0,_,a,_,h=>⟨h.1,a,rfl,h.2⟩
 |k+1,bu,a,w,h=>by
  refine⟨fun q=>⟨a,rfl,h.1 q⟩,fun i hi=>?_⟩
  have h2:=h.2 i hi
  unfold wpOp at h2
  unfold wpOpIn
  have ew:(fu a m.ds).tmps=a.tmps:=rfl
  cases ho:ops[i]? with
  |none=>rw[ho] at h2;exact IE Aa k _ a w h2
  |some o=>
   rw[ho] at h2
   simp only at h2 ⊢
   rw[ew]
   by_cases hw:Region.wanted o (yielded ops a.tmps)=true
   .rw[if_pos hw] at h2 ⊢
    exact NG (Aa o (by have:=List.mem_of_getElem? (l:=ops.toList) (i:=i) (by simpa using ho);exact this)) (fun a w=>IE Aa k _ a w) h2
   rw[if_neg hw] at h2 ⊢
   exact⟨fun f _=>trivial,by rw[nt];exact IE Aa k _ _ w h2⟩
theorem pg {id:Nat}{ops:Array Oper}(hc:Er ops=true)(h:wpList P ops (CF Q) ops.toList a w):(Code.region id ops false).j7 m P Q a w:=
 wpIn_region_list (NH _ a w (fun o ho=>Es hc ho) h)
theorem yo {id:Nat}{ops:Array Oper}(hc:Er ops=true)(hm:P.follows .mixedOrders=true)(h:wpAny P .any ops (CF Q) ops.size (Array.replicate ops.size false) a {w with drawn:=w.drawn+1}):(Code.region id ops true).j7 m P Q a w:=
 wpIn_region_any hm (IE (fun o ho=>Es hc ho) _ _ a _ h)
theorem NI (X:Type)(I:X->Act->World->Prop)(μ:X->Nat)(x0:X){c:Code}(h0:I x0 a w)
  (round:∀x a w,I x a w->c.j7 m P (Exit.then (fun a' w'=> ∃x',I x' a' w'/\μ x'<μ x) Q) a w):(Code.loop c).j7 m P Q a w:=by
 classical
 have hL:∀a w,(∃x,I x a w)->∃k,(∃x,I x a w/\μ x=k)/\∀j,(∃x,I x a w/\μ x=j)->k<=j:=fun a w ⟨x,hx⟩=>DI (p:=fun k=> ∃x,I x a w/\μ x=k) (μ x) ⟨x,hx,rfl⟩
 let mm:Act->World->Nat:=fun a w=>if h:∃x,I x a w then Classical.choose (hL a w h) else 0
 have hm:∀a w,(∃x,I x a w)->(∃x,I x a w/\μ x=mm a w)/\∀k,(∃x,I x a w/\μ x=k)->mm a w<=k:=by
  intro a w h
  have:=Classical.choose_spec (hL a w h)
  simp only[mm,dif_pos h]
  exact this
 let un:Act->Act:=fun a=>{a with defers:=a.defers.take (a.defers.length-m.ds.length)}
 have Dx:∀a:Act,un (fu a m.ds)=a:=fun a=>by
  cases a
  show Act.mk _ _=_
  simp[fu]
 refine wpIn_loop (fun a' w=> ∃a0,a'=fu a0 m.ds/\∃x,I x a0 w) (fun a' w=>mm (un a') w) ⟨a,rfl,x0,h0⟩ fun a' w' hI=>?_
 obtain⟨a0,rfl,hx⟩:=hI
 obtain⟨⟨x,XD,Rr⟩,_⟩:=hm a0 w' hx
 refine wpIn_mono (round x a0 w' XD) fun e a2 w2 ⟨a3,e3,hq⟩=>?_
 subst e3
 cases e with
 |normal=>
  obtain⟨y,hy1,hy2⟩:=hq
  refine⟨⟨a3,rfl,y,hy1⟩,?_⟩
  have:=(hm a3 w2 ⟨y,hy1⟩).2 _ ⟨y,hy1,rfl⟩
  rw[Dx,Dx]
  omega
 |_=>exact⟨a3,rfl,hq⟩
end
structure gW:Type where
 env:List (Nat×Option E2)
 rs:List (Nat×Option R2)
 nx:Nat
def nX (σ:gW):Nat->Option E2:=eV (fun _=>none) σ.env
def jd (σ:gW):Nat->Option R2:=aQ (fun _=>none) σ.rs
structure iZ (o:bC)(n:Nat)(σ:gW)(a:Act)(w:World):Prop where
 ok:∃A S,cv o n A S (· <σ.nx) (nX σ) (jd σ) a w
 ch:∀t e,nX σ t=some e->e.ch=[]
 np:∀j,o.pF j->j<o.kp
structure F4 (o:bC)(n:Nat)(r0:Nat->Option R2)(F0 L:Nat->Prop)(σ:gW)(a:Act)(w:World):Prop where
 ok:∃A S F,cv o n A S F (nX σ) (aQ r0 σ.rs) a w/\(∀j,σ.nx<=j->L j->¬F j)/\∀j,F j->F0 j\/∃x,(j,x)∈σ.rs
 ch:∀t e,nX σ t=some e->e.ch=[]
theorem iZ.i {o:bC}{n:Nat}{σ:gW}{a:Act}{w:World}(h:iZ o n σ a w):F4 o n (fun _=>none) (fun _=>True) (fun _=>True) σ a w:=by
 obtain⟨⟨A,S,H⟩,h0,_⟩:=h
 exact⟨⟨A,S,_,H,fun j h1 _ h2=>by omega,fun _ _=>.inl tv⟩,h0⟩
theorem F4.x {o:bC}{n:Nat}{σ:gW}{a:Act}{w:World}(h:F4 o n (fun _=>none) (fun _=>True) (fun _=>True) σ a w)(np:∀j,o.pF j->j<o.kp):iZ o n σ a w:=by
 obtain⟨⟨A,S,F,H,h1,_⟩,h0⟩:=h
 exact⟨⟨A,S,H.agree (cR.refl _ _) fun j hj=>Classical.byContradiction fun q=>h1 j (Nat.le_of_not_lt q) tv hj⟩,h0,np⟩
inductive It where
 |run (p:List Nat)
 |dM (i:Nat)
 |lp (K:Act->World->Prop)
def post (mo:Mode)(P:Program)(B:Code)(Q:iM):List It->iM
 |[]=>Q
 | .run p::r=>Exit.then (fun a w=>(sub B p).j7 mo P (post mo P B Q r) a w) (post mo P B Q r)
 | .dM i::r=>Exit.inBlock i (post mo P B Q r)
 | .lp K::r=>Exit.then K (post mo P B Q r)
def XH (i:Nat):List It->Option (List It)
 |[]=>none
 | .run _::r=>XH i r
 | .lp _::r=>XH i r
 | .dM j::r=>match Nat.beq i j with
  |true=>some r
  |false=>XH i r
section
variable (P:Program)(T:List (dy P))(sd:Nat)(dr:Bool)(hn:List (Nat×Bool))(n:Nat)
def NJ (ops:Array Oper)(d:Bool)(σ:gW):Option (List qP×gW):=
 match Er ops with
 |false=>none
 |true=>match yh P T sd hn n ops (nX σ) (jd σ) ops.toList σ.nx [] [] with
 |some us=>match d with
  |false=>some (us,⟨wm (AX us [])++σ.env,vN us []++σ.rs,σ.nx+sd*ops.size⟩)
  |true=>match dr && (NB P T sd hn n ops (nX σ) (jd σ) σ.nx us (Nv (ov ops.toList) ops.size) && P.follows .mixedOrders) with
   |true=>some (us,⟨wm (r5 us (fun _=>true) ops.size)++σ.env,r6 us (fun _=>true) ops.size++σ.rs,σ.nx+sd*ops.size⟩)
   |false=>none
 |none=>none
def NK (σ:gW):Operand->Option Bool
 | .tmp t=>match nX σ t with
  |some ⟨[],.one (.b (.lit b))⟩=>some b
  |_=>none
 | .const (.bool b)=>some b
 |_=>none
structure RL:Type 1 where
 cs:List Prop
 hs:List Hid
 st:List It
 σ:gW
def exec (B:Code):Nat->List It->gW->List Prop->List Hid->Option RL
 |0,_,_,_,_=>none
 |f+1,st,σ,cs,hs=>match st with
  | .dM _::r=>exec B f r σ cs hs
  | .run p::r=>match sub B p with
   | .seq _ _=>exec B f (.run (p++[0]):: .run (p++[1])::r) σ cs hs
   | .block i _=>exec B f (.run (p++[0]):: .dM i::r) σ cs hs
   | .skip=>exec B f r σ cs hs
   | .exit i=>match XH i r with
    |some r'=>exec B f r' σ cs hs
    |none=>none
   | .region _ ops d=>match NJ P T sd dr hn n ops d σ with
    |some x=>exec B f r x.2 (cs++x.1.flatMap (·.cs)) (hs++x.1.flatMap (·.hs))
    |none=>some ⟨cs,hs,.run p::r,σ⟩
   | .cond c _ _=>match NK σ c with
    |some true=>exec B f (.run (p++[0])::r) σ cs hs
    |some false=>exec B f (.run (p++[1])::r) σ cs hs
    |none=>some ⟨cs,hs,.run p::r,σ⟩
   |_=>some ⟨cs,hs,.run p::r,σ⟩
  |st=>some ⟨cs,hs,st,σ⟩
end
section
variable {mo:Mode}{P:Program}{o:bC}{n:Nat}{σ σ':gW}{a:Act}{w w':World}{T:List (dy P)}{sd:Nat}{dr:Bool}{hn:List (Nat×Bool)}{B:Code}{Q:iM}{st:List It}{r0:Nat->Option R2}{F0 L:Nat->Prop}
theorem CG {i:Nat}:∀ {st r:List It},XH i st=some r->post mo P B Q r .normal a w->post mo P B Q st (.exit i) a w
 |[],r,h,_=>by cases h
 | .run _::st,r,h,k=>CG (st:=st) h k
 | .lp _::st,r,h,k=>CG (st:=st) h k
 | .dM j::st,r,h,k=>by
  simp only[XH] at h
  split at h
  .rename_i e
   cases h
   have:=b6 e
   subst this
   show(if i=i then post mo P B Q st .normal a w else _)
   rw[if_pos rfl];exact k
  rename_i e
  show(if i=j then post mo P B Q st .normal a w else post mo P B Q st (.exit i) a w)
  rw[if_neg (MJ e)]
  exact CG h k
theorem k9:∀ {st:List It},Q .ret a w->post mo P B Q st .ret a w
 |[],h=>h
 | .run _::st,h=>k9 (st:=st) h
 | .dM _::st,h=>k9 (st:=st) h
 | .lp _::st,h=>k9 (st:=st) h
theorem wQ (x:List (Nat×Option E2))(σ:gW)(rs:List (Nat×Option R2))(k:Nat):nX ⟨x++σ.env,rs,k⟩=eV (nX σ) x:=vO _ _ _
theorem RM (x:List (Nat×Option R2))(σ:gW)(env:List (Nat×Option E2))(k:Nat):jd ⟨env,x++σ.rs,k⟩=aQ (jd σ) x:=dz _ _ _
theorem NL (r0:Nat->Option R2)(σ:gW):∀j x,jd σ j=some x->aQ r0 σ.rs j=some x:=fun j x h=>CB (fun _ _ q=>by cases q) h
theorem VF {id:Nat}{ops:Array Oper}{d:Bool}{us:List qP}(h:F4 o n r0 F0 L σ a w)(hr:NJ P T sd dr hn n ops d σ=some (us,σ'))(hL:∀j,j<σ'.nx->L j)(Dw:dr=true->(∀j,L j)/\(∀j,F0 j)/\r0=fun _=>none)(cE:∀p∈us.flatMap (·.cs),p)(mN:∀h∈us.flatMap (·.hs),∀A w,h.lhs A w=h.rhs A w)
  (k:∀a' w',F4 o n r0 F0 L σ' a' w'->Q .normal a' w'):(Code.region id ops d).j7 mo P Q a w:=by
 obtain⟨⟨A,S,F,H,hF,hF0⟩,h0⟩:=h
 have zZ:∀u∈us,∀p∈u.cs,p:=fun u hu p hp=>cE p (List.mem_flatMap.2 ⟨u,hu,hp⟩)
 have YX:∀u∈us,∀h∈u.hs,∀A w,h.lhs A w=h.rhs A w:=fun u hu p hp=>mN p (List.mem_flatMap.2 ⟨u,hu,hp⟩)
 unfold NJ at hr
 split at hr
 .cases hr
 rename_i rQ
 have fin:∀ {en:List (Nat×Option E2)} {re:List (Nat×Option R2)} {A':bF} {S':aL} {F':Nat->Prop} {a':Act} {w':World},cv o n A' S' F' (eV (nX σ) en) (aQ (aQ r0 σ.rs) re) a' w'->(∀j,σ.nx+sd*ops.size<=j->L j->¬F' j)->(∀j,F' j->F0 j\/∃x,(j,x)∈re++σ.rs)->
   F4 o n r0 F0 L ⟨wm en++σ.env,re++σ.rs,σ.nx+sd*ops.size⟩ a' w':=by
  intro en re A' S' F' a' w' H' QW YK
  refine⟨⟨A',S',F',?_,QW,YK⟩,?_⟩
  .show cv o n A' S' F' (nX ⟨wm en++σ.env,re++σ.rs,_⟩) (aQ r0 (re++σ.rs)) a' w'
   rw[wQ,dz]
   exact H'.less fun t e he=>(tD h0 he).1
  rw[wQ]
  exact fun t e he=>(tD h0 he).2
 split at hr
 .rename_i YJ RG
  split at hr
  .cases hr
   refine pg rQ ?_
   have:=CC (Q:=CF Q) (L:=L) (rest:=[]) h0 (AZ (NL r0 σ) RG) H hF (fun j hj=>hL j (by rw[Array.length_toList] at hj;exact hj)) zZ YX fun A' S' F' a' w' H' QW YK=>k a' w' (fin H' (by rw[Array.length_toList] at QW;exact QW) fun j hj=>?_)
   .rwa[List.append_nil] at this
   rcases YK j hj with q|⟨x,hx⟩
   .exact(hF0 j q).imp (fun z=>z) fun⟨x,hx⟩=>⟨x,List.mem_append_right _ hx⟩
   exact .inr ⟨x,List.mem_append_left _ hx⟩
  split at hr
  .rename_i hb
   cases hr
   rw[Bool.and_eq_true,Bool.and_eq_true] at hb
   obtain⟨d1,d2,d3⟩:=Dw hb.1
   subst d3
   refine yo rQ hb.2.2 ?_
   have H1:cv o n A S F (nX σ) (jd σ) a {w with drawn:=w.drawn+1}:=⟨H.size,H.fh,H.env,H.l8,H.dB,H.bB.on ⟨rfl,rfl,rfl,Nat.le_refl _,fun _ _=>rfl⟩,H.args,H.s8⟩
   exact NC h0 RG rfl hb.2.1 zZ YX (fun A' S' F' a' w' H' QW=>k a' w' (fin H' (fun j hj _=>QW j hj) fun j _=>.inl (d2 j))) H1 fun j hj=>hF j hj (d1 j)
  cases hr
 cases hr
theorem RN {ops:Array Oper}{d:Bool}{us:List qP}(hr:NJ P T sd dr hn n ops d σ=some (us,σ')):σ.nx<=σ'.nx:=by
 unfold NJ at hr
 split at hr
 .cases hr
 split at hr
 .split at hr
  .cases hr;exact Nat.le_add_right _ _
  split at hr
  .cases hr;exact Nat.le_add_right _ _
  cases hr
 cases hr
theorem Et (h:F4 o n r0 F0 L σ a w){c:Operand}{b:Bool}(hb:NK σ c=some b):a.eval c= .bool b:=by
 obtain⟨⟨A,S,F,H,_⟩,h0⟩:=h
 unfold NK at hb
 split at hb
 .rename_i t
  split at hb
  .rename_i b' he
   cases hb
   have:=(H.env t _ he).1 (fun l hl=>by cases hl)
   simp only[Act.eval,Array.getD_eq_getD_getElem?]
   rw[show a.tmps[t]?=some (.bool b) from this];rfl
  cases hb
 .cases hb;rfl
 cases hb
theorem IF {x:RL}(hL:∀j,j<x.σ.nx->L j)(Dw:dr=true->(∀j,L j)/\(∀j,F0 j)/\r0=fun _=>none):∀ {f:Nat} {st:List It} {σ:gW} {cs:List Prop} {hs:List Hid} {a:Act} {w:World},exec P T sd dr hn n B f st σ cs hs=some x->((∀p∈cs,p∈x.cs)/\(∀p∈hs,p∈x.hs)/\σ.nx<=x.σ.nx)/\(F4 o n r0 F0 L σ a w->(∀p∈x.cs,p)->(∀h∈x.hs,∀A w,h.lhs A w=h.rhs A w)->(∀a' w',F4 o n r0 F0 L x.σ a' w'->post mo P B Q x.st .normal a' w')->post mo P B Q st .normal a w):=by
 intro f
 induction f with
 |zero=>intro st σ cs hs a w h;cases h
 |succ f ih=>
  intro st σ cs hs a w h
  have stop:some (⟨cs,hs,st,σ⟩:RL)=some x->((∀p∈cs,p∈x.cs)/\(∀p∈hs,p∈x.hs)/\σ.nx<=x.σ.nx)/\(F4 o n r0 F0 L σ a w->(∀p∈x.cs,p)->(∀h∈x.hs,∀A w,h.lhs A w=h.rhs A w)->(∀a' w',F4 o n r0 F0 L x.σ a' w'->post mo P B Q x.st .normal a' w')->post mo P B Q st .normal a w):=fun e=>by
   cases e;exact⟨⟨fun _ h=>h,fun _ h=>h,Nat.le_refl _⟩,fun h _ _ k=>k a w h⟩
  unfold exec at h
  split at h
  .rename_i i r
   obtain⟨h1,h2⟩:=ih (a:=a) (w:=w) h
   exact⟨h1,h2⟩
  .rename_i p r
   have inner:∀ {R:Prop},R->(F4 o n r0 F0 L σ a w->(∀p∈x.cs,p)->(∀h∈x.hs,∀A w,h.lhs A w=h.rhs A w)->(∀a' w',F4 o n r0 F0 L x.σ a' w'->post mo P B Q x.st .normal a' w')->(sub B p).j7 mo P (post mo P B Q r) a w)->R/\(F4 o n r0 F0 L σ a w->(∀p∈x.cs,p)->(∀h∈x.hs,∀A w,h.lhs A w=h.rhs A w)->(∀a' w',F4 o n r0 F0 L x.σ a' w'->post mo P B Q x.st .normal a' w')->post mo P B Q (.run p::r) .normal a w):=fun h1 h2=>⟨h1,h2⟩
   split at h
   .rename_i c1 c2 hc
    obtain⟨h1,h2⟩:=ih (a:=a) (w:=w) h
    refine inner h1 fun q1 q2 q3 q4=>?_
    have:=h2 q1 q2 q3 q4
    have this:(sub B (p++[0])).j7 mo P (Exit.then (fun a w=>(sub B (p++[1])).j7 mo P (post mo P B Q r) a w) (post mo P B Q r)) a w:=this
    rw[ez,hc,Md] at this
    rw[hc]
    refine RK (yl this fun e a w z=>?_)
    cases e<;>first|exact z|skip
    have z:(sub B (p++[1])).j7 mo P (post mo P B Q r) a w:=z
    rw[ez,hc,Me] at z
    exact z
   .rename_i i c1 hc
    obtain⟨h1,h2⟩:=ih (a:=a) (w:=w) h
    refine inner h1 fun q1 q2 q3 q4=>?_
    have this:(sub B (p++[0])).j7 mo P (Exit.inBlock i (post mo P B Q r)) a w:=h2 q1 q2 q3 q4
    rw[ez,hc,F8] at this
    rw[hc]
    exact KH this
   .rename_i hc
    obtain⟨h1,h2⟩:=ih (a:=a) (w:=w) h
    refine inner h1 fun q1 q2 q3 q4=>?_
    rw[hc]
    exact ND (h2 q1 q2 q3 q4)
   .rename_i i hc
    split at h
    .rename_i r' hu
     obtain⟨h1,h2⟩:=ih (a:=a) (w:=w) h
     refine inner h1 fun q1 q2 q3 q4=>?_
     rw[hc]
     exact NF (CG hu (h2 q1 q2 q3 q4))
    cases h
   .rename_i id ops d hc
    split at h
    .rename_i y hy
     have hm:=(ih (a:=a) (w:=w) h).1
     refine inner ⟨fun q hq=>hm.1 q (List.mem_append_left _ hq),fun q hq=>hm.2.1 q (List.mem_append_left _ hq),Nat.le_trans (RN (σ':=y.2) hy) hm.2.2⟩ fun q1 q2 q3 q4=>?_
     rw[hc]
     exact VF (σ':=y.2) q1 hy (fun j hj=>hL j (Nat.lt_of_lt_of_le hj hm.2.2)) Dw (fun q hq=>q2 q (hm.1 q (List.mem_append_right _ hq))) (fun q hq=>q3 q (hm.2.1 q (List.mem_append_right _ hq))) fun a' w' h'=>(ih (a:=a') (w:=w') h).2 h' q2 q3 q4
    exact stop h
   .rename_i c c1 c2 hc
    split at h
    .rename_i hb
     obtain⟨h1,h2⟩:=ih (a:=a) (w:=w) h
     refine inner h1 fun q1 q2 q3 q4=>?_
     have this:(sub B (p++[0])).j7 mo P (post mo P B Q r) a w:=h2 q1 q2 q3 q4
     rw[ez,hc,Aw] at this
     rw[hc]
     exact r7 (Et q1 hb) this
    .rename_i hb
     obtain⟨h1,h2⟩:=ih (a:=a) (w:=w) h
     refine inner h1 fun q1 q2 q3 q4=>?_
     have this:(sub B (p++[1])).j7 mo P (post mo P B Q r) a w:=h2 q1 q2 q3 q4
     rw[ez,hc,Ay] at this
     rw[hc]
     exact p7 (Et q1 hb) this
    exact stop h
   exact stop h
  exact stop h
end
structure At (mo:Mode)(P:Program)(T:List (dy P))(B:Code)(Q:iM)(st:List It)(a:Act)(w:World):Prop where
 get:post mo P B Q st .normal a w
def xS:Option RL->gW
 |some x=>x.σ
 |none=>⟨[],[],0⟩
def xI:Option RL->List It
 |some x=>x.st
 |none=>[]
def xC:Option RL->List Prop
 |some x=>x.cs
 |none=>[False]
def xH:Option RL->List Hid
 |some x=>x.hs
 |none=>[]
abbrev Ab (P:Program)(T:List (dy P))(hn:List (Nat×Bool))(n:Nat)(B:Code)(st:List It)(σ:gW):Option RL:=exec P T 4096 true hn n B 5000 st σ [] []
def KI (B:Code)(σ:gW):List It->Option (BE×List Nat×List It)
 | .run p::r=>match sub B p with
  | .cond (.tmp t) _ _=>match nX σ t with
   |some ⟨[],.one (.b e)⟩=>some (e,p,r)
   |_=>none
  |_=>none
 |_=>none
def uS (B:Code):List It->Option (List Nat×List It)
 | .run p::r=>match sub B p with
  | .loop _=>some (p,r)
  |_=>none
 |_=>none
def oP {α β:Type}(x:Option (α×List Nat×β)):List Nat:=match x with
 |some y=>y.2.1
 |none=>[]
def oR {α:Type}(x:Option (α×List Nat×List It)):List It:=match x with
 |some y=>y.2.2
 |none=>[]
def lP (x:Option (List Nat×List It)):List Nat:=match x with
 |some y=>y.1
 |none=>[]
def lR (x:Option (List Nat×List It)):List It:=match x with
 |some y=>y.2
 |none=>[]
def bO:List (Nat×Option Nat)->Nat->Option (Option Nat)
 |[],_=>none
 |p::l,j=>match Nat.beq p.1 j with
  |true=>some p.2
  |false=>bO l j
def Sc.rn (ρ:List (Nat×Option Nat)):Sc->Option Sc
 | .v x=>some (.v x)
 | .b e=>some (.b (.raw e.den))
 | .own j=>match bO ρ j with
  |some (some k)=>some (.own k)
  |some none=>some (.v (.slice none 0 0))
  |none=>none
 | .mp j=>match bO ρ j with
  |some (some k)=>some (.mp k)
  |some none=>some (.v (.map none))
  |none=>none
 | .ptr j off=>match bO ρ j with
  |some (some k)=>some (.ptr k off)
  |_=>none
 | .el _ _ _ _=>none
 | .mA f cr=>(sD ρ cr).map (.mA f)
 | .hd _ _ _=>none
 | .pd j=>match bO ρ j with
  |some (some k)=>some (.pd k)
  |some none=>some (.v (.pointer none))
  |none=>none
where sD (ρ:List (Nat×Option Nat)):List (Nat×Nat)->Option (List (Nat×Nat))
 |[]=>some []
 |c::l=>match bO ρ c.1,sD ρ l with
  |some (some k),some l'=>some ((k,c.2)::l')
  |_,_=>none
def Sc.nrm:Sc->Sc
 | .b e=>.b (.raw e.den)
 |s=>s
def RO (ρ:List (Nat×Option Nat)):List Sc->Option (List Sc)
 |[]=>some []
 |c::l=>match c.rn ρ,RO ρ l with
  |some c',some l'=>some (c'::l')
  |_,_=>none
def Sy.rn (ρ:List (Nat×Option Nat)):Sy->Option Sy
 | .one s=>(s.rn ρ).map .one
 | .agg cs=>(RO ρ cs).map .agg
 | .mU _=>none
def Sy.nrm:Sy->Sy
 | .one s=>.one s.nrm
 | .agg cs=>.agg (cs.map Sc.nrm)
 | .mU ps=>.mU ps
theorem Sc.tF (A:bF):∀s:Sc,s.nrm.den A=s.den A
 | .b _=>rfl
 | .v _=>rfl
 | .own _=>rfl
 | .mp _=>rfl
 | .ptr _ _=>rfl
 | .el _ _ _ _=>rfl
 | .mA _ _=>rfl
 | .hd _ _ _=>rfl
 | .pd _=>rfl
theorem Sy.tF (A:bF):∀s:Sy,s.nrm.den A=s.den A
 | .one s=>Sc.tF A s
 | .agg cs=>by simp only[nrm,den,List.map_map];congr 2;exact List.map_congr_left fun c _=>Sc.tF A c
 | .mU _=>rfl
def aaW:R2->Bool
 | .ro _ _=>true
 | .mL _ _ _=>true
 |_=>false
def yp (r:Nat->Option R2)(ρ:List (Nat×Option Nat)):List (Nat×Option R2)->List (Nat×Option R2)
 |[]=>[]
 |(j,some x)::l=>match aaW x,bO ρ j with
  |true,some (some k)=>match r k with
   |some y=>match rW y with
    |some z=>(k,some z)::yp r ρ l
    |none=>yp r ρ l
   |none=>yp r ρ l
  |_,_=>yp r ρ l
 |(_,none)::l=>yp r ρ l
def R2.rn (ρ:List (Nat×Option Nat)):R2->Option R2
 | .box t cs=>(RO ρ cs).map (.box t)
 | .ext (.nest q h e t ie l)=>match bO ρ q with
  |some (some k)=>some (.ext (.nest k h e t ie l))
  |_=>none
 | .ext (.ff q k h t ie m)=>match bO ρ q with
  |some (some p)=>some (.ext (.ff p k h t ie m))
  |_=>none
 | .ext (.DS q k t m x)=>match bO ρ q with
  |some (some p)=>some (.ext (.DS p k t m x))
  |_=>none
 | .ext (.vw _ _ _ _ _)=>none
 | .ext (.fwd _)=>none
 |x=>some x
def R2.nrm:R2->R2
 | .box t cs=>.box t (cs.map Sc.nrm)
 |x=>x
def mg:R2->Option R2
 | .row e t []=>some (.row e t [])
 | .ro t []=>some (.ro t [])
 | .ext (.nest q none e t ie [])=>some (.ext (.nest q none e t ie []))
 | .ext (.vC t x)=>match(show Option (El t) from x) with
  |none=>some (.ext (.vC t (none:Option (El t))))
  |some _=>none
 | .mL k t m=>match(show List (bL k×El t) from m) with
  |[]=>some (.mL k t ([]:List (bL k×El t)))
  |_=>none
 |_=>none
def eL (ρ:List (Nat×Option Nat))(σ σ':gW):Prop:=(σ'.env.map fun p=>p.2.map fun e=>(e.ch,e.sy.rn ρ))=σ'.env.map fun p=>(nX σ p.1).map fun e=>(e.ch,some e.sy.nrm)
def R2.YY (ρ:List (Nat×Option Nat))(j:Nat)(x:R2):Option R2:=match bO ρ j with
 |some none=>some x
 |_=>x.rn ρ
def gl (ρ:List (Nat×Option Nat))(σ σ':gW):Prop:=(σ'.rs.map fun p=>p.2.bind (R2.YY ρ p.1))=σ'.rs.map fun p=>match bO ρ p.1 with
 |some (some k)=>(aQ (jd σ) (yp (jd σ) ρ σ'.rs) k).map R2.nrm
 |some none=>p.2.bind mg
 |none=>none
def R2.VH (k:Nat):R2->Bool
 | .ext (.nest q _ _ _ _ _)=>Nat.blt q k
 | .ext (.ff q _ _ _ _ _)=>Nat.blt q k
 | .box _ _=>false
 |_=>true
def jh (ρ:List (Nat×Option Nat))(σ':gW):Bool:=
 ρ.all (fun p=>Nat.blt p.1 σ'.nx) && (σ'.env.all (fun p=>match p.2 with|some e=>e.ch.isEmpty|none=>false) && (σ'.rs.all (fun p=>match p.2 with|some x=>(match bO ρ p.1 with|some (some _)=>(x.rn ρ).isSome|some none=>x.VH σ'.nx|none=>false)|none=>false) && σ'.rs.all fun p=>σ'.rs.all fun q=>Nat.beq p.1 q.1||(match bO ρ p.1,bO ρ q.1 with|some (some j),some (some k)=>!Nat.beq j k|_,_=>true)))
theorem nu:∀ {ρ:List (Nat×Option Nat)} {j:Nat} {x:Option Nat},bO ρ j=some x->(j,x)∈ρ
 |[],_,_,h=>by cases h
 |p::l,j,x,h=>by
  simp only[bO] at h
  split at h
  .rename_i e
   cases h
   rw[<-b6 e];exact List.mem_cons_self
  exact List.mem_cons_of_mem _ (nu h)
theorem qS {r:Nat->Option R2}{ρ:List (Nat×Option Nat)}:∀ {l:List (Nat×Option R2)},Xx r (yp r ρ l)
 |[]=>fun _ h=>by cases h
 |(j,none)::l=>qS (l:=l)
 |(j,some x)::l=>by
  simp only[yp]
  split
  .rename_i k _ _
   split
   .rename_i y hr
    split
    .rename_i z hz
     intro p hp
     rcases List.mem_cons.1 hp with rfl|hp
     .exact⟨y,z,hr,hz,rfl⟩
     exact qS p hp
    exact qS
   exact qS
  exact qS
def dY (A:bF)(ρ:List (Nat×Option Nat)):bF:=
 ⟨fun j=>match bO ρ j with|some (some k)=>A.p k|_=>none,fun j=>match bO ρ j with|some (some k)=>A.n k|_=>0,fun j=>match bO ρ j with|some (some k)=>A.c k|_=>0,fun j=>match bO ρ j with|some (some k)=>A.b k|_=>0,fun j=>match bO ρ j with|some (some k)=>A.f k|_=>fun _=>undef,fun j=>match bO ρ j with|some (some k)=>A.m k|_=>none⟩
section
variable {A:bF}{ρ:List (Nat×Option Nat)}
theorem eN {j k:Nat}(h:bO ρ j=some (some k)):(dY A ρ).v j=A.v k/\(dY A ρ).b j=A.b k/\(dY A ρ).m j=A.m k/\(dY A ρ).p j=A.p k/\(dY A ρ).f j=A.f k:=by
 unfold dY bF.v;simp only[h];exact⟨tv,tv,tv,tv,tv⟩
theorem NM {j:Nat}(h:bO ρ j=some none):(dY A ρ).p j=none:=by
 unfold dY;simp only[h]
theorem A6:∀ {l l':List (Nat×Nat)},Sc.rn.sD ρ l=some l'->(l.map fun c=>Value.pointer (some ⟨(dY A ρ).b c.1,c.2,none⟩))=(l'.map fun c=>Value.pointer (some ⟨A.b c.1,c.2,none⟩))/\∀c∈l,(bO ρ c.1).isSome=true
 |[],l',h=>by cases h;exact⟨rfl,fun _ q=>by cases q⟩
 |c::l,l',h=>by
  simp only[Sc.rn.sD] at h
  split at h
  .rename_i k l2 h1 h2
   cases h
   obtain⟨k1,k2⟩:=A6 h2
   refine⟨by rw[List.map_cons,List.map_cons,k1,(eN (A:=A) h1).2.1],fun z hz=>?_⟩
   rcases List.mem_cons.1 hz with rfl|hz
   .rw[h1];rfl
   exact k2 z hz
  cases h
theorem yq {j:Nat}(h:bO ρ j=some none):(dY A ρ).v j= .slice none 0 0:=by
 unfold dY bF.v;simp only[h]
theorem NN {j:Nat}(h:bO ρ j=some none):(dY A ρ).m j=none:=by
 unfold dY;simp only[h]
theorem Sc.Eu {s t:Sc}(h:s.rn ρ=some t):s.den (dY A ρ)=t.den A/\s.all (fun j=>(bO ρ j).isSome=true)/\s.b7 (dY A ρ):=by
 cases s with
 |v x=>cases h;exact⟨rfl,tv,tv⟩
 |b e=>cases h;exact⟨rfl,tv,tv⟩
 |own j=>
  simp only[rn] at h
  split at h
  .rename_i k hk;cases h;exact⟨(eN hk).1,by show(bO ρ j).isSome=true;rw[hk];rfl,tv⟩
  .rename_i hk;cases h;exact⟨yq hk,by show(bO ρ j).isSome=true;rw[hk];rfl,tv⟩
  cases h
 |mp j=>
  simp only[rn] at h
  split at h
  .rename_i k hk;cases h;exact⟨by simp only[den];rw[(eN hk).2.2.1],by show(bO ρ j).isSome=true;rw[hk];rfl,tv⟩
  .rename_i hk;cases h;exact⟨by simp only[den];rw[NN hk],by show(bO ρ j).isSome=true;rw[hk];rfl,tv⟩
  cases h
 |ptr j off=>
  simp only[rn] at h
  split at h
  .rename_i k hk;cases h;exact⟨by simp only[den];rw[(eN hk).2.1],by show(bO ρ j).isSome=true;rw[hk];rfl,tv⟩
  cases h
 |el _ _ _ _=>cases h
 |mA f cr=>
  obtain⟨Uq,h1,rfl⟩:=Option.map_eq_some_iff.1 h
  obtain⟨k1,k2⟩:=A6 (A:=A) h1
  exact⟨by simp only[den];rw[k1],k2,tv⟩
 |hd _ _ _=>cases h
 |pd j=>
  simp only[rn] at h
  split at h
  .rename_i k hk;cases h;exact⟨by simp only[den];rw[(eN hk).2.2.2.1],by show(bO ρ j).isSome=true;rw[hk];rfl,tv⟩
  .rename_i hk;cases h;exact⟨by simp only[den];rw[NM hk],by show(bO ρ j).isSome=true;rw[hk];rfl,tv⟩
  cases h
theorem yt:∀ {l l':List Sc},RO ρ l=some l'->l.map (Sc.den (dY A ρ))=l'.map (Sc.den A)/\∀c∈l,c.all (fun j=>(bO ρ j).isSome=true)/\c.b7 (dY A ρ)
 |[],l',h=>by cases h;exact⟨rfl,fun _ q=>by cases q⟩
 |c::l,l',h=>by
  simp only[RO] at h
  split at h
  .rename_i c' l2 h1 h2
   cases h
   obtain⟨k1,k2,k3⟩:=Sc.Eu (A:=A) h1
   obtain⟨k4,k5⟩:=yt h2
   refine⟨by rw[List.map_cons,List.map_cons,k1,k4],fun z hz=>?_⟩
   rcases List.mem_cons.1 hz with rfl|hz
   .exact⟨k2,k3⟩
   exact k5 z hz
  cases h
theorem Sy.Eu {s t:Sy}(h:s.rn ρ=some t):s.den (dY A ρ)=t.den A/\s.all (fun j=>(bO ρ j).isSome=true)/\s.b7 (dY A ρ):=by
 cases s with
 |one c=>obtain⟨c',h1,rfl⟩:=Option.map_eq_some_iff.1 h;exact Sc.Eu h1
 |agg cs=>
  obtain⟨tc,h1,rfl⟩:=Option.map_eq_some_iff.1 h
  obtain⟨k1,k2⟩:=yt (A:=A) h1
  exact⟨by simp only[den,k1],fun c hc=>(k2 c hc).1,fun c hc=>(k2 c hc).2⟩
 |mU _=>cases h
end
theorem sF {α β:Type}{l:List α}{f g:α->β}(h:l.map f=l.map g){x:α}(hx:x∈l):f x=g x:=List.map_inj_left.1 h x hx
theorem CH {x:R2}(h:some x=mg x){T:aL}{w:World}{A:bF}{ρ:List (Nat×Option Nat)}{j:Nat}(hk:bO ρ j=some none):kH x=false/\(∀b,¬(x.den (dY A ρ) j).has b)/\(x.den (dY A ρ) j).ok T w/\x.b7 (dY A ρ)/\∀F:Nat->Prop,(∀k,x.VH k=true->(∀i,i<k->F i)->x.all F):=by
 have ev:=yq (A:=A) hk
 cases x with
 |wG k' t l=>simp[mg] at h
 |iter k' t l lf cnt cur=>simp[mg] at h
 |map k' t l=>simp[mg] at h
 |ar t l=>simp[mg] at h
 |box t cs=>simp[mg] at h
 |mL k' t l=>
  have key:∀m:List (bL k'×El t),some (R2.mL k' t m)=mg (.mL k' t m)->m=[]:=fun m=>by
   cases m with
   |nil=>exact fun _=>rfl
   |cons _ _=>intro q;cases q
  have e:=key l h
  subst e
  refine⟨rfl,(fun b q=>by cases q),?_,tv,fun F k _ _=>trivial⟩
  show Rd T w (.map ((dY A ρ).m j)) (show bh k' (El t) from([]:List (bL k'×El t)))
  rw[NN hk];exact Cb ⟨none,rfl,rfl⟩
 |ro t l=>
  cases l with
  |nil=>
   refine⟨rfl,(fun b q=>by cases q),?_,tv,fun F k _ _=>trivial⟩
   show Rd T w ((dY A ρ).v j) ([]:List (El t))
   rw[ev];exact F9
  |cons _ _=>simp[mg] at h
 |row e t l=>
  cases l with
  |nil=>
   refine⟨rfl,(fun b q=>by have q:((dY A ρ).v j).ownBlock=some b:=q;rw[ev] at q;cases q),?_,tv,fun F k _ _=>trivial⟩
   show dg T w e ((dY A ρ).v j) ([]:List (El t))
   rw[ev];exact dg.nil
  |cons _ _=>simp[mg] at h
 |ext y=>
  cases y with
  |nest q hh e t ie l=>
   cases hh with
   |some _=>simp[mg] at h
   |none=>
    cases l with
    |cons _ _=>simp[mg] at h
    |nil=>
     refine⟨rfl,(fun b z=>?_),?_,tv,fun F k h1 h2=>h2 q (by simpa using Nat.blt_eq▸h1)⟩
     .have z:((dY A ρ).v j).ownBlock=some b\/∃c,c<([]:List (El t)).length*aF t/\_:=z
      rcases z with z|⟨c,hc,_⟩
      .rw[ev] at z;cases z
      simp at hc
     show iO T w ((dY A ρ).v j) ((dY A ρ).f q) none e t ie ([]:List (El t))
     rw[ev]
     exact⟨⟨[],gw.nil w e _,fun _ q=>(by cases q),fun c x hc=>by simp[gA] at hc⟩,fun c d b hc=>by simp at hc,fun c b hc=>by simp at hc⟩
  |ff q k hh t ie m=>simp[mg] at h
  |vC t x=>
   have key:∀m:Option (El t),some (R2.ext (.vC t m))=mg (.ext (.vC t m))->m=none:=fun m=>by
    cases m with
    |none=>exact fun _=>rfl
    |some _=>intro q;cases q
   have e:=key x h
   subst e
   refine⟨rfl,(fun b q=>by cases q),?_,tv,fun F k _ _=>trivial⟩
   show Rd T w (.pointer ((dY A ρ).p j)) (show l5 (El t) from(none:Option (El t)))
   rw[NM hk];exact Gc rfl
  |par _ _=>simp[mg] at h
  |DR _ _=>simp[mg] at h
  |zN _ _=>simp[mg] at h
  |DS _ _ _ _ _=>simp[mg] at h
  |DT _=>simp[mg] at h
  |vw _ _ _ _ _=>simp[mg] at h
  |fwd _=>simp[mg] at h
def rS (ρ:List (Nat×Option Nat)):Nat->Bool
 |0=>true
 |k+1=>(match bO ρ k with|some (some i)=>Nat.beq i k|_=>false) && rS ρ k
theorem CI {ρ:List (Nat×Option Nat)}:∀ {n:Nat},rS ρ n=true->∀j,j<n->bO ρ j=some (some j)
 |n+1,h,j,hj=>by
  unfold rS at h
  rw[Bool.and_eq_true] at h
  by_cases q:j=n
  .subst q
   have h1:=h.1
   split at h1
   .rename_i i hi;rw[hi,b6 h1]
   cases h1
  exact CI h.2 j (by omega)
theorem uT {o:bC}{n:Nat}{σ σ':gW}{a:Act}{w:World}(ρ:List (Nat×Option Nat))(h:iZ o n σ a w)(h1:eL ρ σ σ')(h2:gl ρ σ σ')(h3:jh ρ σ'=true)(h4:rS ρ o.kp=true):iZ o n σ' a w:=by
 obtain⟨⟨A,S,H⟩,h0,np⟩:=h
 obtain⟨S1,hS,H1⟩:=H.freeze (qS (r:=jd σ) (ρ:=ρ) (l:=σ'.rs))
 unfold jh at h3
 simp only[Bool.and_eq_true] at h3
 obtain⟨i1,i2,i3,i4⟩:=h3
 have iL:∀j,(bO ρ j).isSome=true->j<σ'.nx:=fun j hj=>by
  obtain⟨x,hx⟩:=Option.isSome_iff_exists.1 hj
  have:=List.all_eq_true.1 i1 _ (nu hx)
  simpa using Nat.blt_eq▸this
 have VI:∀t e,nX σ' t=some e->e.ch=[]/\∃e',nX σ t=some e'/\e'.ch=[]/\e.sy.rn ρ=some e'.sy.nrm:=fun t e he=>by
  have hm:(t,some e)∈σ'.env:=(qQ he).resolve_left fun q=>by cases q
  have kz:e.ch=[]:=by
   have:=List.all_eq_true.1 i2 _ hm
   simpa using this
  have:=sF h1 hm
  simp only[Option.map_some] at this
  cases LN:nX σ t with
  |none=>rw[LN] at this;cases this
  |some e'=>
   rw[LN] at this
   simp only[Option.map_some,Option.some.injEq,Prod.mk.injEq] at this
   exact⟨kz,e',rfl,by rw[<-this.1];exact kz,this.2⟩
 have uU:∀ {re:List (Nat×Option R2)} {j:Nat} {x:R2},aQ (fun _=>none) re j=some x->(j,some x)∈re:=by
  intro re
  induction re with
  |nil=>intro j x h;cases h
  |cons p re ih=>
   intro j x h
   have h:jg (aQ (fun _=>none) re) p.1 p.2 j=some x:=h
   by_cases q:p.1=j
   .subst q;rw[cB] at h;rw[<-h];exact List.mem_cons_self
   rw[cS q] at h;exact List.mem_cons_of_mem _ (ih h)
 have Nk:∀ {i j k:Nat} {x y:R2},jd σ' i=some x->jd σ' j=some y->bO ρ i=some (some k)->bO ρ j=some (some k)->i=j:=fun {i j k x y} hx hy hi hj=>by
  have:=List.all_eq_true.1 (List.all_eq_true.1 i4 _ (uU hx)) _ (uU hy)
  rw[Bool.or_eq_true] at this
  rcases this with q|q
  .exact b6 q
  rw[hi,hj] at q;simp at q
 have n9:∀j x,jd σ' j=some x->(∃k y,bO ρ j=some (some k)/\aQ (jd σ) (yp (jd σ) ρ σ'.rs) k=some y/\x.den (dY A ρ) j=y.den A k/\(kH x=true->y=x)/\x.all (fun j=>(bO ρ j).isSome=true)/\x.b7 (dY A ρ))\/(bO ρ j=some none/\some x=mg x/\x.VH σ'.nx=true):=fun j x hx=>by
  have hm:(j,some x)∈σ'.rs:=uU hx
  have hs:=List.all_eq_true.1 i3 _ hm
  have:=sF h2 hm
  simp only[Option.bind_some] at this
  dsimp only at hs
  split at this
  .rename_i k hk
   have hk:bO ρ j=some (some k):=hk
   have eJ:R2.YY ρ j x=x.rn ρ:=by unfold R2.YY;rw[hk]
   rw[eJ] at this
   clear eJ
   rw[hk] at hs
   cases hy:aQ (jd σ) (yp (jd σ) ρ σ'.rs) k with
   |none=>
    rw[hy] at this
    simp only[Option.map_none] at this
    rw[this] at hs;cases hs
   |some y=>
    rw[hy] at this
    simp only[Option.map_some] at this
    refine .inl ⟨k,y,hk,hy,?_⟩
    obtain⟨ev,eb,em,ep,ef⟩:=eN (A:=A) hk
    cases x with
    |ro t l=>
     cases y<;>first|(simp[R2.rn,R2.nrm] at this;done)|skip
     have this:R2.ro t l=R2.ro _ _:=Option.some.inj this
     cases this
     exact⟨by simp only[R2.den,ev],fun q=>(by cases q),tv,tv⟩
    |ar t l=>
     cases y<;>first|(simp[R2.rn,R2.nrm] at this;done)|skip
     have this:R2.ar t l=R2.ar _ _:=Option.some.inj this
     cases this
     exact⟨rfl,fun _=>rfl,tv,tv⟩
    |row e t l=>
     cases y<;>first|(simp[R2.rn,R2.nrm] at this;done)|skip
     have this:R2.row e t l=R2.row _ _ _:=Option.some.inj this
     cases this
     exact⟨by simp only[R2.den,ev],fun q=>(by cases q),tv,tv⟩
    |box t cs=>
     obtain⟨tc,hc,hy2⟩:=Option.map_eq_some_iff.1 this
     cases y<;>first|(simp[R2.nrm] at hy2;done)|skip
     rename_i t2 cs2
     simp only[R2.nrm,R2.box.injEq] at hy2
     obtain⟨rfl,rfl⟩:=hy2
     obtain⟨k1,k2⟩:=yt (A:=A) hc
     refine⟨?_,fun q=>(by cases q),fun c hc=>(k2 c hc).1,fun c hc=>(k2 c hc).2⟩
     simp only[R2.den,eb,k1,List.map_map]
     congr 2
     exact List.map_congr_left fun c _=>Sc.tF A c
    |mL k' t l=>
     cases y<;>first|(simp[R2.rn,R2.nrm] at this;done)|skip
     have this:R2.mL k' t l=R2.mL _ _ _:=Option.some.inj this
     cases this
     exact⟨by simp only[R2.den,em],fun q=>(by cases q),tv,tv⟩
    |wG k' t l=>
     cases y<;>first|(simp[R2.rn,R2.nrm] at this;done)|skip
     have this:R2.wG k' t l=R2.wG _ _ _:=Option.some.inj this
     cases this
     exact⟨rfl,fun _=>rfl,tv,tv⟩
    |map k' t l=>
     cases y<;>first|(simp[R2.rn,R2.nrm] at this;done)|skip
     have this:R2.map k' t l=R2.map _ _ _:=Option.some.inj this
     cases this
     exact⟨by simp only[R2.den,em],fun q=>(by cases q),tv,tv⟩
    |iter k' t l lf cnt cur=>
     cases y<;>first|(simp[R2.rn,R2.nrm] at this;done)|skip
     have this:R2.iter k' t l lf cnt cur=R2.iter _ _ _ _ _ _:=Option.some.inj this
     cases this
     exact⟨by simp only[R2.den,eb],fun q=>(by cases q),tv,tv⟩
    |ext z=>
     cases z with
     |nest q hh e t ie l=>
      simp only[R2.rn] at this
      split at this
      .rename_i q' hq
       cases y<;>first|(simp[R2.nrm] at this;done)|skip
       have this:R2.ext (.nest q' hh e t ie l)=R2.ext _:=Option.some.inj this
       cases this
       exact⟨by simp only[R2.den,X2.den,ev,(eN (A:=A) hq).2.2.2.2],fun q=>(by cases q),by show(bO ρ q).isSome=true;rw[hq];rfl,tv⟩
      cases this
     |ff q kc hh t ie m=>
      simp only[R2.rn] at this
      split at this
      .rename_i q' hq
       cases y<;>first|(simp[R2.nrm] at this;done)|skip
       have this:R2.ext (.ff q' kc hh t ie m)=R2.ext _:=Option.some.inj this
       cases this
       exact⟨by simp only[R2.den,X2.den,em,(eN (A:=A) hq).2.2.2.2],fun q=>(by cases q),by show(bO ρ q).isSome=true;rw[hq];rfl,tv⟩
      cases this
     |vC t l=>
      cases y<;>first|(simp[R2.rn,R2.nrm] at this;done)|skip
      have this:R2.ext (.vC t l)=R2.ext _:=Option.some.inj this
      cases this
      exact⟨by simp only[R2.den,X2.den,ep],fun q=>(by cases q),tv,tv⟩
     |par t l=>
      cases y<;>first|(simp[R2.rn,R2.nrm] at this;done)|skip
      have this:R2.ext (.par t l)=R2.ext _:=Option.some.inj this
      cases this
      exact⟨rfl,fun _=>rfl,tv,tv⟩
     |DR t l=>
      cases y<;>first|(simp[R2.rn,R2.nrm] at this;done)|skip
      have this:R2.ext (.DR t l)=R2.ext _:=Option.some.inj this
      cases this
      exact⟨by simp only[R2.den,X2.den,eb],fun q=>(by cases q),tv,tv⟩
     |zN t l=>
      cases y<;>first|(simp[R2.rn,R2.nrm] at this;done)|skip
      have this:R2.ext (.zN t l)=R2.ext _:=Option.some.inj this
      cases this
      exact⟨rfl,fun _=>rfl,tv,tv⟩
     |DS q kc t m kx=>
      simp only[R2.rn] at this
      split at this
      .rename_i q' hq
       cases y<;>first|(simp[R2.nrm] at this;done)|skip
       have this:R2.ext (.DS q' kc t m kx)=R2.ext _:=Option.some.inj this
       cases this
       exact⟨by simp only[R2.den,X2.den,em,(eN (A:=A) hq).2.2.2.2],fun q=>(by cases q),by show(bO ρ q).isSome=true;rw[hq];rfl,tv⟩
      cases this
     |DT D=>
      cases y<;>first|(simp[R2.rn,R2.nrm] at this;done)|skip
      have this:R2.ext (.DT D)=R2.ext _:=Option.some.inj this
      cases this
      exact⟨rfl,fun q=>(by cases q),tv,tv⟩
     |vw _ _ _ _ _=>cases y<;>simp[R2.rn,R2.nrm] at this
     |fwd _=>cases y<;>simp[R2.rn,R2.nrm] at this
  .rename_i hk
   have hk:bO ρ j=some none:=hk
   rw[hk] at hs
   have e:R2.YY ρ j x=some x:=by unfold R2.YY;rw[hk]
   rw[e] at this
   exact .inr ⟨hk,this,hs⟩
  rename_i hk
  have hk:bO ρ j=none:=hk
  rw[hk] at hs;cases hs
 refine⟨⟨dY A ρ,S1,?_⟩,fun t e he=>(VI t e he).1,np⟩
 refine⟨H1.size,H1.fh,fun t e he=>?_,fun t e he _=>?_,fun j x hj=>?_,?_,fun j x hj=>?_,⟨fun j hj=>iL j (by rw[CI h4 j (np j hj)];rfl),fun j hj=>by
  obtain⟨e1,e2,e3⟩:=H1.s8.2 j hj
  obtain⟨q1,q2,q3,q4,q5⟩:=eN (A:=A) (CI h4 j (np j hj))
  exact⟨e1.trans q1.symm,e2.trans q2.symm,e3.1.trans q5.symm,e3.2.trans q3.symm⟩⟩⟩
 .obtain⟨kz,e',LN,YZ,hrn⟩:=VI t e he
  have hv:=(H1.env t e' LN).1 (by rw[YZ];exact fun l hl=>by cases hl)
  refine⟨fun _=>?_,fun q=>(q (by rw[kz];exact fun l hl=>by cases hl)).elim⟩
  show a.tmps[t]?=some (e.sy.den (dY A ρ))
  rw[(Sy.Eu hrn).1,Sy.tF];exact hv
 .obtain⟨kz,e',LN,YZ,hrn⟩:=VI t e he
  obtain⟨_,k2,k3⟩:=Sy.Eu (A:=A) hrn
  exact⟨Sy.mono iL k2,k3⟩
 .rcases n9 j x hj with⟨k,y,hk,hy,hd,_,ha,hg⟩|⟨hk,hx,NO⟩
  .exact⟨iL j (by rw[hk];rfl),R2.mono iL ha,hg⟩
  obtain⟨_,_,_,q4,q5⟩:=CH (A:=A) (T:=S1) (w:=w) hx hk
  exact⟨iL j (by rw[hk];rfl),q5 _ _ NO fun i hi=>hi,q4⟩
 .have fE:∀ {j:Nat} {r:Rs},bw (dY A ρ) (jd σ') j=some r->(∃k x,jd σ' j=some x/\bO ρ j=some (some k)/\bw A (aQ (jd σ) (yp (jd σ) ρ σ'.rs)) k=some r)\/((∀b,¬r.has b)/\r.ok S1 w):=fun {j r} hj=>by
   obtain⟨x,hx,rfl⟩:=Option.map_eq_some_iff.1 hj
   rcases n9 j x hx with⟨k,y,hk,hy,hd,_,ha,hg⟩|⟨hk,Rr,_⟩
   .exact .inl ⟨k,x,hx,hk,by show(aQ (jd σ) _ k).map _=_;rw[hy,hd];rfl⟩
   obtain⟨_,q2,q3,_⟩:=CH (A:=A) (T:=S1) (w:=w) Rr hk
   exact .inr ⟨q2,q3⟩
  refine⟨H1.bB.pT,H1.bB.src,H1.bB.iI,fun j r hj=>?_,fun j r b hj hb=>?_,fun i j ri rj b hi hj ei ej=>?_⟩
  .rcases fE hj with⟨k,_,_,_,hk⟩|⟨_,hk⟩
   .exact H1.bB.ok k r hk
   exact hk
  .rcases fE hj with⟨k,_,_,_,hk⟩|⟨hk,_⟩
   .exact H1.bB.own k r b hk hb
   exact(hk b hb).elim
  rcases fE hi with⟨k,x,hx,Ac,hk⟩|⟨hk,_⟩
  .rcases fE hj with⟨l,y,hy,gE,hl⟩|⟨hl,_⟩
   .have:=H1.bB.apart k l ri rj b hk hl ei ej
    subst this
    exact Nk hx hy Ac gE
   exact(hl b ej).elim
  exact(hk b ei).elim
 rcases n9 j _ hj with⟨k,y,hk,hy,hd,hr,ha,hg⟩|⟨hk,hx,_⟩
 .cases VJ:kH x with
  |false=>exact gJ VJ
  |true=>
   have:=hr VJ
   subst this
   obtain⟨ev,eb,em,ep,ef⟩:=eN (A:=A) hk
   have:=H1.args k y hy
   cases y with
   |ar t l=>show Rd _ _ _ _;rw[ev];exact this
   |wG k' t l=>show Rd _ _ _ _;rw[em];exact this
   |ext z=>
    cases z with
    |par t l=>show Rd _ _ _ _;rw[ep];exact this
    |zN t l=>show gG _ _ _ _;rw[eb];exact this
    |_=>cases VJ
   |_=>cases VJ
 exact gJ (CH (A:=A) (T:=S1) (w:=w) hx hk).1
section
variable {mo:Mode}{P:Program}{o:bC}{n:Nat}{σ σ':gW}{a:Act}{w:World}{T:List (dy P)}{B:Code}{Q:iM}{st:List It}
theorem go {pr:Prop}(hn:List (Nat×Bool))(h:iZ o n σ a w)(hp:pr)(k:∀a w,iZ o n (xS (Ab P T hn n B st σ)) a w->At mo P T B Q (xI (Ab P T hn n B st σ)) a w)
  (h1:(Ab P T hn n B st σ).isSome=true:=by delta Ab;kernel_rfl) (h2:Rh (xC (Ab P T hn n B st σ))=pr:=by delta Ab;kernel_rfl)
  (h3:∀A w,(xH (Ab P T hn n B st σ)).map (fun h=>h.lhs A w)=(xH (Ab P T hn n B st σ)).map fun h=>h.rhs A w:=by delta Ab;intro A w;kernel_rfl):At mo P T B Q st a w:=by
 obtain⟨x,hx⟩:=Option.isSome_iff_exists.1 h1
 rw[hx] at h2 h3 k
 refine⟨(IF (Q:=Q) (fun _ _=>trivial) (fun _=>⟨fun _=>trivial,fun _=>trivial,rfl⟩) hx).2 h.i (Il.1 (by show Rh x.cs;rw[show Rh x.cs=pr from h2];exact hp)) (fun y hy A w=>?_) fun a w h'=>(k a w (h'.x h.np)).get⟩
 exact sF (h3 A w) hy
theorem aZ (hn:List (Nat×Bool))(h:iZ o n σ a w)(k:∀a w,iZ o n (xS (Ab P T hn n B st σ)) a w->At mo P T B Q (xI (Ab P T hn n B st σ)) a w)
 (h1:(Ab P T hn n B st σ).isSome=true:=by delta Ab;kernel_rfl) (h2:Rh (xC (Ab P T hn n B st σ))=True:=by delta Ab;kernel_rfl)
 (h3:∀A w,(xH (Ab P T hn n B st σ)).map (fun h=>h.lhs A w)=(xH (Ab P T hn n B st σ)).map fun h=>h.rhs A w:=by delta Ab;intro A w;kernel_rfl):At mo P T B Q st a w:=go hn h tv k h1 h2 h3
theorem av {p q:Prop}(h:iZ o n σ a w)(k1:p->At mo P T B Q (.run (oP (KI B σ st)++[0])::oR (KI B σ st)) a w)(k2:q->At mo P T B Q (.run (oP (KI B σ st)++[1])::oR (KI B σ st)) a w)
  (hc:(KI B σ st).map (fun x=>(x.1.is true,x.1.is false))=some (p,q):=by kernel_rfl):At mo P T B Q st a w:=by
 obtain⟨⟨A,S,H⟩,h0,np⟩:=h
 obtain⟨⟨e,pt,r⟩,hx,Y0⟩:=Option.map_eq_some_iff.1 hc
 rw[hx] at k1 k2
 simp only[Prod.mk.injEq] at Y0
 obtain⟨rfl,rfl⟩:=Y0
 unfold KI at hx
 split at hx
 .rename_i p' r'
  split at hx
  .rename_i t c1 c2 kC
   split at hx
   .rename_i e' he
    cases hx
    have hv:=(H.env t _ he).1 (fun l hl=>by cases hl)
    have hv:a.eval (.tmp t)= .bool e.den:=by
     simp only[Act.eval,Array.getD_eq_getD_getElem?]
     rw[show a.tmps[t]?=some (.bool e.den) from hv];rfl
    refine⟨?_⟩
    show(sub B pt).j7 mo P (post mo P B Q r) a w
    rw[kC]
    refine ym hv (fun z=>?_) (fun z=>?_)
    .have:=k1 ((BE.je e true).2 z)
     have this:(sub B (pt++[0])).j7 mo P (post mo P B Q r) a w:=this.get
     rw[ez,kC,Aw] at this
     exact this
    have:=k2 ((BE.je e false).2 z)
    have this:(sub B (pt++[1])).j7 mo P (post mo P B Q r) a w:=this.get
    rw[ez,kC,Ay] at this
    exact this
   cases hx
  cases hx
 cases hx
theorem go_loop (X:Type)(σ':X->gW)(I:X->Prop)(μ:X->Nat)(x0:X)(ρ:List (Nat×Option Nat))(h:iZ o n σ a w)(h0:I x0)
  (round:∀(x:X) (a:Act) (w:World) (K:Act->World->Prop),(∀(y:X) (ρ:List (Nat×Option Nat)) {CJ:gW} {a:Act} {w:World},iZ o n CJ a w->I y->μ y<μ x->
    (h1:eL ρ CJ (σ' y):=by delta eL;kernel_rfl)->(h2:gl ρ CJ (σ' y):=by delta gl;kernel_rfl)->(h3:jh ρ (σ' y)=true:=by kernel_rfl)->(h4:rS ρ o.kp=true:=by kernel_rfl)->K a w)->
   I x->iZ o n (σ' x) a w->At mo P T B Q (.run (lP (uS B st)++[0]):: .lp K::lR (uS B st)) a w)
  (ht:(uS B st).isSome=true:=by kernel_rfl) (h1:eL ρ σ (σ' x0):=by delta eL;kernel_rfl) (h2:gl ρ σ (σ' x0):=by delta gl;kernel_rfl) (h3:jh ρ (σ' x0)=true:=by kernel_rfl) (h4:rS ρ o.kp=true:=by kernel_rfl):At mo P T B Q st a w:=by
 obtain⟨⟨pt,r⟩,hx⟩:=Option.isSome_iff_exists.1 ht
 rw[hx] at round
 unfold uS at hx
 split at hx
 .rename_i p' r'
  split at hx
  .rename_i b kC
   cases hx
   refine⟨?_⟩
   show(sub B pt).j7 mo P (post mo P B Q r) a w
   rw[kC]
   refine NI X (fun x a w=>iZ o n (σ' x) a w/\I x) μ x0 ⟨uT ρ h h1 h2 h3 h4,h0⟩ fun x a w hI=>?_
   have:=(round x a w (fun a w=> ∃y,(iZ o n (σ' y) a w/\I y)/\μ y<μ x) (fun y ρ _ _ _ h hI hμ h1 h2 h3 h4=>⟨y,⟨uT ρ h h1 h2 h3 h4,hI⟩,hμ⟩) hI.2 hI.1).get
   have this:(sub B (pt++[0])).j7 mo P (Exit.then _ (post mo P B Q r)) a w:=this
   rw[ez,kC,J7] at this
   exact this
  cases hx
 cases hx
theorem dR {K:Act->World->Prop}(k:K a w)(ht:(match st with| .lp K::_=>some K|_=>none)=some K:=by kernel_rfl):At mo P T B Q st a w:=by
 split at ht
 .cases ht;exact⟨k⟩
 cases ht
theorem IG (h:iZ o n σ a w)(j:Nat){t:Ty}{l:List (El t)}(hj:(jd σ j).bind iu=some ⟨t,l⟩:=by kernel_rfl):(l.length:Int)<=9223372036854775807:=by
 obtain⟨A,S,H⟩:=h.ok
 obtain⟨x,hx,hl⟩:=Option.bind_eq_some_iff.1 hj
 obtain⟨p,c,_,h1,h2⟩:=fc (cq (qL H hx hl))
 have:maxLen<=9223372036854775807:=by decide
 omega
theorem same (σ':gW)(ρ:List (Nat×Option Nat))(h:iZ o n σ a w)(h1:eL ρ σ σ':=by delta eL;kernel_rfl)(h2:gl ρ σ σ':=by delta gl;kernel_rfl)(h3:jh ρ σ'=true:=by kernel_rfl)(h4:rS ρ o.kp=true:=by kernel_rfl):iZ o n σ' a w:=uT ρ h h1 h2 h3 h4
end
def KJ {α:Type 1}:List Sc->Tr α->Tr α
 |[],k=>k
 |c::l,k=>match numOf c with
  |some j=>.res j fun x=>match kH x with
   |true=>.fail
   |false=>KJ l k
  |none=>KJ l k
def NP {α:Type 1}(t:Ty)(y:Sy)(k:El t->Tr α):Tr α:=match t,y,k with
 | .ptr t,.one (.ptr j 0),k=>.res j fun x=>match x with
  | .box _ cs=>KJ cs (Gj t cs fun d l=>match l with
   |[]=>k (some d:Option (El t))
   |_=>.fail)
  |_=>jC (.ptr t) (.one (.ptr j 0)) k
 |t,y,k=>jC t y k
def NQ {rs:List Ty}:(ts:List Ty)->List Sy->(iX ts->Tr (ULift.{1} (iX rs)))->Tr (ULift.{1} (iX rs))
 |[],[],k=>k ()
 |t::ts,y::ys,k=>NP t y fun x=>NQ ts ys fun xs=>k (x,xs)
 |_,_,_=>.fail
def sG (a:Act):ResultVar->Sem Value
 | .tmp t=>pure (a.tmps.getD t undef)
 | .cell b t=>do loadVar t (<-asAddr (a.tmps.getD b undef))
def iQ (a:Act)(l:List ResultVar)(acc:Array Value):Sem (Array Value):=l.foldlM (fun(acc:Array Value) (x:ResultVar)=>do let v <-sG a x;pure (acc.push v)) acc
theorem jV {P:Program}{a:Act}{w:World}{x:ResultVar}{v:Value}(h:(sG a x).run P w= .ok v w)(l:List ResultVar)(acc:Array Value):(iQ a (x::l) acc).run P w=(iQ a l (acc.push v)).run P w:=by
 unfold iQ
 rw[List.foldlM_cons,Sem.run_bind,Sem.run_bind,h]
 rfl
def yu {α:Type 1}(P:Program):List ResultVar->(List Sy->Tr α)->Tr α
 |[],k=>k []
 | .tmp t::l,k=>.slot t fun e=>match e.ch with
  |[]=>yu P l fun ys=>k (e.sy::ys)
  |_=>.fail
 | .cell t ty::l,k=>.slot t fun e=>match e.ch,e.sy with
  |[],.one (.ptr j 0)=>.res j fun x=>match x with
   | .box _ cs=>match P.underlying ty with
    |some (.struct _)=>bg ((P.info? ty).isSome && Nat.beq (cs.take (P.cellsOf ty)).length (P.cellsOf ty)) (yu P l fun ys=>k (.agg (cs.take (P.cellsOf ty))::ys))
    |some (.array _ _)=>.fail
    |some _=>match cs with
     |c::_=>yu P l fun ys=>k (.one c::ys)
     |[]=>.fail
    |none=>.fail
   |_=>.fail
  |_,_=>.fail
def Ev (B:Code):List It->Bool
 | .run p::_=>Yd (sub B p)
 |[]=>true
 |_=>false
def Y1 (P:Program)(fn:Func)(rs:List Ty)(σ:gW):Option (ULift.{1} (iX rs)):=
 (yu P fn.results.toList fun ys=>KJ (ys.flatMap aH) (NQ rs ys fun x=>.ret ⟨x⟩)).run (nX σ) (jd σ)
section
variable {P:Program}{o:bC}{n:Nat}{A:bF}{S T':aL}{F:Nat->Prop}{s:Nat->Option E2}{r:Nat->Option R2}{σ:gW}{a:Act}{w:World}{T:List (dy P)}{B:Code}{Q:iM}{st:List It}
theorem p8 {α:Type 1}:∀ {l:List Sc} {k:Tr α} {out:α},(KJ l k).run s r=some out->(∀c∈l,∀j,numOf c=some j->∀y,r j=some y->kH y=false)/\k.run s r=some out
 |[],k,out,h=>⟨fun _ q=>(by cases q),h⟩
 |c::l,k,out,h=>by
  simp only[KJ] at h
  split at h
  .rename_i j hc
   obtain⟨x,hx,h⟩:=aY h
   split at h
   .cases h
   rename_i ha
   obtain⟨h1,h2⟩:=p8 h
   refine⟨fun c' uC i hi y hy=>?_,h2⟩
   rcases List.mem_cons.1 uC with rfl|uC
   .rw[hc] at hi;cases hi;rw[hx] at hy;cases hy;exact ha
   exact h1 c' uC i hi y hy
  rename_i hc
  obtain⟨h1,h2⟩:=p8 h
  refine⟨fun c' uC i hi y hy=>?_,h2⟩
  rcases List.mem_cons.1 uC with rfl|uC
  .rw[hc] at hi;cases hi
  exact h1 c' uC i hi y hy
theorem KK {α:Type 1}(H:cv o n A S F s r a w)(hT:∀k,Cd o w k->T' k){t:Ty}{y:Sy}{k:El t->Tr α}{out:α}(hR:kT T' w A r (aH y))(h:(NP t y k).run s r=some out):∃x:El t,Rd T' w (y.den A) x/\(k x).run s r=some out:=by
 unfold NP at h
 split at h
 .rename_i t j k
  obtain⟨x,hx,h⟩:=aY h
  split at h
  .rename_i bt cs
   obtain⟨h1,h⟩:=p8 h
   obtain⟨d,u,rest,hu,hd,h⟩:=kU (T:=T') t _ _ (fun c hc i hi z hz=>(pX H h1 c hc i hi z hz).up hT) h
   split at h
   .rw[List.append_nil] at hu
    subst hu
    have hm:bw A r j=some (Rs.of (.box (A.b j) bt (cs.map (Sc.den A)))):=by simp[bw,hx,R2.den]
    have hb:w.heap[A.b j]?=some (.cells (cs.map (Sc.den A)).toArray bt (0,0)):=H.bB.ok j _ hm
    obtain⟨o1,o2,_⟩:=H.bB.own j _ (A.b j) hm rfl
    refine⟨(some d:Option (El t)),Gc (x:=(some d:Option (El t))) (show kQ T' w _ (some d:Option (El t)) from⟨A.b j,_,_,_,_,rfl,hT _ (.inr ⟨o1,o2⟩),hb,hd,fun q _=>?_⟩),h⟩
    rw[List.getElem?_toArray]
   cases h
  exact iP hR h
 exact iP hR h
theorem uV (H:cv o n A S F s r a w)(hT:∀k,Cd o w k->T' k){rs:List Ty}:∀ {ts:List Ty} {ys:List Sy} {k:iX ts->Tr (ULift.{1} (iX rs))} {out:ULift.{1} (iX rs)},kT T' w A r (ys.flatMap aH)->(NQ ts ys k).run s r=some out->∃x:iX ts,uJ T' w ts (ys.map (Sy.den A)) x/\(k x).run s r=some out
 |[],[],k,out,_,h=>⟨(),tv,h⟩
 |[],_::_,_,_,_,h=>by cases h
 |_::_,[],_,_,_,h=>by cases h
 |t::ts,y::ys,k,out,hR,h=>by
  obtain⟨x,h1,h⟩:=KK H hT (fun c hc=>hR c (by rw[List.flatMap_cons];exact List.mem_append_left _ hc)) h
  obtain⟨xs,h2,h⟩:=uV H hT (ts:=ts) (ys:=ys) (fun c hc=>hR c (by rw[List.flatMap_cons];exact List.mem_append_right _ hc)) h
  exact⟨(x,xs),⟨h1,h2⟩,h⟩
theorem tG (H:cv o n A S F s r a w){j:Nat}{bt:TypeId}{cs:List Sc}(hj:r j=some (.box bt cs)){ty:TypeId}{v:Value}
  (hv:(∃fs,P.underlying ty=some (.struct fs)/\(P.info? ty).isSome=true/\(cs.take (P.cellsOf ty)).length=P.cellsOf ty/\v= .agg ((cs.take (P.cellsOf ty)).map (Sc.den A)).toArray)\/
   ∃d c l,P.underlying ty=some d/\(∀fs,d≠.struct fs)/\(∀k e,d≠.array k e)/\cs=c::l/\v=c.den A):(loadVar ty ⟨A.b j,0,none⟩).run P w= .ok v w:=by
 have hm:bw A r j=some (Rs.of (.box (A.b j) bt (cs.map (Sc.den A)))):=by simp[bw,hj,R2.den]
 have hb:w.heap[A.b j]?=some (.cells (cs.map (Sc.den A)).toArray bt (0,0)):=H.bB.ok j _ hm
 have kr:∀q,w.cell? ⟨A.b j,q,none⟩=(cs.map (Sc.den A))[q]?:=fun q=>by rw[cell_of_row w _ q _ _ _ hb];simp
 have key:(Instr.loadAt ty (.pointer (some ⟨A.b j,0,none⟩))).run P w= .ok v w:=by
  rcases hv with⟨fs,h1,h2,h3,rfl⟩|⟨d,c,l,h1,h2,h3,rfl,rfl⟩
  .refine DE (C:=(· =w)) w rfl h1 ⟨fs,rfl⟩ h2 ⟨?_,fun w' zK q hq=>?_⟩
   .rw[List.length_take] at h3;simp;exact h3
   subst zK
   rw[Nat.zero_add,kr,List.getElem?_toArray,List.map_take,List.getElem?_take,if_pos hq]
  exact DF w h1 (fun fs q=>h2 fs q) (fun k e q=>h3 k e q) (by rw[kr];rfl)
 simpa[Instr.loadAt,Instr.sureAddr] using key
theorem p9 {α:Type 1}(H:cv o n A S F s r a w):∀ {l:List ResultVar} {k:List Sy->Tr α} {out:α},(yu P l k).run s r=some out->
  ∃ys:List Sy,(∀(acc:Array Value),(iQ a l acc).run P w= .ok (acc++(ys.map (Sy.den A)).toArray) w)/\(k ys).run s r=some out
 |[],k,out,h=>⟨[],fun acc=>by simp[iQ],h⟩
 | .tmp t::l,k,out,h=>by
  simp only[yu,Tr.run] at h
  split at h
  .rename_i e he
   split at h
   .rename_i kz
    obtain⟨ys,h1,h2⟩:=p9 H h
    have hv:=(H.env t e he).1 (by rw[kz];exact fun l hl=>by cases hl)
    have hv:a.tmps.getD t undef=e.sy.den A:=by
     rw[Array.getD_eq_getD_getElem?,show a.tmps[t]?=some (e.sy.den A) from hv];rfl
    refine⟨e.sy::ys,fun acc=>?_,h2⟩
    rw[jV (v:=e.sy.den A) (by simp only[sG,hv,Sem.run_pure]),h1]
    simp
   cases h
  cases h
 | .cell t ty::l,k,out,h=>by
  simp only[yu,Tr.run] at h
  split at h
  .rename_i e he
   split at h
   .rename_i j kz FZ
    have hv:=(H.env t e he).1 (by rw[kz];exact fun l hl=>by cases hl)
    rw[show(⟨t,e.ch,e.sy.den A⟩:LH).val=e.sy.den A from rfl,FZ] at hv
    have hv:a.tmps.getD t undef= .pointer (some ⟨A.b j,0,none⟩):=by
     rw[Array.getD_eq_getD_getElem?,show a.tmps[t]?=some (.pointer (some ⟨A.b j,0,none⟩)) from hv];rfl
    obtain⟨x,hx,h⟩:=aY h
    have fin:∀(y:Sy) (ys:List Sy),(loadVar ty ⟨A.b j,0,none⟩).run P w= .ok (y.den A) w->(∀(acc:Array Value),(iQ a l acc).run P w= .ok (acc++(ys.map (Sy.den A)).toArray) w)->
      ∀(acc:Array Value),(iQ a (.cell t ty::l) acc).run P w= .ok (acc++((y::ys).map (Sy.den A)).toArray) w:=by
     intro y ys hl h1 acc
     rw[jV (v:=y.den A) (by simp only[sG,Sem.run_bind,hv,asAddr,Sem.run_pure,Result.andThen_ok,hl]),h1]
     simp
    split at h
    .rename_i bt cs
     split at h
     .rename_i fs hu
      obtain⟨hg,h⟩:=ax h
      rw[Bool.and_eq_true] at hg
      obtain⟨ys,h1,h2⟩:=p9 H h
      exact⟨_,fin _ ys (tG H hx (.inl ⟨fs,hu,hg.1,b6 hg.2,rfl⟩)) h1,h2⟩
     .cases h
     .rename_i d wC B9 hu
      split at h
      .rename_i c tc
       obtain⟨ys,h1,h2⟩:=p9 H h
       exact⟨_,fin (.one c) ys (tG H hx (.inr ⟨d,c,tc,hu,fun fs q=>wC fs q,fun k e q=>B9 k e q,rfl,rfl⟩)) h1,h2⟩
      cases h
     cases h
    cases h
   cases h
  cases h
end
def NR (p:Bool)(cs:List Sc):Sy:=match p,cs with
 |false,[c]=>.one c
 |_,cs=>.agg cs
def cU:(c9:List (Bool×Ty))->jE c9->Nat->List Sy×List (Nat×Option R2)
 |[],_,_=>([],[])
 |p::c9,x,b=>let c:=bA p.1 b (bl p.2 x.1);let r:=cU c9 x.2 (b+c.2.length);(NR (cG p.2) c.1::r.1,c.2++r.2)
def r8:Nat->List Sy->List (Nat×Option E2)
 |_,[]=>[]
 |i,y::l=>(i,some ⟨[],y⟩)::r8 (i+1) l
def XI (c9:List (Bool×Ty))(x:jE c9):gW:=⟨r8 0 (cU c9 x 0).1,(cU c9 x 0).2,(cU c9 x 0).2.length⟩
def GO:List Value->Value
 |[y]=>y
 |ys=>.tuple ys.toArray
section
variable {mo:Mode}{P:Program}{o:bC}{n:Nat}{A:bF}{S:aL}{F:Nat->Prop}{s:Nat->Option E2}{r:Nat->Option R2}{σ:gW}{a:Act}{w:World}{T:List (dy P)}{B:Code}{Q:iM}{st:List It}
theorem mF {fn:Func}{ys:List Value}(h:∀acc:Array Value,(iQ a fn.results.toList acc).run P w= .ok (acc++ys.toArray) w):(results fn a.tmps).run P w= .ok (GO ys) w:=by
 have e:(fn.results.mapM (fun x=>match x with
   | .tmp t=>pure (a.tmps.getD t undef)
   | .cell b t=>do loadVar t (<-asAddr (a.tmps.getD b undef)):ResultVar->Sem Value)).run P w= .ok ys.toArray w:=by
  rw[Array.mapM_eq_foldlM,<-Array.foldlM_toList]
  have:=h #[]
  simp only[Array.empty_append] at this
  rw[<-this]
  unfold iQ
  congr 2
  all_goals (funext acc x;cases x<;>rfl)
 have hb:(results fn a.tmps).run P w=((fn.results.mapM (fun x=>match x with
   | .tmp t=>pure (a.tmps.getD t undef)
   | .cell b t=>do loadVar t (<-asAddr (a.tmps.getD b undef)):ResultVar->Sem Value)).run P w).andThen (fun vs w=>(pure (if h:vs.size=1 then vs[0] else .tuple vs):Sem Value).run P w):=by
  unfold results
  rw[Sem.run_bind]
  rfl
 rw[hb,e]
 match ys with
 |[]=>rfl
 |[y]=>rfl
 |y::z::l=>simp[GO]
theorem GQ:∀ {rs:List Ty} {vs:List Value} {x:iX rs},uJ S w rs vs x->kA S w rs (GO vs) x
 |[],[],_,h=>⟨[],rfl,h⟩
 |[t],[y],_,h=>h.1
 |_::_::_,y::z::l,_,h=>⟨y::z::l,rfl,h⟩
 |[_],_::_::_,_,h=>h.2.elim
 |[],_::_,_,h=>h.elim
 |_::_,[],_,h=>h.elim
 |_::_::_,[_],_,h=>h.2.elim
theorem tH {o:Orig}{k:Nat}(h:Cd (bC.of o) w k):rT o w k:=h.imp id fun⟨h1,h2⟩=>⟨h1.elim id fun q=>q.elim,h2⟩
theorem yw {o:Orig}(h:jZ o.w w (bC.of o).G):Below o.w.heap.size o.w w:=⟨h.os,h.tape,h.output,h.size,fun k hk=>h.block k hk fun q=>q⟩
theorem out {o:Orig}{fn:Func}{rs:List Ty}{fx:iX rs}(y:iX rs)(h:iZ (bC.of o) n σ a w)(e:y=fx)(ht:Ev B st=true:=by kernel_rfl)(hy:Y1 P fn rs σ=some ⟨y⟩:=by kernel_rfl):At mo P T B (bodyPost P fn (Ie o fun S v w'=>kA S w' rs v fx)) st a w:=by
 obtain⟨⟨A,S,H⟩,h0⟩:=h
 subst e
 obtain⟨ys,h1,hy⟩:=p9 H hy
 obtain⟨h2,hy⟩:=p8 hy
 obtain⟨x,h3,hy⟩:=uV H (T':=rT o w) (fun k hk=>tH hk) (fun c hc j hj z hz=>(pX H h2 c hc j hj z hz).up fun k hk=>tH hk) hy
 have hx:x=y:=by have:=Option.some.inj hy;exact congrArg ULift.down this
 subst hx
 have n9:=mF (ys:=ys.map (Sy.den A)) h1
 unfold Ev at ht
 split at ht
 .rename_i p r
  refine⟨?_⟩
  show(sub B p).j7 mo P (post mo P B _ r) a w
  have hc:sub B p= .ret:=by
   cases hc:sub B p<;>rw[hc] at ht<;>first|rfl|cases ht
  rw[hc]
  refine wP (k9 ?_)
  refine bodyPost_ret n9 H.fh ⟨_,rfl,?_,yw H.bB.pT⟩
  exact GQ h3
 .exact⟨bodyPost_end n9 H.fh ⟨_,rfl,GQ h3,yw H.bB.pT⟩⟩
 cases ht
theorem KL {k:Bool}{t:Ty}(h:cG t=false)(b:Nat)(x:El t):∃c,(bA k b (bl t x)).1=[c]:=by
 cases t<;>first|exact⟨_,rfl⟩|cases h
theorem qT:∀(c9:List (Bool×Ty)) (x:jE c9) (vs:List Value) (b:Nat) (A:bF) (F:Nat->Prop),vG o.S o.old o.w c9 vs x->(∀j,b<=j->¬F j)->
  ∃A',cR F A A'/\(cU c9 x b).1.map (Sy.den A')=vs/\jS o o.S o.w A' b (cU c9 x b).2/\(∀p∈(cU c9 x b).2,p.1<b+(cU c9 x b).2.length)/\∀y∈(cU c9 x b).1,y.all (FU F (cU c9 x b).2)/\y.b7 A'
 |[],_,[],b,A,F,_,_=>⟨A,cR.refl _ _,rfl,tv,fun _ h=>(by cases h),fun _ h=>(by cases h)⟩
 |[],_,_::_,_,_,_,h,_=>h.elim
 |_::_,_,[],_,_,_,h,_=>by cases h
 |(k,t)::c9,x,v::vs,b,A,F,h,hF=>by
  have yc:∃cs,wH o o.S o.w k cs (bl t x.1)/\v=(if cG t then .agg cs.toArray else cs.headD undef):=by
   cases k with
   |true=>exact jT (S:=o.S) (w:=o.w) h.1
   |false=>exact jT (S:=o.old) (w:=o.w) h.1
  obtain⟨cs,cE,hv⟩:=yc
  have o7:=fT (k:=k) (bl t x.1) b
  obtain⟨A1,h1,h2,h3,h4⟩:=fH (B:=b+(bA k b (bl t x.1)).2.length) _ cs b A F cE (fun j hj _=>hF j hj) fun p hp=>(o7 p hp).2
  obtain⟨A2,k1,k2,k3,k5,k4⟩:=qT c9 x.2 vs (b+(bA k b (bl t x.1)).2.length) A1 (FU F (bA k b (bl t x.1)).2) h.2 fun j hj hn=>by
   rcases hn with hn|⟨z,hz⟩
   .exact hF j (by omega) hn
   have:=o7 _ hz
   omega
  have dL:∀c∈(bA k b (bl t x.1)).1,c.all (FU F (bA k b (bl t x.1)).2):=fun c hc=>(h4 c hc).1
  have Rn:∀j,FU F (bA k b (bl t x.1)).2 j->FU F (cU ((k,t)::c9) x b).2 j:=fun j hj=>by
   rcases hj with hj|⟨x,hx⟩
   .exact .inl hj
   exact .inr ⟨x,List.mem_append_left _ hx⟩
  have Ir:(cG t=true/\NR (cG t) (bA k b (bl t x.1)).1= .agg (bA k b (bl t x.1)).1)\/∃c,cG t=false/\(bA k b (bl t x.1)).1=[c]/\NR (cG t) (bA k b (bl t x.1)).1= .one c:=by
   cases hp:cG t with
   |true=>exact .inl ⟨rfl,rfl⟩
   |false=>
    obtain⟨c,hc⟩:=KL hp b x.1 (k:=k)
    exact .inr ⟨c,rfl,hc,by rw[hc];rfl⟩
  refine⟨A2,h1.trans (k1.mono fun j hj=>.inl hj),?_,?_,fun p hp=>?_,fun y hy=>?_⟩
  .show Sy.den A2 (NR (cG t) (bA k b (bl t x.1)).1)::(cU c9 x.2 _).1.map (Sy.den A2)=_
   rw[k2]
   congr 1
   rcases Ir with⟨hp,e⟩|⟨c,hp,hc,e⟩
   .rw[e,hv,hp]
    simp only[Sy.den]
    rw[<-jB k1 dL,h2];rfl
   rw[e,hv,hp]
   rw[hc] at h2 dL
   simp only[Sy.den]
   rw[<-Sc.congr k1 (dL c (List.mem_singleton.2 rfl))]
   have:[Sc.den A1 c]=cs:=h2
   rw[<-this];rfl
  .exact jS.append (jS.agree k1 (fun p hp=>.inr ⟨p.2,hp⟩) h3) (fun p hp=>(o7 p hp).2) (by omega) k3
  .show p.1<b+((bA k b (bl t x.1)).2++(cU c9 x.2 (b+(bA k b (bl t x.1)).2.length)).2).length
   rw[List.length_append]
   have hp:p∈(bA k b (bl t x.1)).2++(cU c9 x.2 (b+(bA k b (bl t x.1)).2.length)).2:=hp
   rcases List.mem_append.1 hp with hp|hp
   .have:=(o7 p hp).2;omega
   have:=k5 p hp;omega
  have hy:y=NR (cG t) (bA k b (bl t x.1)).1\/y∈(cU c9 x.2 (b+(bA k b (bl t x.1)).2.length)).1:=List.mem_cons.1 hy
  rcases hy with rfl|hy
  .rcases Ir with⟨hp,e⟩|⟨c,hp,hc,e⟩
   .rw[e];exact⟨fun c hc=>Sc.mono Rn (dL c hc),fun c hc=>Sc.dH k1 (dL c hc) (h4 c hc).2⟩
   rw[e]
   have hm:c∈(bA k b (bl t x.1)).1:=by rw[hc];exact List.mem_singleton.2 rfl
   exact⟨Sc.mono Rn (dL c hm),Sc.dH k1 (dL c hm) (h4 c hm).2⟩
  refine⟨Sy.mono (fun j hj=>?_) (k4 y hy).1,(k4 y hy).2⟩
  rcases hj with hj|⟨z,hz⟩
  .exact Rn j hj
  exact .inr ⟨z,List.mem_append_right _ hz⟩
theorem kN:∀ {l:List Sy} {i t:Nat} {e:E2},eV (fun _=>none) (r8 i l) t=some e->i<=t/\∃y,l[t-i]?=some y/\e=⟨[],y⟩
 |[],i,t,e,h=>by cases h
 |y::l,i,t,e,h=>by
  have h:l9 (eV (fun _=>none) (r8 (i+1) l)) i (some ⟨[],y⟩) t=some e:=h
  by_cases q:i=t
  .subst q;rw[e8] at h;cases h;exact⟨Nat.le_refl _,y,by rw[Nat.sub_self];rfl,rfl⟩
  rw[mC q] at h
  obtain⟨h1,z,h2,h3⟩:=kN h
  exact⟨by omega,z,by rw[show t-i=t-(i+1)+1 by omega];exact h2,h3⟩
theorem qV:∀ {c9:List (Bool×Ty)} {vs:List Value} {x:jE c9} {S T:aL},vG S T w c9 vs x->vs.length=c9.length
 |[],[],_,_,_,_=>rfl
 |[],_::_,_,_,_,h=>h.elim
 |_::_,[],_,_,_,h=>by cases h
 |(k,t)::c9,v::vs,x,S,T,h=>by simp[qV h.2]
theorem qc {S T T':aL}(hT:∀k,T k->T' k):∀ {c9:List (Bool×Ty)} {vs:List Value} {x:jE c9},vG S T w c9 vs x->vG S T' w c9 vs x
 |[],[],_,_=>trivial
 |[],_::_,_,h=>h.elim
 |_::_,[],_,h=>by cases h
 |(true,t)::c9,v::vs,x,h=>⟨h.1,qc hT h.2⟩
 |(false,t)::c9,v::vs,x,h=>⟨Rd.up hT h.1,qc hT h.2⟩
theorem bn {f:FuncId}(fn:Func)(n:Nat)(T:List (dy P)){c9:List (Bool×Ty)}{rs:List Ty}{rY:jE c9->Prop}{fx:jE c9->iX rs}(hf:P.funcs[f]?=some fn)
  (k:∀(o:Orig) (x:jE c9),rY x->∀a w,iZ (bC.of o) n (XI c9 x) a w->At pl P T (fn.body.getD .skip) (bodyPost P fn (Ie o fun S v w'=>kA S w' rs v (fx x))) [.run []] a w)
  (hb:fn.body.isSome=true:=by kernel_rfl) (hn:fn.ntmps=n:=by kernel_rfl) (hl:decide (c9.length<=n)=true:=by kernel_rfl):bG P f c9 rs rY fx:=by
 intro o vs x hx Cl
 have hlen:=qV hx
 refine enter fn n hf (fun a ha=>?_) hb hn (by rw[hlen];exact hl)
 obtain⟨A,h1,h2,h3,h5,h4⟩:=qT (o:=bC.of o) c9 x vs 0 Mq (fun _=>False) (qc (fun k hk=>⟨hk,fun q=>q⟩) hx) fun _ _ q=>q
 have ji:∀t e,nX (XI c9 x) t=some e->e.ch=[]/\∃y,(cU c9 x 0).1[t]?=some y/\e=⟨[],y⟩:=fun t e he=>by
  obtain⟨_,y,q1,q2⟩:=kN he
  exact⟨by rw[q2],y,by simpa using q1,q2⟩
 have H0:cv (bC.of o) n A o.S (fun _=>False) (fun _=>none) (fun _=>none) a o.w:=⟨ha.1,ha.2.1,fun _ _ q=>(by cases q),fun _ _ q=>(by cases q),fun _ _ q=>(by cases q),gp.start (bC.of o),fun _ _ q=>(by cases q),⟨fun _ q=>q.elim,fun _ q=>q.elim⟩⟩
 have H1:=H0.ro (cR.refl _ _) h3
 have hle:∀j,FU (fun _=>False) (cU c9 x 0).2 j->j<(cU c9 x 0).2.length:=fun j hj=>by
  rcases hj with hj|⟨z,hz⟩
  .exact hj.elim
  have:=h5 _ hz;simpa using this
 have qd:iZ (bC.of o) n (XI c9 x) a o.w:=by
  refine⟨⟨A,o.S,H1.size,H1.fh,fun t e he=>?_,fun t e he _=>?_,fun j y hj=>?_,H1.bB,H1.args,⟨fun _ q=>q.elim,fun _ q=>q.elim⟩⟩,fun t e he=>(ji t e he).1,fun _ q=>q.elim⟩
  .obtain⟨_,y,q1,rfl⟩:=ji t e he
   have hv:vs[t]?=some (y.den A):=by rw[<-h2,List.getElem?_map,q1];rfl
   have A7:=(List.getElem?_eq_some_iff.1 hv).1
   refine ha.2.2 ⟨t,[],y.den A⟩ (List.mem_map.2 ⟨(t,y.den A),?_,rfl⟩)
   refine List.mem_iff_getElem?.2 ⟨t,?_⟩
   rw[List.getElem?_zip_eq_some]
   exact⟨by simp[A7],hv⟩
  .obtain⟨_,y,q1,rfl⟩:=ji t e he
   have:=h4 y (List.mem_of_getElem? q1)
   exact⟨Sy.mono hle this.1,this.2⟩
  have:=H1.dB j y hj
  exact⟨hle j this.1,R2.mono hle this.2.1,this.2.2⟩
 have:=k o x Cl a o.w qd
 have this:(sub (fn.body.getD .skip) []).j7 pl P (post pl P (fn.body.getD .skip) (bodyPost P fn (Ie o fun S v w'=>kA S w' rs v (fx x))) []) a o.w:=this.get
 have this:=yj.1 this
 exact this
end
abbrev j8:Ty:=.pair .int .int
abbrev nv:Ty:=.pair .int (.list j8)
abbrev kI:Ty:=.pair (.list .int) (.list .int)
abbrev eo (j:Nat):Option E2:=some ⟨[],.one (.own j)⟩
abbrev em (j:Nat):Option E2:=some ⟨[],.one (.mp j)⟩
abbrev ep (j:Nat):Option E2:=some ⟨[],.one (.ptr j 0)⟩
abbrev en (n:Int):Option E2:=some ⟨[],.one (.v (.int .i64 n))⟩
theorem ct {p:Prop}(h:p:=by first|omega|(simp only[List.length_append,List.length_cons,List.length_nil,List.length_replicate,List.length_drop,List.length_take,List.length_set];omega)):p:=h
theorem bx {i:Int}{n:Nat}(h:0<=i/\i<(n:Int):=by first|omega|(simp only[List.length_append,List.length_cons,List.length_nil,List.length_replicate,List.length_drop,List.length_take,List.length_set];omega)):bX i n:=h
theorem ln {m n:Nat}(h:m<=n:=by first|omega|(simp only[List.length_append,List.length_cons,List.length_nil,List.length_replicate,List.length_drop,List.length_take,List.length_set];omega)):m<=n:=h
theorem wk {x:Int}(h: -9223372036854775808<=x/\x<=9223372036854775807:=by omega):cA .int x:=h
theorem XJ {m n:Nat}(h:m<n:=by first|omega|(simp only[List.length_append,List.length_cons,List.length_nil,List.length_replicate,List.length_drop,List.length_take,List.length_set];omega)):m<n:=h
def ir (n:Nat):List (Nat×Option Nat):=(List.range n).map fun i=>(i,some i)
def rk (l:List Nat):List (Nat×Option Nat):=(List.range l.length).zip (l.map some)
abbrev I_ (x:Int):Int:=x
abbrev J_ (x:List Int):List Int:=x
abbrev K_ (x:List (List Int)):List (List Int):=x
abbrev E_ (x:List (Int×Int)):List (Int×Int):=x
section
variable {mo:Mode}{P:Program}{o:bC}{n:Nat}{σ:gW}{a:Act}{w:World}{T:List (dy P)}{B:Code}{Q:iM}{st:List It}
theorem dh (h:iZ o n σ a w)(j:Nat)(l:List Int)(hj:(jd σ j).bind iu=some ⟨.int,l⟩:=by kernel_rfl):(l.length:Int)<=9223372036854775807:=IG h j hj
theorem mh (h:iZ o n σ a w)(j:Nat)(l:List (Int×Int))(hj:(jd σ j).bind iu=some ⟨j8,l⟩:=by kernel_rfl):(l.length:Int)<=9223372036854775807:=IG h j hj
theorem gC (h:iZ o n σ a w)(j:Nat)(l:List (List Int))(hj:(jd σ j).bind iu=some ⟨.list .int,l⟩:=by kernel_rfl):(l.length:Int)<=9223372036854775807:=IG h j hj
theorem bq (X0:Type)(X1:Type)(σ':X0->X1->gW)(I:X0->X1->Prop)(μ:X0->X1->Nat)(x0:X0)(x1:X1)(ρ:List (Nat×Option Nat))(h:iZ o n σ a w)(h0:I x0 x1)
  (round:∀(x0:X0) (x1:X1) (a:Act) (w:World) (K:Act->World->Prop),(∀(y0:X0) (y1:X1) (ρ:List (Nat×Option Nat)) {CJ:gW} {a:Act} {w:World},iZ o n CJ a w->I y0 y1->μ y0 y1<μ x0 x1->
    (h1:eL ρ CJ (σ' y0 y1):=by delta eL;kernel_rfl)->(h2:gl ρ CJ (σ' y0 y1):=by delta gl;kernel_rfl)->(h3:jh ρ (σ' y0 y1)=true:=by kernel_rfl)->(h4:rS ρ o.kp=true:=by kernel_rfl)->K a w)->
   I x0 x1->iZ o n (σ' x0 x1) a w->At mo P T B Q (.run (lP (uS B st)++[0]):: .lp K::lR (uS B st)) a w)
  (ht:(uS B st).isSome=true:=by kernel_rfl) (h1:eL ρ σ (σ' x0 x1):=by delta eL;kernel_rfl) (h2:gl ρ σ (σ' x0 x1):=by delta gl;kernel_rfl) (h3:jh ρ (σ' x0 x1)=true:=by kernel_rfl) (h4:rS ρ o.kp=true:=by kernel_rfl):At mo P T B Q st a w:=
 go_loop (X0×X1) (fun z=>σ' z.1 z.2) (fun z=>I z.1 z.2) (fun z=>μ z.1 z.2) (x0,x1) ρ h h0 (fun z a w K hK=>round z.1 z.2 a w K fun y0 y1 ρ _ _ _ k1 k2 k3 k4 k5 k6 k7=>hK (y0,y1) ρ k1 k2 k3 k4 k5 k6 k7) ht h1 h2 h3 h4
theorem jk (X0:Type)(X1:Type)(X2:Type)(σ':X0->X1->X2->gW)(I:X0->X1->X2->Prop)(μ:X0->X1->X2->Nat)(x0:X0)(x1:X1)(x2:X2)(ρ:List (Nat×Option Nat))(h:iZ o n σ a w)(h0:I x0 x1 x2)
  (round:∀(x0:X0) (x1:X1) (x2:X2) (a:Act) (w:World) (K:Act->World->Prop),(∀(y0:X0) (y1:X1) (y2:X2) (ρ:List (Nat×Option Nat)) {CJ:gW} {a:Act} {w:World},iZ o n CJ a w->I y0 y1 y2->μ y0 y1 y2<μ x0 x1 x2->
    (h1:eL ρ CJ (σ' y0 y1 y2):=by delta eL;kernel_rfl)->(h2:gl ρ CJ (σ' y0 y1 y2):=by delta gl;kernel_rfl)->(h3:jh ρ (σ' y0 y1 y2)=true:=by kernel_rfl)->(h4:rS ρ o.kp=true:=by kernel_rfl)->K a w)->
   I x0 x1 x2->iZ o n (σ' x0 x1 x2) a w->At mo P T B Q (.run (lP (uS B st)++[0]):: .lp K::lR (uS B st)) a w)
  (ht:(uS B st).isSome=true:=by kernel_rfl) (h1:eL ρ σ (σ' x0 x1 x2):=by delta eL;kernel_rfl) (h2:gl ρ σ (σ' x0 x1 x2):=by delta gl;kernel_rfl) (h3:jh ρ (σ' x0 x1 x2)=true:=by kernel_rfl) (h4:rS ρ o.kp=true:=by kernel_rfl):At mo P T B Q st a w:=
 go_loop (X0×X1×X2) (fun z=>σ' z.1 z.2.1 z.2.2) (fun z=>I z.1 z.2.1 z.2.2) (fun z=>μ z.1 z.2.1 z.2.2) (x0,x1,x2) ρ h h0 (fun z a w K hK=>round z.1 z.2.1 z.2.2 a w K fun y0 y1 y2 ρ _ _ _ k1 k2 k3 k4 k5 k6 k7=>hK (y0,y1,y2) ρ k1 k2 k3 k4 k5 k6 k7) ht h1 h2 h3 h4
theorem tI (X0:Type)(X1:Type)(X2:Type)(X3:Type)(σ':X0->X1->X2->X3->gW)(I:X0->X1->X2->X3->Prop)(μ:X0->X1->X2->X3->Nat)(x0:X0)(x1:X1)(x2:X2)(x3:X3)(ρ:List (Nat×Option Nat))(h:iZ o n σ a w)(h0:I x0 x1 x2 x3)
  (round:∀(x0:X0) (x1:X1) (x2:X2) (x3:X3) (a:Act) (w:World) (K:Act->World->Prop),(∀(y0:X0) (y1:X1) (y2:X2) (y3:X3) (ρ:List (Nat×Option Nat)) {CJ:gW} {a:Act} {w:World},iZ o n CJ a w->I y0 y1 y2 y3->μ y0 y1 y2 y3<μ x0 x1 x2 x3->
    (h1:eL ρ CJ (σ' y0 y1 y2 y3):=by delta eL;kernel_rfl)->(h2:gl ρ CJ (σ' y0 y1 y2 y3):=by delta gl;kernel_rfl)->(h3:jh ρ (σ' y0 y1 y2 y3)=true:=by kernel_rfl)->(h4:rS ρ o.kp=true:=by kernel_rfl)->K a w)->
   I x0 x1 x2 x3->iZ o n (σ' x0 x1 x2 x3) a w->At mo P T B Q (.run (lP (uS B st)++[0]):: .lp K::lR (uS B st)) a w)
  (ht:(uS B st).isSome=true:=by kernel_rfl) (h1:eL ρ σ (σ' x0 x1 x2 x3):=by delta eL;kernel_rfl) (h2:gl ρ σ (σ' x0 x1 x2 x3):=by delta gl;kernel_rfl) (h3:jh ρ (σ' x0 x1 x2 x3)=true:=by kernel_rfl) (h4:rS ρ o.kp=true:=by kernel_rfl):At mo P T B Q st a w:=
 go_loop (X0×X1×X2×X3) (fun z=>σ' z.1 z.2.1 z.2.2.1 z.2.2.2) (fun z=>I z.1 z.2.1 z.2.2.1 z.2.2.2) (fun z=>μ z.1 z.2.1 z.2.2.1 z.2.2.2) (x0,x1,x2,x3) ρ h h0 (fun z a w K hK=>round z.1 z.2.1 z.2.2.1 z.2.2.2 a w K fun y0 y1 y2 y3 ρ _ _ _ k1 k2 k3 k4 k5 k6 k7=>hK (y0,y1,y2,y3) ρ k1 k2 k3 k4 k5 k6 k7) ht h1 h2 h3 h4
end
def NS:Sc->List Nat
 | .own j=>[j]
 | .mp j=>[j]
 | .ptr j _=>[j]
 | .pd j=>[j]
 | .el j _ _ _=>[j]
 | .mA _ cr=>cr.map (·.1)
 | .hd p _ _=>[p]
 |_=>[]
def yx {α:Type 1}:Nat->List Nat->List (Nat×Option R2)->(List (Nat×Option R2)->Tr α)->Tr α
 |0,_,_,_=>.fail
 |_+1,[],acc,k=>k acc
 |f+1,j::l,acc,k=>match acc.any fun p=>Nat.beq p.1 j with
  |true=>yx f l acc k
  |false=>.res j fun x=>yx f ((match x with| .box _ cs=>cs.flatMap NS|_=>[])++l) ((j,some x)::acc) k
def partOf:Sy->Bool×List Sc
 | .one c=>(false,[c])
 | .agg cs=>(true,cs)
 | .mU _=>(false,[])
def vQ:List Sy->Sy
 |[y]=>y
 |ys=>.mU (ys.map partOf)
def VL (P:Program)(T:List (dy P))(hn:List (Nat×Bool))(fn:Func)(b:Nat)(cr:List (Nat×Nat))(ys:List Sy):Tr Out:=
 yx 300 ((ys.flatMap aH).flatMap NS++cr.map (·.1)) [] fun VM=>
  match exec P T 64 false hn fn.ntmps (fn.body.getD .skip) 3000 [.run []] ⟨r8 0 (ys++cr.map fun c=>.one (.ptr c.1 c.2)),VM,b⟩ [] [] with
  |some x=>match Ev (fn.body.getD .skip) x.st,(yu P fn.results.toList fun ys=>.ret (ULift.up.{1} ys)).run (nX x.σ) (jd x.σ) with
   |true,some zs=>bg (fn.body.isSome && (decide ((ys++cr.map fun c=>Sy.one (.ptr c.1 c.2)).length<=fn.ntmps) && (zs.down.all fun y=>match y with| .mU _=>false|_=>true))) (.ret ⟨x.cs,x.hs,vQ zs.down,(x.σ.nx,none)::x.σ.rs⟩)
   |_,_=>.fail
  |none=>.fail
section
variable {P:Program}{o:bC}{n:Nat}{A A':bF}{S S':aL}{F:Nat->Prop}{s:Nat->Option E2}{r:Nat->Option R2}{a:Act}{w w':World}{T:List (dy P)}
theorem sH {α:Type 1}:∀ {f:Nat} {l:List Nat} {acc:List (Nat×Option R2)} {k:List (Nat×Option R2)->Tr α} {out:α},(∀p∈acc,r p.1=p.2)->(yx f l acc k).run s r=some out->∃rs,(∀p∈rs,r p.1=p.2)/\(k rs).run s r=some out
 |0,_,_,_,_,_,h=>by cases h
 |_+1,[],acc,k,out,ha,h=>⟨acc,ha,h⟩
 |f+1,j::l,acc,k,out,ha,h=>by
  simp only[yx] at h
  split at h
  .exact sH ha h
  obtain⟨x,hx,h2⟩:=aY h
  refine sH (fun p hp=>?_) h2
  rcases List.mem_cons.1 hp with rfl|hp
  .exact hx
  exact ha p hp
theorem KM {rs:List (Nat×Option R2)}(h:∀p∈rs,r p.1=p.2):aQ r rs=r:=by
 funext j
 induction rs with
 |nil=>rfl
 |cons p rs ih=>
  show jg (aQ r rs) p.1 p.2 j=_
  by_cases q:p.1=j
  .subst q;rw[cB];exact(h p List.mem_cons_self).symm
  rw[cS q];exact ih fun p hp=>h p (List.mem_cons_of_mem _ hp)
theorem gp.pins {f:Nat->Option Rs}(h:gp o w S f)(F:Nat->Prop)(A:bF):gp {o with pF:=F,pA:=A} w S f:=⟨h.pT,h.src,h.iI,h.ok,h.own,h.apart⟩
theorem gp.NT {f:Nat->Option Rs}{F:Nat->Prop}{A:bF}(h:gp {o with pF:=F,pA:=A} w S f):gp o w S f:=⟨h.pT,h.src,h.iI,h.ok,h.own,h.apart⟩
theorem tj.pins {F:Nat->Prop}{B:bF}{j:Nat}{x:R2}(h:tj o A j x):tj {o with pF:=F,pA:=B} A j x:=by
 cases x with
 |ext z=>cases z<;>exact h
 |_=>exact h
theorem tj.NT {F:Nat->Prop}{B:bF}{j:Nat}{x:R2}(h:tj {o with pF:=F,pA:=B} A j x):tj o A j x:=by
 cases x with
 |ext z=>cases z<;>exact h
 |_=>exact h
theorem tJ {α:Type 1}(H:cv o n A S F s r a w):∀ {l:List ResultVar} {k:List Sy->Tr α} {out:α},(yu P l k).run s r=some out->
  ∃ys:List Sy,(∀(acc:Array Value),(iQ a l acc).run P w= .ok (acc++(ys.map (Sy.den A)).toArray) w)/\(∀y∈ys,y.all F/\y.b7 A)/\(k ys).run s r=some out
 |[],k,out,h=>⟨[],fun acc=>by simp[iQ],fun _ q=>(by cases q),h⟩
 | .tmp t::l,k,out,h=>by
  simp only[yu,Tr.run] at h
  split at h
  .rename_i e he
   split at h
   .rename_i kz
    obtain⟨ys,h1,h3,h2⟩:=tJ H h
    have hv:=(H.env t e he).1 (by rw[kz];exact fun l hl=>by cases hl)
    have hv:a.tmps.getD t undef=e.sy.den A:=by
     rw[Array.getD_eq_getD_getElem?,show a.tmps[t]?=some (e.sy.den A) from hv];rfl
    refine⟨e.sy::ys,fun acc=>?_,fun y hy=>?_,h2⟩
    .rw[jV (v:=e.sy.den A) (by simp only[sG,hv,Sem.run_pure]),h1]
     simp
    rcases List.mem_cons.1 hy with rfl|hy
    .exact H.l8 t e he (by rw[kz];exact fun l hl=>by cases hl)
    exact h3 y hy
   cases h
  cases h
 | .cell t ty::l,k,out,h=>by
  simp only[yu,Tr.run] at h
  split at h
  .rename_i e he
   split at h
   .rename_i j kz FZ
    have hv:=(H.env t e he).1 (by rw[kz];exact fun l hl=>by cases hl)
    rw[show(⟨t,e.ch,e.sy.den A⟩:LH).val=e.sy.den A from rfl,FZ] at hv
    have hv:a.tmps.getD t undef= .pointer (some ⟨A.b j,0,none⟩):=by
     rw[Array.getD_eq_getD_getElem?,show a.tmps[t]?=some (.pointer (some ⟨A.b j,0,none⟩)) from hv];rfl
    obtain⟨x,hx,h⟩:=aY h
    have fin:∀(y:Sy) (ys:List Sy),(loadVar ty ⟨A.b j,0,none⟩).run P w= .ok (y.den A) w->(∀(acc:Array Value),(iQ a l acc).run P w= .ok (acc++(ys.map (Sy.den A)).toArray) w)->
      ∀(acc:Array Value),(iQ a (.cell t ty::l) acc).run P w= .ok (acc++((y::ys).map (Sy.den A)).toArray) w:=by
     intro y ys hl h1 acc
     rw[jV (v:=y.den A) (by simp only[sG,Sem.run_bind,hv,asAddr,Sem.run_pure,Result.andThen_ok,hl]),h1]
     simp
    split at h
    .rename_i bt cs
     have dL:=(H.dB j _ hx).2
     split at h
     .rename_i fs hu
      obtain⟨hg,h⟩:=ax h
      rw[Bool.and_eq_true] at hg
      obtain⟨ys,h1,h3,h2⟩:=tJ H h
      refine⟨_,fin _ ys (tG H hx (.inl ⟨fs,hu,hg.1,b6 hg.2,rfl⟩)) h1,fun y hy=>?_,h2⟩
      rcases List.mem_cons.1 hy with rfl|hy
      .exact⟨fun c hc=>dL.1 c (List.mem_of_mem_take hc),fun c hc=>dL.2 c (List.mem_of_mem_take hc)⟩
      exact h3 y hy
     .cases h
     .rename_i d wC B9 hu
      split at h
      .rename_i c tc
       obtain⟨ys,h1,h3,h2⟩:=tJ H h
       refine⟨_,fin (.one c) ys (tG H hx (.inr ⟨d,c,tc,hu,fun fs q=>wC fs q,fun k e q=>B9 k e q,rfl,rfl⟩)) h1,fun y hy=>?_,h2⟩
       rcases List.mem_cons.1 hy with rfl|hy
       .exact⟨dL.1 c List.mem_cons_self,dL.2 c List.mem_cons_self⟩
       exact h3 y hy
      cases h
     cases h
    cases h
   cases h
  cases h
theorem A8 {ys:List Sy}(h:(ys.all fun y=>match y with| .mU _=>false|_=>true)=true)(A:bF):(vQ ys).den A=GO (ys.map (Sy.den A)):=by
 have hp:∀y∈ys,fe A (partOf y)=y.den A:=fun y hy=>by
  have:=List.all_eq_true.1 h y hy
  cases y with
  |one c=>rfl
  |agg cs=>rfl
  |mU ps=>cases this
 match ys,hp with
 |[],_=>rfl
 |[y],_=>rfl
 |y::z::l,hp=>
  show Value.tuple (((y::z::l).map partOf).map (fe A)).toArray= .tuple ((y::z::l).map (Sy.den A)).toArray
  rw[List.map_map]
  congr 2
  exact List.map_congr_left fun q hq=>hp q hq
theorem uW {ys:List Sy}(h:∀y∈ys,y.all F/\y.b7 A):(vQ ys).all F/\(vQ ys).b7 A:=by
 have hp:∀y∈ys,∀c∈(partOf y).2,c.all F/\c.b7 A:=fun y hy c hc=>by
  have:=h y hy
  cases y with
  |one c'=>have:=List.mem_singleton.1 hc;subst this;exact h _ hy
  |agg cs=>exact⟨this.1 c hc,this.2 c hc⟩
  |mU ps=>cases hc
 match ys,h,hp with
 |[],_,_=>exact⟨(fun p q=>by cases q),(fun p q=>by cases q)⟩
 |[y],h,_=>exact h y List.mem_cons_self
 |y::z::l,_,hp=>
  refine⟨fun p A9 c hc=>?_,fun p A9 c hc=>?_⟩
  .obtain⟨q,hq,rfl⟩:=List.mem_map.1 A9;exact(hp q hq c hc).1
  obtain⟨q,hq,rfl⟩:=List.mem_map.1 A9;exact(hp q hq c hc).2
theorem VN {f:FuncId}(hn:List (Nat×Bool)){fn:Func}(hf:P.funcs[f]?=some fn):x4 P f (VL P T hn fn):=by
 intro o n A S F s r a w b B cr ys out H hF Uh AK h cE mN hB
 unfold VL at h
 obtain⟨VM,hrs,h1⟩:=sH (fun p q=>by cases q) h
 clear h
 split at h1
 .rename_i x hx
  split at h1
  .rename_i zs NU n9
   obtain⟨hg,h2⟩:=ax h1
   clear h1
   simp only[Bool.and_eq_true,decide_eq_true_eq] at hg
   obtain⟨g1,g2,g3⟩:=hg
   have e:=aW h2
   subst e
   clear h2
   have Y2:ys.map (Sy.den A)++cr.map (fun c=>Value.pointer (some ⟨A.b c.1,c.2,none⟩))=(ys++cr.map fun c=>Sy.one (.ptr c.1 c.2)).map (Sy.den A):=by
    rw[List.map_append,List.map_map];rfl
   have hva:∀y∈ys++cr.map fun c=>Sy.one (.ptr c.1 c.2),y.all F/\y.b7 A:=fun y hy=>by
    rcases List.mem_append.1 hy with hy|hy
    .exact Uh y hy
    obtain⟨c,hc,rfl⟩:=List.mem_map.1 hy
    exact⟨AK c hc,tv⟩
   generalize hvv:(ys++cr.map fun c=>Sy.one (.ptr c.1 c.2))=vv at*
   rw[Y2]
   have XK:x.σ.nx<B:=hB (x.σ.nx,none) List.mem_cons_self
   refine enter fn fn.ntmps hf (fun a' ha=>?_) g1 rfl (by rw[List.length_map];exact decide_eq_true g2)
   have ji:∀t e,nX ⟨r8 0 vv,VM,b⟩ t=some e->e.ch=[]/\∃y,vv[t]?=some y/\e=⟨[],y⟩:=fun t e he=>by
    obtain⟨_,y,q1,q2⟩:=kN he
    exact⟨by rw[q2],y,by simpa using q1,q2⟩
   have Y3:aQ r VM=r:=KM hrs
   have H0:cv {o with pF:=F,pA:=A} fn.ntmps A S F (nX ⟨r8 0 vv,VM,b⟩) (aQ r VM) a' w:=by
    rw[Y3]
    refine⟨ha.1,ha.2.1,fun t e he=>?_,fun t e he _=>?_,H.dB,H.bB.pins F A,fun j y hy=>(H.args j y hy).pins,⟨fun _ q=>q,cR.refl _ _⟩⟩
    .obtain⟨_,y,q1,rfl⟩:=ji t e he
     have hv:(vv.map (Sy.den A))[t]?=some (y.den A):=by rw[List.getElem?_map,q1];rfl
     have A7:=(List.getElem?_eq_some_iff.1 hv).1
     refine ha.2.2 ⟨t,[],y.den A⟩ (List.mem_map.2 ⟨(t,y.den A),?_,rfl⟩)
     refine List.mem_iff_getElem?.2 ⟨t,?_⟩
     rw[List.getElem?_zip_eq_some]
     exact⟨by rw[List.getElem?_range A7],hv⟩
    obtain⟨_,y,q1,rfl⟩:=ji t e he
    exact hva y (List.mem_of_getElem? q1)
   have hI:F4 {o with pF:=F,pA:=A} fn.ntmps r F (· <B) ⟨r8 0 vv,VM,b⟩ a' w:=⟨⟨A,S,F,H0,hF,fun j hj=>.inl hj⟩,fun t e he=>(ji t e he).1⟩
   refine yj.1 ?_
   refine(IF (mo:=pl) (Q:=bodyPost P fn fun e w'=> ∃v,e= .returned v/\eY o n F s r a ⟨x.cs,x.hs,vQ zs.down,(x.σ.nx,none)::x.σ.rs⟩ v w') (r0:=r) (F0:=F) (L:=(· <B)) (fun j hj=>Nat.lt_trans hj XK) (fun q=>by cases q) hx).2 hI cE mN fun a2 w2 h2=>?_
   obtain⟨⟨A2,S2,F2,H2,f1,f2⟩,ch⟩:=h2
   obtain⟨zs',r1,r2,r3⟩:=tJ H2 (Tr.mono (fun _ _ q=>q) (NL r x.σ) _ n9)
   have hz:zs'=zs.down:=by have:=Option.some.inj r3;exact congrArg ULift.down this
   subst hz
   have Ur:=mF (ys:=zs.down.map (Sy.den A2)) r1
   have Y4:eY o n F s r a ⟨x.cs,x.hs,vQ zs.down,(x.σ.nx,none)::x.σ.rs⟩ (GO (zs.down.map (Sy.den A2))) w2:=by
    refine⟨A2,S2,?_,(A8 g3 A2).symm,?_⟩
    .have VO:∀j,F2 j->FU F ((x.σ.nx,none)::x.σ.rs) j:=fun j hj=>(f2 j hj).imp id fun⟨y,hy⟩=>⟨y,List.mem_cons_of_mem _ hy⟩
     have H1:=H.agree H2.s8.2 (G:=FU F ((x.σ.nx,none)::x.σ.rs)) fun j hj=>.inl hj
     have hle:∀j y,aQ r ((x.σ.nx,none)::x.σ.rs) j=some y->aQ r x.σ.rs j=some y:=fun j y hy=>by
      have hy:jg (aQ r x.σ.rs) x.σ.nx none j=some y:=hy
      by_cases q:x.σ.nx=j
      .subst q;rw[cB] at hy;cases hy
      rwa[cS q] at hy
     refine⟨H1.size,H1.fh,H1.env,H1.l8,fun j y hy=>?_,H2.bB.NT.sub fun j rr hj=>?_,fun j y hy=>(H2.args j y (hle j y hy)).NT,H1.s8⟩
     .have:=H2.dB j y (hle j y hy)
      exact⟨VO j this.1,R2.mono VO this.2.1,this.2.2⟩
     obtain⟨y,hy,rfl⟩:=Option.map_eq_some_iff.1 hj
     show(aQ r x.σ.rs j).map _=_
     rw[hle j y hy];rfl
    have VO:∀j,F2 j->FU F ((x.σ.nx,none)::x.σ.rs) j:=fun j hj=>(f2 j hj).imp id fun⟨y,hy⟩=>⟨y,List.mem_cons_of_mem _ hy⟩
    have:=uW r2
    exact⟨Sy.mono VO this.1,this.2⟩
   unfold Ev at NU
   split at NU
   .rename_i p rr uB
    rw[uB]
    show(sub _ p).j7 pl P (post pl P _ _ rr) a2 w2
    have hc:sub (fn.body.getD .skip) p= .ret:=by
     cases hc:sub (fn.body.getD .skip) p<;>rw[hc] at NU<;>first|rfl|cases NU
    rw[hc]
    exact wP (k9 (bodyPost_ret Ur H2.fh ⟨_,rfl,Y4⟩))
   .rename_i uB
    rw[uB]
    exact bodyPost_end Ur H2.fh ⟨_,rfl,Y4⟩
   cases NU
  cases h1
 cases h1
def inl {f:FuncId}(T:List (dy P))(hn:List (Nat×Bool)){fn:Func}(hf:P.funcs[f]?=some fn):dy P:=⟨f,VL P T hn fn,VN (T:=T) hn hf⟩
theorem Us {mo:Mode}{T:List (dy P)}{B:Code}{Q:iM}{st:List It}(T':List (dy P))(h:At mo P T' B Q st a w):At mo P T B Q st a w:=⟨h.get⟩
def plain {f:FuncId}{c9:List (Bool×Ty)}{rs:List Ty}{rY:jE c9->Prop}{fn:jE c9->iX rs}(ok:bG P f c9 rs rY fn):dy P:=⟨f,MQ rY fn,Kq ok⟩
end
def Y5 (P:Program)(k:Kc):Option TypeId:=(List.range 4000).find? fun t=>mB P t k
theorem RP {P:Program}{k:Kc}{t:TypeId}(h:Y5 P k=some t):P.underlying t=some (iz k):=gd (by have:=List.find?_some h;exact this)
structure NX where
 k:Kc
 ty:Ty
 m:bh k (El ty)
 lf:bL k->Bool
 cnt:Nat
 cur:Option (bL k×El ty)
 j:Nat
 d:Nat
def Ut (P:Program)(n:Nat)(B:Code)(σ:gW):List It->Option NX
 | .run p::r=>match sub B p with
  | .region _ ops false=>match ops.toList with
   |op::_=>match op.op,op.dst,op.guard with
    | .next (.tmp t) false,some d,none=>match nX σ t with
     |some ⟨[],.one (.ptr j 0)⟩=>match jd σ j with
      |some (.iter k ty m lf cnt cur)=>match Er ops && (Nat.blt d n && (Y5 P k).isSome) with
       |true=>some ⟨k,ty,m,lf,cnt,cur,j,d⟩
       |false=>none
      |_=>none
     |_=>none
    |_,_,_=>none
   |_=>none
  |_=>none
 |_=>none
def II (P:Program)(T:List (dy P))(n:Nat)(B:Code)(σ:gW)(y:Sy)(re:List (Nat×Option R2))(d:Nat):List It->Option gW
 | .run p::_=>match sub B p with
  | .region _ ops false=>match yh P T 4096 [] n ops (nX σ) (jd σ) (ops.toList.drop 1) (σ.nx+4096) [(d,some ⟨[],y⟩)] re with
   |some us=>match(us.all fun u=>u.cs.isEmpty && u.hs.isEmpty) && (re.all fun q=>Nat.blt q.1 (σ.nx+4096)) with
    |true=>some ⟨wm (AX us [(d,some ⟨[],y⟩)])++σ.env,vN us re++σ.rs,σ.nx+4096*(ops.toList.drop 1).length+4096⟩
    |false=>none
   |none=>none
  |_=>none
 |_=>none
def tlI:List It->List It
 |_::r=>r
 |[]=>[]
def nx1 (P:Program)(T:List (dy P))(n:Nat)(B:Code)(σ:gW)(st:List It)(x:Option NX):Option gW:=match x with
 |some I=>II P T n B σ (.mU [(false,[.b (.lit false)])]) [] I.d st
 |none=>none
def nx2 (P:Program)(T:List (dy P))(n:Nat)(B:Code)(σ:gW)(st:List It)(I:NX)(kx:bL I.k)(v:El I.ty)(jR:Nat):Option gW:=
 II P T n B σ (.mU [(false,[.b (.lit true)]),(false,[vJ I.k kx]),(cG I.ty,(bA true σ.nx (bl I.ty v)).1)]) ((I.j,some (.iter I.k I.ty I.m (fun z=>I.lf z && !decide (z=kx)) jR (some (kx,v))))::(bA true σ.nx (bl I.ty v)).2) I.d st
def stG (x:Option gW):gW:=match x with
 |some y=>y
 |none=>⟨[],[],0⟩
section
variable {mo:Mode}{P:Program}{o:bC}{n:Nat}{σ σ':gW}{a:Act}{w:World}{T:List (dy P)}{B:Code}{Q:iM}{st:List It}
theorem IJ {p:List Nat}(r:List It){id:Nat}{ops:Array Oper}{y:Sy}{re:List (Nat×Option R2)}{d:Nat}{A:bF}{S:aL}{a:Act}{w:World}{op0:Oper}{l:List Oper}(kC:sub B p= .region id ops false)(Aa:ops.toList=op0::l)
  (h0:∀t e,nX σ t=some e->e.ch=[]) (np:∀j,o.pF j->j<o.kp) (hr:II P T n B σ y re d (.run p::r)=some σ')
  (H:cv o n A S (FU (· <σ.nx) re) (l9 (nX σ) d (some ⟨[],y⟩)) (aQ (jd σ) re) a w) (k:∀a w,iZ o n σ' a w->Q .normal a w):wpList P ops Q l a w:=by
 unfold II at hr
 simp only[kC,Aa,List.drop_one,List.tail_cons] at hr
 split at hr
 .rename_i us F7
  split at hr
  .rename_i dL
   cases hr
   rw[Bool.and_eq_true] at dL
   have Y6:∀u∈us,u.cs=[]/\u.hs=[]:=fun u hu=>by
    have:=List.all_eq_true.1 dL.1 u hu
    rw[Bool.and_eq_true] at this
    exact⟨List.isEmpty_iff.1 this.1,List.isEmpty_iff.1 this.2⟩
   have zX:∀q∈re,q.1<σ.nx+4096:=fun q hq=>by
    have:=List.all_eq_true.1 dL.2 q hq
    simpa using Nat.blt_eq▸this
   have fin:∀ {A':bF} {S':aL} {F':Nat->Prop} {a':Act} {w':World},cv o n A' S' F' (eV (nX σ) (AX us [(d,some ⟨[],y⟩)])) (aQ (jd σ) (vN us re)) a' w'->(∀j,σ.nx+4096+4096*l.length<=j->True->¬F' j)->iZ o n ⟨wm (AX us [(d,some ⟨[],y⟩)])++σ.env,vN us re++σ.rs,σ.nx+4096*l.length+4096⟩ a' w':=by
    intro A' S' F' a' w' H' QW
    refine⟨⟨A',S',?_⟩,?_,np⟩
    .rw[wQ,RM]
     exact(H'.less fun t e he=>(tD h0 he).1).agree (cR.refl _ _) fun j hj=>Classical.byContradiction fun q=>QW j (by have q:¬j<σ.nx+4096*l.length+4096:=q;omega) tv hj
    rw[wQ]
    exact fun t e he=>(tD h0 he).2
   have key:=CC (Q:=Q) (L:=fun _=>True) (rest:=[]) h0 F7 H (fun j hj _ hn=>by
    rcases hn with hn|⟨x,hx⟩
    .omega
    have:=zX _ hx;simp only at this;omega) (fun _ _=>trivial) (fun u hu p hp=>by rw[(Y6 u hu).1] at hp;cases hp) (fun u hu p hp=>by rw[(Y6 u hu).2] at hp;cases hp) fun A' S' F' a' w' H' QW _=>k a' w' (fin H' QW)
   rwa[List.append_nil] at key
  cases hr
 cases hr
theorem tK (I:NX)(h:iZ o n σ a w)(k1:(∀x,I.lf x=false)->∀a w,iZ o n (stG (nx1 P T n B σ st (some I))) a w->At mo P T B Q (tlI st) a w)
  (k2:∀(x:bL I.k) (v:El I.ty) (jR:Nat),I.lf x=true->cA I.k x->aG (show List (bL I.k×El I.ty) from I.m) x=some v->jR<I.cnt->∀a w,iZ o n (stG (nx2 P T n B σ st I x v jR)) a w->At mo P T B Q (tlI st) a w)
  (hI:Ut P n B σ st=some I:=by kernel_rfl) (h1:(nx1 P T n B σ st (some I)).isSome=true:=by kernel_rfl) (h2:∀x v jR,(nx2 P T n B σ st I x v jR).isSome=true:=by intro x v jR;kernel_rfl):At mo P T B Q st a w:=by
 obtain⟨⟨A,S,H⟩,h0,np⟩:=h
 have IK:=hI
 unfold Ut at hI
 split at hI
 .rename_i p r
  split at hI
  .rename_i id ops kC
   split at hI
   .rename_i op l Aa
    split at hI
    .rename_i t d fC jr hg
     split at hI
     .rename_i j he
      split at hI
      .rename_i kc ty m lf cnt cur hR
       split at hI
       .rename_i NV
        cases hI
        rw[Bool.and_eq_true,Bool.and_eq_true] at NV
        obtain⟨rQ,g1,g2⟩:=NV
        have g1:d<n:=by simpa using Nat.blt_eq▸g1
        obtain⟨kt,hkt⟩:=Option.isSome_iff_exists.1 g2
        have hu:=RP hkt
        obtain⟨CJ,Y7⟩:=Option.isSome_iff_exists.1 h1
        rw[Y7] at k1
        refine⟨?_⟩
        show(sub B p).j7 mo P (post mo P B Q r) a w
        rw[kC]
        refine pg rQ ?_
        rw[Aa]
        simp only[wpList]
        have hw:Region.wanted op (yielded ops a.tmps)=true:=by unfold Region.wanted;rw[hg]
        rw[if_pos hw]
        have hv:=(H.env t _ he).1 (fun l hl=>by cases hl)
        have hx:a.eval (.tmp t)= .pointer (some ⟨A.b j,0,none⟩):=by
         simp only[Act.eval,Array.getD_eq_getD_getElem?]
         rw[show a.tmps[t]?=some (.pointer (some ⟨A.b j,0,none⟩)) from hv];rfl
        have hm:bw A (jd σ) j=some (Gf (A.b j) m lf cnt cur):=by show(jd σ j).map _=_;rw[hR];rfl
        have kz:∀t e,nX σ t=some e->∀l∈e.ch,l.1≠d:=fun t e he l hl=>by rw[h0 t e he] at hl;cases hl
        have Y8:(∀x,lf x=false)->(Instr.next (.pointer (some ⟨A.b j,0,none⟩)) false op.type).run P w= .ok (.tuple #[.bool false]) w->op.wp P a w (wpList P ops (CF (post mo P B Q r)) l) (CF (post mo P B Q r)):=by
         intro RQ bY
         have e2:(execOp a.eval op).run P w= .ok (.value (.tuple #[.bool false])) w:=by
          simp only[execOp,fC,Sem.run_bind,hx,bY];rfl
         refine bH e2 ?_
         rw[jr]
         have H1:=H.put (C:=[]) (d:=d) (y:=.mU [(false,[.b (.lit false)])]) (u:=.tuple #[.bool false]) g1 kz (fun l hl=>by cases hl) (fun _=>⟨fun q hq c hc=>by have:=List.mem_singleton.1 hq;subst this;have:=List.mem_singleton.1 hc;subst this;trivial,fun q hq c hc=>by have:=List.mem_singleton.1 hq;subst this;have:=List.mem_singleton.1 hc;subst this;trivial⟩) ⟨fun _=>rfl,fun q=>(q fun l hl=>by cases hl).elim⟩
         exact IJ r kC Aa h0 np (re:=[]) Y7 (H1.agree (cR.refl _ _) fun c hc=>.inl hc) fun a w h=>(k1 RQ a w h).get
        rcases H.bB.ok j _ hm with⟨mb,zs,cu,s1,s3,s4,s5,s6,s7⟩|⟨s1,s2,s3,since,seen,c0,s4⟩
        .rcases s3.next hu op.type with⟨RQ,bY⟩|⟨x,v,w',jR,n1,n2,n3,n4,n5,n6,n7,n8⟩
         .exact .inl (Y8 RQ bY)
         have zV:∃z,aG zs x=some z/\z.1=v:=by
          have e1:aG (zs.map fun q=>(q.1,q.2.1)) x=(aG zs x).map (·.1):=e7 (fun y:Value×El ty=>y.1) zs x
          rw[e1] at n3
          obtain⟨z,hz,rfl⟩:=Option.map_eq_some_iff.1 n3
          exact⟨z,hz,rfl⟩
         obtain⟨z,hz,rfl⟩:=zV
         have hlm:aG (show List (bL kc×El ty) from m) x=some z.2:=by
          have e2:aG (show List (bL kc×El ty) from m) x=(aG zs x).map (·.2):=by rw[s4];exact e7 (fun y:Value×El ty=>y.2) zs x
          rw[e2,hz];rfl
         obtain⟨σ2,Y9⟩:=Option.isSome_iff_exists.1 (h2 x z.2 jR)
         have k2':=k2 x z.2 jR n1 n2 hlm n4
         rw[Y9] at k2'
         refine .inl ?_
         have bY:=n5
         have e2:(execOp a.eval op).run P w= .ok (.value (.tuple #[.bool true,fP kc x,z.1])) w':=by
          simp only[execOp,fC,Sem.run_bind,hx,bY];rfl
         refine bH e2 ?_
         rw[jr]
         have hj:=(H.dB j _ hR).1
         have Un:cK S w w':=fun c hc=>n7.block c (H.bB.iI c hc) fun q=>by cases q;exact(H.bB.own j _ _ hm rfl).2.2 hc
         have hbn:(A.b j)<w.heap.size:=(H.bB.own j _ _ hm rfl).2.1
         have H1:=H.swap (cR.refl _ _) (w':=w') (S':=S) (re:=[(j,some (.iter kc ty m (fun z=>lf z && !decide (z=x)) jR (some (x,z.2))))]) (fun c=>c=j) (fun c hc=>by rw[show c=j from hc];exact⟨_,List.mem_singleton.2 rfl⟩)
          ((jZ.of n7).mono fun c hc=>⟨j,_,rfl,hR,by cases hc;rfl⟩) (fun _ q=>q) (fun _ q=>.inl q) (fun c y hy=>by
           cases List.mem_singleton.1 hy
           refine⟨tv,tv,rfl,.inl ⟨mb,zs,some (x,z),s1,n6,s4,fun z hz=>(s5 z hz).keep Un,rfl,fun q hq=>?_⟩,fun c hc=>?_⟩
           .cases hq
            exact(s5 _ (jA hz)).keep Un
           have hc:c=A.b j:=hc
           subst hc
           exact⟨.inl ⟨j,_,rfl,hR,rfl⟩,by rw[n8];exact hbn⟩) (fun c c' y y' bb q1 q2 _ _=>by cases List.mem_singleton.1 q1;cases List.mem_singleton.1 q2;rfl)
         have gF:Rd S w' z.1 z.2:=(s5 _ (jA hz)).keep Un
         obtain⟨vs,J5,hv⟩:=jT gF
         have o7:=fT (k:=true) (bl ty z.2) σ.nx
         have hF:∀i,σ.nx<=i->¬FU (· <σ.nx) [(j,some (R2.iter kc ty m (fun z=>lf z && !decide (z=x)) jR (some (x,z.2))))] i:=fun i hi hn=>by
          rcases hn with hn|⟨q,hq⟩
          .omega
          cases List.mem_singleton.1 hq;omega
         obtain⟨A',c1,c2,c3,c4⟩:=fH (o:=o) (S:=S) (w:=w') (k:=true) (B:=σ.nx+(bA true σ.nx (bl ty z.2)).2.length) _ vs σ.nx A _ J5 (fun i hi _=>hF i hi) fun q hq=>(o7 q hq).2
         have H2:=H1.ro c1 c3
         have Rn:∀i,FU (FU (· <σ.nx) [(j,some (R2.iter kc ty m (fun z=>lf z && !decide (z=x)) jR (some (x,z.2))))]) (bA true σ.nx (bl ty z.2)).2 i->FU (· <σ.nx) ((j,some (R2.iter kc ty m (fun z=>lf z && !decide (z=x)) jR (some (x,z.2))))::(bA true σ.nx (bl ty z.2)).2) i:=fun i hi=>by
          rcases hi with(hi|⟨q,hq⟩)|⟨q,hq⟩
          .exact .inl hi
          .exact .inr ⟨q,by rw[List.mem_singleton.1 hq];exact List.mem_cons_self⟩
          exact .inr ⟨q,List.mem_cons_of_mem _ hq⟩
         have D6:aQ (aQ (jd σ) [(j,some (R2.iter kc ty m (fun z=>lf z && !decide (z=x)) jR (some (x,z.2))))]) (bA true σ.nx (bl ty z.2)).2=aQ (jd σ) ((j,some (R2.iter kc ty m (fun z=>lf z && !decide (z=x)) jR (some (x,z.2))))::(bA true σ.nx (bl ty z.2)).2):=by
          funext i
          show aQ (jg (jd σ) j _) _ i=jg (aQ (jd σ) _) j _ i
          by_cases q:j=i
          .subst q
           rw[cB,iB,cB]
           rintro⟨y,hy⟩
           have:=(o7 _ hy).1
           omega
          rw[cS q]
          by_cases q2:∃y,(i,y)∈(bA true σ.nx (bl ty z.2)).2
          .exact Cs q2 _ _
          rw[iB q2,iB q2,cS q]
         rw[D6] at H2
         have H3:=H2.agree (cR.refl _ _) Rn
         have H4:=H3.put (C:=[]) (d:=d) (y:=.mU [(false,[.b (.lit true)]),(false,[vJ kc x]),(cG ty,(bA true σ.nx (bl ty z.2)).1)]) (u:=.tuple #[.bool true,fP kc x,z.1]) g1 kz (fun l hl=>by cases hl) (fun _=>by
          refine⟨fun q hq c hc=>?_,fun q hq c hc=>?_⟩
          .rcases List.mem_cons.1 hq with rfl|hq
           .have:=List.mem_singleton.1 hc;subst this;trivial
           rcases List.mem_cons.1 hq with rfl|hq
           .have:=List.mem_singleton.1 hc;subst this;exact(qO (A:=A) x).1
           have:=List.mem_singleton.1 hq;subst this
           exact Sc.mono Rn (c4 c hc).1
          rcases List.mem_cons.1 hq with rfl|hq
          .have:=List.mem_singleton.1 hc;subst this;trivial
          .rcases List.mem_cons.1 hq with rfl|hq
           .have:=List.mem_singleton.1 hc;subst this;exact(qO (F:=fun _=>True) x).2
           have:=List.mem_singleton.1 hq;subst this
           exact(c4 c hc).2) ⟨fun _=>by
          show Value.tuple #[_,_,_]=Value.tuple #[fe A' (false,[.b (.lit true)]),fe A' (false,[vJ kc x]),fe A' (cG ty,(bA true σ.nx (bl ty z.2)).1)]
          unfold fe
          simp only[List.map_cons,List.map_nil,AU,c2,Bool.false_eq_true,if_false,List.headD_cons]
          rw[hv];rfl,fun q=>(q fun l hl=>by cases hl).elim⟩
         exact IJ r kC Aa h0 np Y9 H4 fun a w h=>(k2' a w h).get
        refine .inl (Y8 s3 (Ml s4 op.type))
       cases hI
      cases hI
     cases hI
    cases hI
   cases hI
  cases hI
 cases hI
end
def KO (n:Int)(e:Int×Int):Prop:=0<=e.1/\e.1<n/\0<=e.2/\e.2<n
instance (n:Int) (e:Int×Int):Decidable (KO n e):=by unfold KO;infer_instance
def KP (n:Int)(E:List (Int×Int)):Prop:=∀j,j<E.length->KO n (E.getD j (0,0))
instance (n:Int) (E:List (Int×Int)):Decidable (KP n E):=by unfold KP;infer_instance
def bS (n:Int)(E:List (Int×Int)):Int:=if n<0 then 3 else if 1024<n\/1024-n<(E.length:Int) then 2 else if KP n E then 0 else 3
theorem yy {n:Int}{E:List (Int×Int)}(h0:0<=n)(h1:n<=1024)(h2:(E.length:Int)<=1024-n){i:Int}(hi:0<=i)(hl:i<(E.length:Int))(h:¬KO n (E.getD i.toNat (0,0))):bS n E=3:=by
 unfold bS
 rw[if_neg (by omega),if_neg (by omega),if_neg (fun q:KP n E=>h (q i.toNat (by omega)))]
theorem Ba {n:Int}{E:List (Int×Int)}(h0:0<=n)(h1:n<=1024)(h2:(E.length:Int)<=1024-n){i:Int}(hl:¬i<(E.length:Int))(h:∀j:Nat,(j:Int)<i->KO n (E.getD j (0,0))):bS n E=0:=by
 unfold bS
 rw[if_neg (by omega),if_neg (by omega),if_pos (show KP n E from fun j hj=>h j (by omega))]
def cH (l:List Int)(n:Int):Prop:=∀j,j<l.length->0<=l.getD j 0/\l.getD j 0<n/\(0<j->l.getD (j-1) 0<l.getD j 0)
instance (l:List Int) (n:Int):Decidable (cH l n):=by unfold cH;infer_instance
def yz (l:List Int)(x:Int):Nat->Int->Int->Int
 |0,lo,_=>lo
 |f+1,lo,hi=>if lo<hi then(if l.getD ((lo+hi)/2).toNat 0<x then yz l x f ((lo+hi)/2+1) hi else yz l x f lo ((lo+hi)/2)) else lo
def NW (l:List Int)(x:Int):Int:=yz l x l.length 0 (l.length:Int)
def hasB (l:List Int)(x:Int):Bool:=decide (NW l x<(l.length:Int)) && decide (l.getD (NW l x).toNat 0=x)
theorem qg {l:List Int}{x lo hi:Int}(h:¬lo<hi):∀f,yz l x f lo hi=lo
 |0=>rfl
 |f+1=>by unfold yz;rw[if_neg h]
theorem qW {l:List Int}{x:Int}:∀(f g:Nat) (lo hi:Int),(hi-lo).toNat<=f->(hi-lo).toNat<=g->yz l x f lo hi=yz l x g lo hi
 |0,g,lo,hi,h1,h2=>by rw[qg (by omega),qg (by omega)]
 |f+1,0,lo,hi,h1,h2=>by rw[qg (by omega),qg (by omega)]
 |f+1,g+1,lo,hi,h1,h2=>by
  unfold yz
  by_cases h:lo<hi
  .rw[if_pos h,if_pos h]
   split
   .exact qW f g _ _ (by omega) (by omega)
   exact qW f g _ _ (by omega) (by omega)
  rw[if_neg h,if_neg h]
def IL (l:List Int)(x lo hi:Int):Int:=yz l x (hi-lo).toNat lo hi
theorem Uu {l:List Int}{x lo hi:Int}(h:lo<hi)(hx:l.getD ((lo+hi)/2).toNat 0<x):IL l x lo hi=IL l x ((lo+hi)/2+1) hi:=by
 unfold IL
 obtain⟨f,hf⟩:∃f,(hi-lo).toNat=f+1:=⟨(hi-lo).toNat-1,by omega⟩
 rw[hf]
 conv=>lhs;unfold yz
 rw[if_pos h,if_pos hx]
 exact qW _ _ _ _ (by omega) (by omega)
theorem Uv {l:List Int}{x lo hi:Int}(h:lo<hi)(hx:¬l.getD ((lo+hi)/2).toNat 0<x):IL l x lo hi=IL l x lo ((lo+hi)/2):=by
 unfold IL
 obtain⟨f,hf⟩:∃f,(hi-lo).toNat=f+1:=⟨(hi-lo).toNat-1,by omega⟩
 rw[hf]
 conv=>lhs;unfold yz
 rw[if_pos h,if_neg hx]
 exact qW _ _ _ _ (by omega) (by omega)
theorem CK {l:List Int}{x lo hi:Int}(h:¬lo<hi):IL l x lo hi=lo:=qg h _
theorem Uw (l:List Int)(x:Int):IL l x 0 (l.length:Int)=NW l x:=by unfold IL NW;congr 1
theorem vR {l:List Int}{n:Int}(h:cH l n):∀j,j<l.length->(j:Int)<=l.getD j 0
 |0,hj=>by have:=h 0 hj;omega
 |j+1,hj=>by
  have ih:=vR h j (by omega)
  have:=(h (j+1) hj).2.2 (by omega)
  rw[show j+1-1=j by omega] at this
  omega
theorem aO {l:List Int}{n:Int}(h:cH l n)(hn:0<=n):(l.length:Int)<=n:=by
 cases hl:l.length with
 |zero=>omega
 |succ m=>
  have h1:=vR h m (by omega)
  have h2:=h m (by omega)
  omega
def uX (E:List (Int×Int))(V L:List Int):Prop:=∀j,j<L.length->hasB V (E.getD (L.getD j 0).toNat (0,0)).1=true/\hasB V (E.getD (L.getD j 0).toNat (0,0)).2=true
instance (E:List (Int×Int)) (V L:List Int):Decidable (uX E V L):=by unfold uX;infer_instance
def aS (n:Int)(E:List (Int×Int))(V L:List Int):Int:=
 if bS n E≠0 then bS n E else if ¬cH V n\/¬cH L (E.length:Int) then 4 else if uX E V L then 0 else 4
theorem bz {n:Int}{E:List (Int×Int)}(h:bS n E=0):0<=n/\n<=1024/\(E.length:Int)<=1024-n/\KP n E:=by
 unfold bS at h
 split at h
 .omega
 split at h
 .omega
 split at h
 .rename_i q;exact⟨by omega,by omega,by omega,q⟩
 omega
theorem gm {l:List Int}{x:Int}:x∈l↔∃j,j<l.length/\l.getD j 0=x:=by
 constructor
 .intro h
  obtain⟨j,hj,e⟩:=List.getElem_of_mem h
  exact⟨j,hj,by rw[List.getD_eq_getElem?_getD,List.getElem?_eq_getElem hj];exact e⟩
 rintro⟨j,hj,e⟩
 rw[List.getD_eq_getElem?_getD,List.getElem?_eq_getElem hj] at e
 exact e▸List.getElem_mem hj
def ja (a b:List Int):Prop:=∀j,j<a.length->hasB b (a.getD j 0)=true
instance (a b:List Int):Decidable (ja a b):=by unfold ja;infer_instance
theorem aJ {n:Int}{E:List (Int×Int)}{V L:List Int}(h:aS n E V L=0):bS n E=0/\cH V n/\cH L (E.length:Int)/\uX E V L:=by
 unfold aS at h
 split at h
 .rename_i q;exact(q h).elim
 rename_i q
 split at h
 .omega
 rename_i q2
 split at h
 .rename_i q3
  exact⟨by omega,by have:=not_or.1 q2;exact Classical.not_not.1 this.1,by have:=not_or.1 q2;exact Classical.not_not.1 this.2,q3⟩
 omega
def ah (E:List (Int×Int))(d:Int):Int:=if d%2=0 then(E.getD (d/2).toNat (0,0)).1 else(E.getD (d/2).toNat (0,0)).2
def an (d:Int):Int:=if d%2=0 then d+1 else d-1
def fJ (E:List (Int×Int))(e v s:Int):List Int:=
 (if s<=0/\ah E (2*e+0)=v then[2*e+0] else[])++(if s<=1/\ah E (2*e+1)=v then[2*e+1] else[])
def gL (E:List (Int×Int))(L:List Int)(v:Int):List Int:=L.flatMap fun e=>fJ E e v 0
theorem RR {E:List (Int×Int)}{e:Int}:ah E (2*e+0)=(E.getD e.toNat (0,0)).1:=by
 unfold ah;rw[if_pos (by omega),show(2*e+0)/2=e by omega]
theorem RS {E:List (Int×Int)}{e:Int}:ah E (2*e+1)=(E.getD e.toNat (0,0)).2:=by
 unfold ah;rw[if_neg (by omega),show(2*e+1)/2=e by omega]
def upto (n:Int):List Int:=(List.range n.toNat).map fun j:Nat=>(j:Int)
theorem tL (n:Int):(upto n).length=n.toNat:=by simp[upto]
theorem qX {i:Int}(h:0<=i):upto (i+1)=upto i++[i]:=by
 unfold upto
 rw[show(i+1).toNat=i.toNat+1 by omega,List.range_succ,List.map_append]
 simp[Int.toNat_of_nonneg h]
theorem IM {i n:Int}(h1:¬i<n)(h2:i<=n\/i=0):upto i=upto n:=by unfold upto;rw[show i.toNat=n.toNat by omega]
theorem Ew {n x:Int}:x∈upto n↔0<=x/\x<n:=by
 unfold upto
 rw[List.mem_map]
 constructor
 .rintro⟨j,hj,rfl⟩;have:=List.mem_range.1 hj;omega
 intro h;exact⟨x.toNat,List.mem_range.2 (by omega),by omega⟩
def aR (n:Int)(E:List (Int×Int)):List Int×List Int:=if bS n E≠0 then([],[]) else(upto n,upto (E.length:Int))
def Ux (E:List (Int×Int))(L:List Int):List Int:=L.flatMap fun e=>[(E.getD e.toNat (0,0)).1,(E.getD e.toNat (0,0)).2]
abbrev Ex (l:List Int):List Int:=l.mergeSort fun x y=>decide (x<=y)
def CL (E:List (Int×Int))(e v:Int):Prop:=(E.getD e.toNat (0,0)).1=v\/(E.getD e.toNat (0,0)).2=v
instance (E:List (Int×Int)) (e v:Int):Decidable (CL E e v):=by unfold CL;infer_instance
theorem tM {l:List Int}{n:Int}(h:cH l n):∀ {i j:Nat},i<j->j<l.length->l.getD i 0<l.getD j 0:=by
 intro i j wD hj
 induction j with
 |zero=>omega
 |succ j ih=>
  have h1:=(h (j+1) hj).2.2 (by omega)
  rw[show j+1-1=j by omega] at h1
  by_cases e:i=j
  .subst e;exact h1
  have:=ih (by omega) (by omega);omega
theorem yA {l:List Int}{n x:Int}(h:cH l n):∀(f:Nat) (lo hi:Int),(hi-lo).toNat<=f->0<=lo->lo<=hi->hi<=(l.length:Int)->(∀j:Nat,(j:Int)<lo->l.getD j 0<x)->(∀j:Nat,hi<=(j:Int)->j<l.length->x<=l.getD j 0)->
  0<=IL l x lo hi/\IL l x lo hi<=(l.length:Int)/\(∀j:Nat,(j:Int)<IL l x lo hi->l.getD j 0<x)/\(∀j:Nat,IL l x lo hi<=(j:Int)->j<l.length->x<=l.getD j 0)
 |0,lo,hi,hf,h0,h1,h2,ha,hb=>by
  rw[CK (by omega)]
  exact⟨h0,by omega,ha,fun j hj=>hb j (by omega)⟩
 |f+1,lo,hi,hf,h0,h1,h2,ha,hb=>by
  by_cases iL:lo<hi
  .by_cases hx:l.getD ((lo+hi)/2).toNat 0<x
   .rw[Uu iL hx]
    refine yA h f _ _ (by omega) (by omega) (by omega) h2 (fun j hj=>?_) hb
    by_cases e:j=((lo+hi)/2).toNat
    .rw[e];exact hx
    have:=tM h (i:=j) (j:=((lo+hi)/2).toNat) (by omega) (by omega);omega
   rw[Uv iL hx]
   refine yA h f _ _ (by omega) h0 (by omega) (by omega) ha (fun j hj hl=>?_)
   by_cases e:j=((lo+hi)/2).toNat
   .rw[e];omega
   have:=tM h (i:=((lo+hi)/2).toNat) (j:=j) (by omega) hl;omega
  rw[CK iL]
  exact⟨h0,by omega,ha,fun j hj=>hb j (by omega)⟩
theorem fk {l:List Int}{n x:Int}(h:cH l n):hasB l x=decide (x∈l):=by
 obtain⟨h0,h1,h2,h3⟩:=yA (x:=x) h l.length 0 (l.length:Int) (by omega) (by omega) (by omega) (Int.le_refl _) (fun j hj=>by omega) (fun j hj hl=>by omega)
 rw[Uw] at h0 h1 h2 h3
 unfold hasB
 rw[<-Bool.decide_and]
 refine decide_eq_decide.2 ⟨fun⟨a,b⟩=>gm.2 ⟨_,by omega,b⟩,fun hm=>?_⟩
 obtain⟨j,hj,e⟩:=gm.1 hm
 have h4:¬(j:Int)<NW l x:=fun q=>by have:=h2 j q;omega
 have h5:=h3 (NW l x).toNat (by omega) (by omega)
 refine⟨by omega,?_⟩
 by_cases e2:(NW l x).toNat=j
 .rw[e2];exact e
 have:=tM h (i:=(NW l x).toNat) (j:=j) (by omega) hj;omega
end Go.Proofs.YtnfdimfepbbbpaaGreat
namespace Go.Proofs.YtnfdimfepbbbpaaGreat.Deep
structure Gr where
 L:List Int
 A:Int->Int
 B:Int->Int
namespace Gr
variable (G:Gr)
def inc (f x:Int):Prop:=G.A f=x\/G.B f=x
def lp (f:Int):Prop:=G.A f=G.B f
def iV (f x y:Int):Prop:=(G.A f=x/\G.B f=y)\/(G.A f=y/\G.B f=x)
def Ad (x y:Int):Prop:=∃f∈G.L,G.iV f x y
inductive iC (P:Int->Prop):Int->Int->Prop
 |refl {x}:P x->iC P x x
 |step {x y z}:iC P x y->G.Ad y z->P z->iC P x z
variable {G}
theorem iV.symm {f x y:Int}(h:G.iV f x y):G.iV f y x:=h.elim .inr .inl
theorem iV.left {f x y:Int}(h:G.iV f x y):G.inc f x:=h.elim (fun h=>.inl h.1) (fun h=>.inr h.2)
theorem iV.right {f x y:Int}(h:G.iV f x y):G.inc f y:=h.symm.left
theorem iV.of {f x y:Int}(h:G.iV f x y){z:Int}(hz:G.inc f z):z=x\/z=y:=by
 rcases h with⟨h1,h2⟩|⟨h1,h2⟩<;>rcases hz with e|e<;>simp_all
theorem Ad.symm {x y:Int}(h:G.Ad x y):G.Ad y x:=let⟨f,hf,hj⟩:=h;⟨f,hf,hj.symm⟩
theorem iC.mono {P P':Int->Prop}(hp:∀x,P x->P' x){x y:Int}(h:G.iC P x y):G.iC P' x y:=by
 induction h with
 |refl h=>exact .refl (hp _ h)
 |step _ ha hz ih=>exact .step ih ha (hp _ hz)
theorem iC.first {P:Int->Prop}{x y:Int}(h:G.iC P x y):P x:=by
 induction h with
 |refl h=>exact h
 |step _ _ _ ih=>exact ih
theorem iC.last {P:Int->Prop}{x y:Int}(h:G.iC P x y):P y:=by
 cases h with
 |refl h=>exact h
 |step _ _ h=>exact h
theorem iC.trans {P:Int->Prop}{x y z:Int}(h:G.iC P x y)(k:G.iC P y z):G.iC P x z:=by
 induction k with
 |refl _=>exact h
 |step _ ha hz ih=>exact .step ih ha hz
theorem iC.one {P:Int->Prop}{x y:Int}(hx:P x)(h:G.Ad x y)(hy:P y):G.iC P x y:=.step (.refl hx) h hy
theorem iC.symm {P:Int->Prop}{x y:Int}(h:G.iC P x y):G.iC P y x:=by
 induction h with
 |refl h=>exact .refl h
 |step h ha hz ih=>exact(iC.one hz ha.symm h.last).trans ih
theorem iC.closed {P Q:Int->Prop}(hc:∀x y,Q x->G.Ad x y->P y->Q y){x y:Int}(h:G.iC P x y)(hx:Q x):Q y:=by
 induction h with
 |refl _=>exact hx
 |step _ ha hz ih=>exact hc _ _ ih ha hz
end Gr
def Tog (G:Gr)(z f g:Int):Prop:=∃a b,G.inc f a/\a≠z/\G.inc g b/\b≠z/\G.iC (· ≠z) a b
structure St where
 met:Int->Int
 low:Int->Int
 cnt:Int
 pJ:List Int
 dM:List (List Int)
 ins:List (Int×List Int)
def mV (f:Int->Int)(x y:Int):Int->Int:=fun z=>if z=x then y else f z
theorem yB (f:Int->Int)(x y:Int):mV f x y x=y:=by simp[mV]
theorem GR (f:Int->Int){x z:Int}(y:Int)(h:z≠x):mV f x y z=f z:=by simp[mV,h]
def enter (v:Int)(s:St):St:={s with cnt:=s.cnt+1,met:=mV s.met v (s.cnt+1),low:=mV s.low v (s.cnt+1)}
def key (b:List Int):Int×List Int:=((Ex b).headD 0,Ex b)
inductive Loop (D:Int->List Int)(T:Int->Int):Int->Int->List Int->St->St->Prop
 |nil {v via s}:Loop D T v via [] s s
 |lp {v via d ds s s'}:T d=v->Loop D T v via ds {s with ins:=s.ins++[(d/2,[d/2])]} s'->Loop D T v via (d::ds) s s'
 |via {v via d ds s s'}:T d≠v->d/2=via->Loop D T v via ds s s'->Loop D T v via (d::ds) s s'
 |keep {v via d ds s s1 s'}:T d≠v->d/2≠via->s.met (T d)=0->Loop D T (T d) (d/2) (D (T d)) (enter (T d) {s with pJ:=s.pJ++[d/2]}) s1->s1.low (T d)<s1.met v->
  Loop D T v via ds {s1 with low:=mV s1.low v (min (s1.low v) (s1.low (T d)))} s'->Loop D T v via (d::ds) s s'
 |take {v via d ds s s1 s' pre S}:T d≠v->d/2≠via->s.met (T d)=0->Loop D T (T d) (d/2) (D (T d)) (enter (T d) {s with pJ:=s.pJ++[d/2]}) s1->¬s1.low (T d)<s1.met v->s1.pJ=pre++d/2::S->d/2∉pre->
  Loop D T v via ds {s1 with low:=mV s1.low v (min (s1.low v) (s1.low (T d))),pJ:=pre,dM:=s1.dM++[d/2::S],ins:=s1.ins++[key (d/2::S)]} s'->Loop D T v via (d::ds) s s'
 |back {v via d ds s s'}:T d≠v->d/2≠via->s.met (T d)≠0->s.met (T d)<s.met v->Loop D T v via ds {s with pJ:=s.pJ++[d/2],low:=mV s.low v (min (s.low v) (s.met (T d)))} s'->Loop D T v via (d::ds) s s'
 |skip {v via d ds s s'}:T d≠v->d/2≠via->s.met (T d)≠0->¬s.met (T d)<s.met v->Loop D T v via ds s s'->Loop D T v via (d::ds) s s'
def Good (G:Gr)(mG:List Int)(b:List Int):Prop:=∃(p:Int) (N:Int->Prop),¬N p/\(∃f∈b,G.inc f p)/\(∀f∈b,f∈G.L/\¬G.lp f/\∃x y,N x/\(N y\/y=p)/\G.iV f x y)/\
 (∀x y,N x->G.Ad x y->N y\/y=p)/\(∀x,N x->∀f∈G.L,G.inc f x->G.lp f\/f∈b\/f∈mG)/\(∀f∈b,∀g∈b,∀z,Tog G z f g)
def qY (G:Gr):List Int->List (List Int)->Prop
 |_,[]=>True
 |mG,b::bs=>Good G mG b/\qY G (mG++b) bs
theorem qY.snoc {G:Gr}{b:List Int}:∀ {mG:List Int} {bs:List (List Int)},qY G mG bs->Good G (mG++bs.flatten) b->qY G mG (bs++[b])
 |e,[],_,h=>⟨by simpa using h,tv⟩
 |e,c::bs,h,hb=>⟨h.1,qY.snoc h.2 (by simpa[List.append_assoc] using hb)⟩
structure pn (G:Gr)(D:Int->List Int)(T:Int->Int):Prop where
 mem:∀v d,d∈D v->d/2∈G.L/\G.iV (d/2) v (T d)
 all:∀f x,f∈G.L->G.inc f x->∃d∈D x,d/2=f
 one:∀v d d',d∈D v->d'∈D v->d/2=d'/2->T d≠v->d=d'
 nodup:∀v,(D v).Nodup
structure Za (G:Gr)(s:St):Prop where
 NY:∀x,0<=s.met x/\s.met x<=s.cnt
 inj:∀x y,s.met x≠0->s.met x=s.met y->x=y
 bv:∀f∈s.dM.flatten,∀x,G.inc f x->s.met x≠0
 nd:(s.dM.flatten++s.pJ).Nodup
 b7:qY G [] s.dM
 KQ:∀q∈s.ins,(q.2=[q.1]/\q.1∈G.L/\G.lp q.1)\/∃b∈s.dM,q=key b
 KR:∀b∈s.dM,key b∈s.ins
 ne:∀b∈s.dM,b≠[]
structure Ctx (G:Gr)(Y:Int->Prop)(o:St)(v via:Int):Prop where
 eW:Za G o
 new:o.met v=0
 mP:∀x,Y x->o.met x≠0
 black:∀x y,o.met x≠0->¬Y x->G.Ad x y->o.met y≠0
 up:(via∉G.L/\(∀x,¬Y x)/\o.pJ=[])\/(via∈G.L/\∃p,Y p/\G.iV via p v/\∀x,Y x->o.met x<=o.met p)
 sv:∀f∈o.pJ,f=via\/∀x,G.inc f x->o.met x≠0
abbrev gy (o s:St)(x:Int):Prop:=o.met x=0/\s.met x≠0
structure mQ (G:Gr)(T:Int->Int)(Y:Int->Prop)(o:St)(v via:Int)(dn:List Int)(s:St)(S:List Int)(Bs:List (List Int)):Prop where
 eW:Za G s
 old:∀x,o.met x≠0->s.met x=o.met x
 KS:∀x,o.met x≠0->s.low x=o.low x
 new:∀x,gy o s x->o.cnt<s.met x
 CM:s.met v=o.cnt+1
 pJ:s.pJ=o.pJ++S
 dM:s.dM=o.dM++Bs
 seen:∀x y,gy o s x->x≠v->G.Ad x y->s.met y≠0
 Bb:∀d∈dn,s.met (T d)≠0
 sE:∀f∈S,f∈G.L/\¬G.lp f/\f≠via/\∃x y,gy o s x/\(gy o s y\/Y y)/\G.iV f x y
 bE:∀f∈Bs.flatten,∀x,G.inc f x->gy o s x
 LO:∀x,gy o s x->x≠v->∀f∈G.L,G.inc f x->(G.lp f/\(f,[f])∈s.ins)\/f∈S\/f∈Bs.flatten
 Ey:∀d∈dn,(G.lp (d/2)/\(d/2,[d/2])∈s.ins)\/d/2=via\/d/2∈S\/d/2∈Bs.flatten
 src:∀f∈S,G.inc f v->∀y,G.inc f y->Y y->∃d∈dn,d/2=f
 RT:s.low v<=s.met v
 NZ:∀f∈S,∀y,Y y->G.inc f y->s.low v<=s.met y
 RU:s.low v<s.met v->∃f∈S,∃x y,gy o s x/\Y y/\G.iV f x y/\s.met y<=s.low v
 out:∀f∈S,∀z,gy o s z->∃a y,G.inc f a/\a≠z/\Y y/\G.iC (fun x=>(gy o s x\/Y x)/\x≠z) a y
 conn:∀x,gy o s x->G.iC (gy o s) v x
 yC:∀q∈o.ins,q∈s.ins
section
variable {G:Gr}{D:Int->List Int}{T:Int->Int}{Y:Int->Prop}{o s:St}{v via:Int}{dn S:List Int}{Bs:List (List Int)}
theorem mQ.Ez (C:Ctx G Y o v via)(R:mQ G T Y o v via dn s S Bs):gy o s v:=⟨C.new,by rw[R.CM];have:=(C.eW.NY v).1;have:=(C.eW.NY v).2;omega⟩
theorem mQ.more (R:mQ G T Y o v via dn s S Bs){d:Int}(h1:s.met (T d)≠0)(h2:(G.lp (d/2)/\(d/2,[d/2])∈s.ins)\/d/2=via\/d/2∈S\/d/2∈Bs.flatten):mQ G T Y o v via (dn++[d]) s S Bs:=
 {R with
  Bb:=fun d' pO=>by
   rcases List.mem_append.1 pO with h|h
   .exact R.Bb d' h
   rw[List.mem_singleton.1 h];exact h1
  Ey:=fun d' pO=>by
   rcases List.mem_append.1 pO with h|h
   .exact R.Ey d' h
   rw[List.mem_singleton.1 h];exact h2
  src:=fun f hf hv y hy hY=>by
   obtain⟨d',pO,e⟩:=R.src f hf hv y hy hY
   exact⟨d',List.mem_append_left _ pO,e⟩}
theorem mQ.lp (R:mQ G T Y o v via dn s S Bs){e:Int}(hL:e∈G.L)(hl:G.lp e):mQ G T Y o v via dn {s with ins:=s.ins++[(e,[e])]} S Bs:=
 {R with
  eW:={R.eW with
   KQ:=fun q hq=>by
    rcases List.mem_append.1 hq with h|h
    .exact R.eW.KQ q h
    rw[List.mem_singleton.1 h];exact .inl ⟨rfl,hL,hl⟩
   KR:=fun b hb=>List.mem_append_left _ (R.eW.KR b hb)}
  LO:=fun x hx cO f hf hi=>(R.LO x hx cO f hf hi).imp_left fun h=>⟨h.1,List.mem_append_left _ h.2⟩
  Ey:=fun d hd=>(R.Ey d hd).imp_left fun h=>⟨h.1,List.mem_append_left _ h.2⟩
  yC:=fun q hq=>List.mem_append_left _ (R.yC q hq)}
theorem mQ.RV (C:Ctx G Y o v via)(R:mQ G T Y o v via dn s S Bs){w:Int}(hw:s.met w≠0)(iL:s.met w<s.met v)(VP:G.Ad w v):Y w:=by
 have ho:o.met w≠0:=fun h0=>by
  have:=R.new w ⟨h0,hw⟩
  rw[R.CM] at iL;omega
 exact Classical.byContradiction fun hn=>C.black w v ho hn VP C.new
theorem mQ.back (HD:pn G D T)(C:Ctx G Y o v via)(R:mQ G T Y o v via dn s S Bs){d:Int}(hd:d∈D v)(QV:∀x∈dn,x∈D v)(Bc:d∉dn)(h1:T d≠v)(h2:d/2≠via)(h3:s.met (T d)≠0)(h4:s.met (T d)<s.met v):
  mQ G T Y o v via (dn++[d]) {s with pJ:=s.pJ++[d/2],low:=mV s.low v (min (s.low v) (s.met (T d)))} (S++[d/2]) Bs:=by
 obtain⟨hL,hj⟩:=HD.mem v d hd
 have VP:G.Ad v (T d):=⟨_,hL,hj⟩
 have hY:Y (T d):=R.RV C h3 h4 VP.symm
 have F5:=R.Ez C
 have Uy:¬G.lp (d/2):=fun h=>by
  rcases hj with⟨a,b⟩|⟨a,b⟩
  .exact h1 (by rw[<-a,<-b];exact h.symm)
  exact h1 (by rw[<-a,<-b];exact h)
 have hnb:d/2∉s.dM.flatten:=fun h=>by
  rw[R.dM,List.flatten_append,List.mem_append] at h
  rcases h with h|h
  .exact C.eW.bv _ h v hj.left C.new
  exact C.mP _ hY (R.bE _ h (T d) hj.right).1
 have hns:d/2∉s.pJ:=fun h=>by
  rw[R.pJ,List.mem_append] at h
  rcases h with h|h
  .rcases C.sv _ h with e|e
   .exact h2 e
   exact e v hj.left C.new
  obtain⟨d',pO,e⟩:=R.src _ h hj.left _ hj.right hY
  exact Bc (HD.one v d d' hd (QV d' pO) e.symm h1▸pO)
 have aaX:∀x,o.met x≠0->mV s.low v (min (s.low v) (s.met (T d))) x=s.low x:=fun x hx=>GR _ _ (fun e=>hx (by rw[e];exact C.new))
 have Cf:mV s.low v (min (s.low v) (s.met (T d))) v=min (s.low v) (s.met (T d)):=yB _ _ _
 refine⟨⟨R.eW.NY,R.eW.inj,R.eW.bv,?_,R.eW.b7,R.eW.KQ,R.eW.KR,R.eW.ne⟩,R.old,fun x hx=>(aaX x hx).trans (R.KS x hx),R.new,R.CM,by simp only[R.pJ,List.append_assoc],R.dM,R.seen,fun d' pO=>?_,fun f hf=>?_,R.bE,fun x hx cO f hf hi=>?_,fun d' pO=>?_,fun f hf hv y hy zP=>?_,?_,fun f hf y zP hi=>?_,fun h=>?_,fun f hf z hz=>?_,R.conn,R.yC⟩
 .show(s.dM.flatten++(s.pJ++[d/2])).Nodup
  rw[<-List.append_assoc,List.nodup_append]
  refine⟨R.eW.nd,by simp,fun a ha b hb=>?_⟩
  rw[List.mem_singleton.1 hb]
  rintro rfl
  exact(List.mem_append.1 ha).elim hnb hns
 .rcases List.mem_append.1 pO with h|h
  .exact R.Bb d' h
  rw[List.mem_singleton.1 h];exact h3
 .rcases List.mem_append.1 hf with h|h
  .exact R.sE f h
  rw[List.mem_singleton.1 h];exact⟨hL,Uy,h2,v,T d,F5,.inr hY,hj⟩
 .rcases R.LO x hx cO f hf hi with h|h|h
  .exact .inl h
  .exact .inr (.inl (List.mem_append_left _ h))
  exact .inr (.inr h)
 .rcases List.mem_append.1 pO with h|h
  .rcases R.Ey d' h with h|h|h|h
   .exact .inl h
   .exact .inr (.inl h)
   .exact .inr (.inr (.inl (List.mem_append_left _ h)))
   exact .inr (.inr (.inr h))
  exact .inr (.inr (.inl (List.mem_append_right _ (by rw[List.mem_singleton.1 h];simp))))
 .rcases List.mem_append.1 hf with h|h
  .obtain⟨d',pO,e⟩:=R.src f h hv y hy zP
   exact⟨d',List.mem_append_left _ pO,e⟩
  exact⟨d,by simp,(List.mem_singleton.1 h).symm⟩
 .show mV s.low v _ v<=s.met v
  rw[Cf];have:=R.RT;omega
 .show mV s.low v _ v<=s.met y
  rw[Cf]
  rcases List.mem_append.1 hf with h|h
  .have:=R.NZ f h y zP hi;omega
  rw[List.mem_singleton.1 h] at hi
  rcases hj.of hi with rfl|rfl
  .exact absurd C.new (C.mP _ zP)
  omega
 .have h:mV s.low v (min (s.low v) (s.met (T d))) v<s.met v:=h
  show ∃f∈_,∃x y,_/\_/\_/\s.met y<=mV s.low v _ v
  rw[Cf] at h ⊢
  by_cases hm:s.low v<s.met (T d)
  .obtain⟨f,hf,x,y,a,b,c,e⟩:=R.RU (by omega)
   exact⟨f,List.mem_append_left _ hf,x,y,a,b,c,by omega⟩
  exact⟨d/2,by simp,v,T d,F5,hY,hj,by omega⟩
 rcases List.mem_append.1 hf with h|h
 .exact R.out f h z hz
 rw[List.mem_singleton.1 h]
 have cO:T d≠z:=fun e=>C.mP _ hY (by rw[e];exact hz.1)
 exact⟨T d,T d,hj.right,cO,hY,.refl ⟨.inr hY,cO⟩⟩
end
end Go.Proofs.YtnfdimfepbbbpaaGreat.Deep
