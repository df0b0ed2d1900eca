/-
  Texts joined by program: VJ5, VJ6, VK, VL, VM, VN, VO, VPM, VP, VQ, VR, VS, VU, VW, VX, GraphA, GraphB.
-/
import Derived.Test.YtnfdimfepbbbpaaGreatJAuditPlays2
import Derived.RangeFuncNested
import Derived.RangeFuncLeaves
import Derived.RangeFuncCalls
import Derived.OrdersIn
import Derived.TacticsIn
import Derived.Lib.SlicesCompact
set_option linter.unusedSimpArgs false
set_option linter.unusedVariables false
set_option maxRecDepth 100000
set_option maxHeartbeats 8000000
namespace Go.Proofs.YtnfdimfepbbbpaaGreat
open Go.RowKit
section
variable {P:Program}{o:bD}{n:Nat}{A A':bF}{S S' T:aL}{F G:Nat->Prop}{s:Nat->Option E2}{r:Nat->Option R2}{a:Act}{w w':World}{C:List (Nat×Bool)}{b:Nat}
theorem FZ {B:Nat}(H:cz o n A S F s r a w)(hF:∀j,b<=j->j<B->¬F j){op:Oper}{t:TypeId}{x y:Operand}{p q:Sy}{out:Out}(ho:op.op= .makeSlice t x y)(hx:a.eval x=p.den A)(hy:a.eval y=q.den A)
  (h:(rG P b t p q).run s r=some out) (cH:∀p∈out.cs,p) (hB:∀p∈out.re,p.1<B) {K:Act->World->Prop} {Q:Exit->Act->World->Prop} (k:∀v w',eO o n F s r a out v w'->K (a.put op.dst v) w'):op.wp P a w K Q:=by
 unfold rG at h
 split at h
 .rename_i l c
  split at h
  .rename_i ty z hty hz
   obtain⟨hg,h1⟩:=an h
   clear h
   obtain⟨bytes,FN,E⟩:=l9 hg
   have hzc:=xb hz
   obtain⟨x0,JY,YL,h2⟩:=nD (T:=S) (w:=w) (A:=A) (fun c hc j hj=>by rw[hzc c hc] at hj;cases hj) h1
   clear h1
   have e:=aW h2
   subst e
   obtain⟨c1,c2,c3⟩:0<=l/\l<=c/\c<=2147483647:=cH _ (List.mem_singleton.2 rfl)
   obtain⟨w',zv,m1,m2,m3,m4,m5⟩:=Q7 (P:=P) (w:=w) E (kl:=.i64) (kc:=.i64) c1 c2 FN c3
   have xh:(aJ z).map (Sc.den A)=zv.cells.toList:=by
    obtain⟨inf,tU,hzv⟩:=Option.bind_eq_some_iff.1 m1
    unfold wN at hz
    rw[tU] at hz
    simp only at hz
    rw[hzv] at hz
    cases hz
    cases zv with
    |agg cs=>show(cs.toList.map kY).map (Sc.den A)=_;rw[List.map_map,show(Sc.den A∘kY)=id from funext fun v=>oL A v];simp[Value.cells]
    |_=>first|(show[Sc.den A (kY _)]=_;rw[oL];rfl)
   rw[xh] at JY
   have hx:a.eval x= .int .i64 l:=hx
   have hy:a.eval y= .int .i64 c:=hy
   have e2:(execOp a.eval op).run P w= .ok (.value (.slice (some ⟨w.heap.size,0,none⟩) l.toNat c.toNat)) w':=by
    simp only[execOp,ho,Sem.run_bind,hx,hy,m3];rfl
   have nB:=hF b (Nat.le_refl _) (hB _ (List.mem_singleton.2 rfl))
   have XW:l.toNat<=c.toNat:=by omega
   have cw:zv.cells.size=aH ty:=m2
   subst m4
   have k9:cC S w ((madeCells zv.cells (c.toNat*aH ty)).toList.take (l.toNat*aH ty)) (List.replicate l.toNat x0):=by
    have:=MD XW JY
    rw[cw] at this;exact this
   obtain⟨A',k1,k2⟩:=H.Dw (b:=b) (w':=w.alloc (.cells (madeCells zv.cells (c.toNat*HG ty)) (P.elem t))) (v:=.slice none 0 0) (v':=.slice (some ⟨w.heap.size,0,none⟩) l.toNat c.toNat) (e:=P.elem t) (m:=List.replicate l.toNat x0) (old:=none) nB rfl
    ⟨rfl,rfl,rfl,by simp,fun k hk _=>heap_alloc_old w _ hk⟩ (m5.as (b7 ty) (List.length_replicate (n:=l.toNat) (a:=x0)).symm) (fun hk=>k9.keep hk) (fun c hc=>.inr (by cases hc;exact⟨Nat.le_refl _,by simp⟩))
   exact bG e2 (k _ _ ⟨A',S,k1,k2,.inr ⟨_,List.mem_cons_self⟩,tv⟩)
  cases h
 cases h
theorem cz.MY (H:cz o n A S F s r a w)(hF:¬F b){k:Kc}{ty:Ty}{m:bl k (El ty)}{lf:bI k->Bool}{cnt:Nat}(hw:w.grownBy w' none)(cw:w'.heap.size=w.heap.size+1)(hi:Bm S w' w.heap.size m lf cnt none\/sq w' w.heap.size m lf (none:Option (bI k×El ty))):
  ∃A',cz o n A' S (FU F [(b,some (.iter k ty m lf cnt none))]) s (aT r [(b,some (.iter k ty m lf cnt none))]) a w'/\A'.b b=w.heap.size:=by
 have uJ:=cV.set (A:=A) hF none 0 0 w.heap.size
 have hbb:(A.set b none 0 0 w.heap.size).b b=w.heap.size:=bF.wL A b none 0 0 w.heap.size
 refine⟨A.set b none 0 0 w.heap.size,H.swap uJ (S':=S) (fun _=>False) (fun _ q=>q.elim) ((jH.of hw).mono fun _ q=>by cases q) (fun _ q=>q) (fun _ q=>.inl q) (fun d z hz=>?_) (fun d d' z z' bb h1 h2 _ _=>by cases List.mem_singleton.1 h1;cases List.mem_singleton.1 h2;rfl),hbb⟩
 cases List.mem_singleton.1 hz
 refine⟨tv,tv,rfl,?_,fun c hc=>?_⟩
 .show Bm S w' ((A.set b none 0 0 w.heap.size).b b) m lf cnt none\/sq w' ((A.set b none 0 0 w.heap.size).b b) m lf none
  rw[hbb];exact hi
 have hc:c=(A.set b none 0 0 w.heap.size).b b:=hc
 rw[hbb] at hc
 exact⟨.inr (by omega),by omega⟩
theorem DD {B:Nat}(H:cz o n A S F s r a w)(hF:∀j,b<=j->j<B->¬F j){op:Oper}{t:TypeId}{x:Operand}{p:Sy}{out:Out}(ho:op.op= .range t x)(hx:a.eval x=p.den A)
  (h:(FR P b t p).run s r=some out) (hB:∀p∈out.re,p.1<B) {K:Act->World->Prop} {Q:Exit->Act->World->Prop} (k:∀v w',eO o n F s r a out v w'->K (a.put op.dst v) w'):op.wp P a w K Q:=by
 have exec:∀ {u:Value} {w'':World},a.eval x=u->(Instr.range t u).run P w= .ok (.pointer (some ⟨w.heap.size,0,none⟩)) w''->(execOp a.eval op).run P w= .ok (.value (.pointer (some ⟨w.heap.size,0,none⟩))) w'':=fun h1 h2=>by
  simp only[execOp,ho,Sem.run_bind,h1,h2];rfl
 unfold FR at h
 split at h
 .rename_i j
  split at h
  .rename_i kt et hu
   obtain⟨re,hz,hl,h1⟩:=lE _ _ h
   clear h
   obtain⟨S',hS,H'⟩:=H.freeze hz
   obtain⟨R,hR,h2⟩:=aY h1
   clear h1
   split at h2
   .rename_i kc ty m hm
    obtain⟨hg,h3⟩:=an h2
    clear h2
    simp only[Bool.and_eq_true] at hg
    obtain⟨⟨g1,g2⟩,g3⟩:=hg
    have hk:=fT g1
    have e:=aW h3
    subst e
    have hx:a.eval x= .map (A.m j):=hx
    have nB:=hF b (Nat.le_refl _) (hB _ List.mem_cons_self)
    have gz:Rd S' w (.map (A.m j)) m:=by
     refine(mc H hz hS H' hl _ List.mem_cons_self j rfl R hR).m kc ty m ?_
     cases R<;>first|exact hm|(cases hm;done)|skip
     all_goals (rename_i z;cases z<;>cases hm)
    obtain⟨x',Ad,oA⟩:=rB gz
    have Ad:A.m j=x':=by injection Ad
    have fin:∀ {w'':World},w.grownBy w'' none->w''.heap.size=w.heap.size+1->(Instr.range t (.map (A.m j))).run P w= .ok (.pointer (some ⟨w.heap.size,0,none⟩)) w''->
      (Bm S' w'' w.heap.size m (fun x=>(aI (show List (bI kc×El ty) from m) x).isSome) (show List (bI kc×El ty) from m).length none\/sq w'' w.heap.size m (fun x=>(aI (show List (bI kc×El ty) from m) x).isSome) (none:Option (bI kc×El ty)))->op.wp P a w K Q:=by
     intro w'' q1 q2 q3 q4
     obtain⟨A',k1,k2⟩:=H'.MY (b:=b) nB q1 q2 q4
     rw[<-dz] at k1
     refine bG (exec hx q3) (k _ _ ⟨A',S',k1.agree (cV.refl _ _) fun c hc=>FU.mono (fun p hp=>by rw[List.mem_singleton.1 hp];exact List.mem_cons_self) hc,?_,.inr ⟨_,List.mem_cons_self⟩,tv⟩)
     show _=Value.pointer (some ⟨A'.b b,0,none⟩)
     rw[k2]
    subst Ad
    cases XZ:A.m j with
    |none=>
     rw[XZ] at oA
     have oA:m=([]:List (bI kc×El ty)):=oA
     subst oA
     refine fin (w'':=w.alloc (.mapIter none 0 #[] 0)) ⟨rfl,rfl,rfl,by simp,fun k hk _=>heap_alloc_old w _ hk⟩ (by simp) (by rw[XZ];exact zO hu) (.inr ⟨rfl,rfl,fun _=>rfl,0,#[],0,heap_alloc_new w _⟩)
    |some dM=>
     rw[XZ] at oA
     obtain⟨hSb,zs,n1,n2,n3⟩:=oA
     obtain⟨w'',q1,q2,q3,q4⟩:=n1.range hu hk
     have HE:(fun x=>(aI (zs.map fun q=>(q.1,q.2.1)) x).isSome)=fun x=>(aI (show List (bI kc×El ty) from m) x).isSome:=by
      funext x
      have e1:aI (zs.map fun q=>(q.1,q.2.1)) x=(aI zs x).map (·.1):=eR (fun y:Value×El ty=>y.1) zs x
      have e2:aI (show List (bI kc×El ty) from m) x=(aI zs x).map (·.2):=by rw[n2];exact eR (fun y:Value×El ty=>y.2) zs x
      rw[e1,e2];cases aI zs x<;>rfl
     have hlen:(zs.map fun q=>(q.1,q.2.1)).length=(show List (bI kc×El ty) from m).length:=by rw[n2];simp
     rw[HE,hlen] at q2
     have Um:cN S' w w'':=fun c hc=>q3.block c (H'.bB.ig c hc) fun q=>by cases q
     exact fin q3 q4 (by rw[XZ];exact q1) (.inl ⟨dM,zs,none,hSb,q2,n2,fun z hz=>(n3 z hz).keep Um,rfl,fun _ q=>by cases q⟩)
   cases h2
  cases h
 .split at h
  .rename_i kt et kc ty hu hc
   have e:=aW h
   subst e
   have nB:=hF b (Nat.le_refl _) (hB _ List.mem_cons_self)
   have hx:a.eval x= .map none:=hx
   obtain⟨A',k1,k2⟩:=H.MY (b:=b) (w':=w.alloc (.mapIter none 0 #[] 0)) (k:=kc) (ty:=ty) (m:=([]:List (bI kc×El ty))) (lf:=fun _=>false) (cnt:=0) nB ⟨rfl,rfl,rfl,by simp,fun k hk _=>heap_alloc_old w _ hk⟩ (by simp) (.inr ⟨rfl,rfl,fun _=>rfl,0,#[],0,heap_alloc_new w _⟩)
   refine bG (exec hx (zO hu)) (k _ _ ⟨A',S,k1,?_,.inr ⟨_,List.mem_cons_self⟩,tv⟩)
   show _=Value.pointer (some ⟨A'.b b,0,none⟩)
   rw[k2]
  cases h
 cases h
theorem Ae {k:Kc}(x:bI k):(uQ k x).den A=fJ k x:=by cases k<;>rfl
theorem pV {k:Kc}(x:bI k):(uQ k x).all F/\(uQ k x).b9 A:=by cases k<;>exact⟨tv,tv⟩
theorem F1 {B:Nat}(H:cz o n A S F s r a w)(hF:∀j,b<=j->j<B->¬F j){op:Oper}{x:Operand}{p:Sy}{out:Out}(ho:op.op= .entry x)(hx:a.eval x=p.den A)
  (h:(FT b p).run s r=some out) (hB:∀p∈out.re,p.1<B) {K:Act->World->Prop} {Q:Exit->Act->World->Prop} (k:∀v w',eO o n F s r a out v w'->K (a.put op.dst v) w'):op.wp P a w K Q:=by
 unfold FT at h
 split at h
 .rename_i j
  obtain⟨R,hR,h2⟩:=aY h
  clear h
  split at h2
  .rename_i kc ty m lf cnt e
   have e0:=aW h2
   subst e0
   have hm:bq A r j=some (Fz (A.b j) m lf cnt (some e)):=by show(r j).map _=_;rw[hR];rfl
   rcases H.bB.ok j _ hm with⟨mb,zs,cu,h1,h3,h4,h5,h6,h7⟩|⟨_,h6,_⟩
   .cases YG:cu with
    |none=>rw[YG] at h6;cases h6
    |some q=>
     rw[YG] at h6 h3
     have hq:e=(q.1,q.2.2):=by simpa using h6
     have gz:=h7 q YG
     have bY:=h3.2 q.1 q.2.1 rfl P w rfl rfl
     obtain⟨vs,LO,hv⟩:=jx gz
     subst hq
     obtain⟨A',k1,k2,k3,k4⟩:=fq (o:=o) (S:=S) (w:=w) (k:=true) _ vs b A F LO hF hB
     have hx:a.eval x= .pointer (some ⟨A.b j,0,none⟩):=hx
     have e2:(execOp a.eval op).run P w= .ok (.value (.tuple #[fJ kc q.1,q.2.1])) w:=by
      simp only[execOp,ho,Sem.run_bind,hx,bY];rfl
     refine bG e2 (k _ _ ⟨A',S,H.ro k1 k3,?_,fun p hp c hc=>?_,fun p hp c hc=>?_⟩)
     .show Value.tuple #[_,_]=Value.tuple #[eX A' (false,[uQ kc q.1]),eX A' (cI ty,(bu true b (bg ty q.2.2)).1)]
      unfold eX
      simp only[List.map_cons,List.map_nil,Ae,k2,Bool.false_eq_true,if_false,List.headD_cons]
      rw[hv]
     .rcases List.mem_cons.1 hp with rfl|hp
      .have:=List.mem_singleton.1 hc;subst this;exact(pV (A:=A) q.1).1
      have:=List.mem_singleton.1 hp;subst this;exact(k4 c hc).1
     rcases List.mem_cons.1 hp with rfl|hp
     .have:=List.mem_singleton.1 hc;subst this;exact(pV (F:=F) q.1).2
     have:=List.mem_singleton.1 hp;subst this;exact(k4 c hc).2
   cases h6
  cases h2
 cases h
end
section
variable {P:Program}{o:bD}{n:Nat}{A A':bF}{S S' T:aL}{F G:Nat->Prop}{s:Nat->Option E2}{r:Nat->Option R2}{a:Act}{w w':World}{C:List (Nat×Bool)}{b:Nat}
theorem YP {S:aL}{w:World}{v:Value}{x:Int}(h:Rd S w v x):v= .int .i64 x:=by
 obtain⟨cs,h1,rfl⟩:=h
 have h1:cs=[.int .i64 x]:=h1
 subst h1;rfl
theorem Un {S:aL}{w:World}(x:Int):Rd S w (.int .i64 x) x:=⟨[.int .i64 x],rfl,rfl⟩
theorem MZ {B:Nat}(H:cz o n A S F s r a w)(hF:∀j,b<=j->j<B->¬F j){op:Oper}{t:TypeId}{m x:Operand}{p q:Sy}{out:Out}(ho:op.op= .mapEntry t m x)(hm:a.eval m=p.den A)(hx:a.eval x=q.den A)
  (h:(Vv P b t p q).run s r=some out) (cH:∀p∈out.cs,p) (mg:∀h∈out.hs,∀A w,h.lhs A w=h.rhs A w) (hB:∀p∈out.re,p.1<B) {K:Act->World->Prop} {Q:Exit->Act->World->Prop} (k:∀v w',eO o n F s r a out v w'->K (a.put op.dst v) w'):op.wp P a w K Q:=by
 unfold Vv at h
 split at h
 .rename_i kt et j hu
  obtain⟨R,hR,h⟩:=aY h
  split at h
  .rename_i kc mm
   split at h
   .rename_i kx Mx
    obtain⟨hk,h2⟩:=an h
    clear h
    have hk:=fT hk
    have e:=aW h2
    subst e
    have hq:q.den A=fJ kc kx:=mh Mx
    have hm:a.eval m= .map (A.m j):=hm
    have hw:dc kc kx:=cH _ List.mem_cons_self
    have hlen:(show List (bI kc×Int) from mm).length<=2147483647:=cH _ (List.mem_cons_of_mem _ List.mem_cons_self)
    have hz:(zeroValue et).run P w= .ok (.int .i64 0) w:=mg _ List.mem_cons_self A w
    have dX:bq A r j=some (qO (A.m j) (show bl kc Int from mm)):=by show(r j).map _=_;rw[hR];rfl
    obtain⟨dM,hb,zs,h2,h3,h4⟩:=H.bB.ok j _ dX
    have h3:(show List (bI kc×Int) from mm)=zs.map fun q=>(q.1,q.2.2):=h3
    have iJ:=H.bB.own j _ dM dX hb
    obtain⟨st,w',bY,Ls,hE,hG,cw⟩:=h2.entry hu hk (by rw[List.length_map];rw[h3] at hlen;simpa using hlen) hz hw
    generalize hd:(aI (show List (bI kc×Int) from mm) kx).getD 0=d at*
    have hold:(aI (zs.map fun q=>(q.1,q.2.1)) kx).getD (.int .i64 0)= .int .i64 d:=by
     have e1:aI (zs.map fun q=>(q.1,q.2.1)) kx=(aI zs kx).map (·.1):=eR (fun y:Value×Int=>y.1) zs kx
     have e2:aI (show List (bI kc×Int) from mm) kx=(aI zs kx).map (·.2):=by rw[h3];exact eR (fun y:Value×Int=>y.2) zs kx
     rw[<-hd,e1,e2]
     cases hl:aI zs kx with
     |none=>rfl
     |some z=>exact YP (h4 _ (je hl))
    rw[hold] at bY Ls
    have nB:=hF b (Nat.le_refl _) (hB _ (List.mem_cons_of_mem _ List.mem_cons_self))
    have xd:(execOp a.eval op).run P w= .ok (.value (.tuple #[.int .i64 d,.int .i64 st])) w':=by
     simp only[execOp,ho,Sem.run_bind,hm,hx,hq,hb,bY];rfl
    have qP:cN S w w':=fun q hq=>hG.block q (H.bB.ig q hq) fun e=>by cases e;exact iJ.2.2 hq
    have hA:=cV.dF (A:=A) nB (fun _=>Value.int .i64 st)
    have VA:lB S w' dM (show bl kc Int from gu (show List (bI kc×Int) from mm) kx d):=⟨gu zs kx (.int .i64 d,d),by rw[jr (fun y:Value×Int=>y.1)];exact Ls,by rw[jr (fun y:Value×Int=>y.2),h3],fun y hy=>by
     rcases oJ.1 hy with rfl|⟨hy,_⟩
     .exact Un d
     exact(h4 y hy).keep qP⟩
    have H2:=H.swap hA (w':=w') (S':=S) (re:=[(j,some (.ext (.De b kc .int (gu (show List (bI kc×Int) from mm) kx d) kx))),(b,none)]) (fun c=>c=j) (fun c hc=>by rw[show c=j from hc];exact⟨_,List.mem_cons_self⟩)
     ((jH.of hG).mono fun c hc=>⟨j,_,rfl,hR,by cases hc;exact hb⟩) (fun _ q=>q) (fun _ q=>.inl q) (fun c y hy=>by
      rcases List.mem_cons.1 hy with e|hy
      .cases e
       refine⟨.inr ⟨none,List.mem_cons_of_mem _ List.mem_cons_self⟩,tv,rfl,⟨dM,hb,VA,st,by rw[bF.jJ],hE⟩,fun c hc=>?_⟩
       have hc:A.m j=some c:=hc
       rw[hb] at hc;cases hc
       exact⟨.inl ⟨j,_,rfl,hR,hb⟩,by rw[cw];exact iJ.2.1⟩
      .cases List.mem_singleton.1 hy) (fun c c' y y' bb q1 q2 _ _=>by
      rcases List.mem_cons.1 q1 with e|q1
      .rcases List.mem_cons.1 q2 with e'|q2
       .cases e;cases e';rfl
       cases List.mem_singleton.1 q2
      cases List.mem_singleton.1 q1)
    refine bG xd (k _ _ ⟨_,S,H2,?_,?_,?_⟩)
    .show Value.tuple #[.int .i64 d,.int .i64 st]=Value.tuple #[.int .i64 d,(A.dF b (fun _=>Value.int .i64 st)).f b _]
     rw[bF.jJ]
    .intro q hq c hc
     rcases List.mem_cons.1 hq with rfl|hq
     .have:=List.mem_singleton.1 hc;subst this;trivial
     have:=List.mem_singleton.1 hq;subst this
     have:=List.mem_singleton.1 hc;subst this
     exact⟨.inl (H.dD j _ hR).1,.inr ⟨none,List.mem_cons_of_mem _ List.mem_cons_self⟩⟩
    intro q hq c hc
    rcases List.mem_cons.1 hq with rfl|hq
    .have:=List.mem_singleton.1 hc;subst this;trivial
    have:=List.mem_singleton.1 hq;subst this
    have:=List.mem_singleton.1 hc;subst this
    trivial
   cases h
  cases h
 cases h
theorem F3 (H:cz o n A S F s r a w){op:Oper}{t:TypeId}{m x y:Operand}{p q z:Sy}{out:Out}(ho:op.op= .entryStore t m x y)(hm:a.eval m=p.den A)(hx:a.eval x=q.den A)(hy:a.eval y=z.den A)
  (h:(FQ P t p q z).run s r=some out) (cH:∀p∈out.cs,p) {K:Act->World->Prop} {Q:Exit->Act->World->Prop} (k:∀v w',eO o n F s r a out v w'->K (a.put op.dst v) w'):op.wp P a w K Q:=by
 unfold FQ at h
 split at h
 .rename_i kt et j jj qq kc kx nn hu
  obtain⟨R,hR,h⟩:=aY h
  split at h
  .rename_i q' k' mm QF
   obtain⟨hg,h2⟩:=an h
   clear h
   rw[Bool.and_eq_true] at hg
   have hk:=fT hg.1
   have hqq:=cr hg.2
   subst hqq
   have e:=aW h2
   subst e
   have JT:cU kc kx=cU k' QF:=cH _ List.mem_cons_self
   have hw:dc k' QF:=cH _ (List.mem_cons_of_mem _ List.mem_cons_self)
   have hlen:(show List (bI k'×Int) from mm).length<=2147483647:=cH _ (List.mem_cons_of_mem _ (List.mem_cons_of_mem _ List.mem_cons_self))
   have hm:a.eval m= .map (A.m j):=hm
   have hy:a.eval y= .int .i64 nn:=hy
   have dX:bq A r j=some (Ua (A.m j) (A.f qq) (show bl k' Int from mm) QF):=by show(r j).map _=_;rw[hR];rfl
   obtain⟨dM,hb,⟨zs,h2,h3,h4⟩,st,hf,hE⟩:=H.bB.ok j _ dX
   have h3:(show List (bI k'×Int) from mm)=zs.map fun q=>(q.1,q.2.2):=h3
   have iJ:=H.bB.own j _ dM dX hb
   have hx:a.eval x= .int .i64 st:=by
    rw[hx]
    show A.f qq (cU kc kx)=_
    rw[JT];exact hf
   obtain⟨w',bY,Ls,hG,cw⟩:=h2.entryStore hu hk (by rw[List.length_map];rw[h3] at hlen;simpa using hlen) hw hE (.int .i64 nn)
   have xd:(execOp a.eval op).run P w= .ok .skip w':=by
    simp only[execOp,ho,Sem.run_bind,hm,hx,hy,hb,bY];rfl
   have qP:cN S w w':=fun q hq=>hG.block q (H.bB.ig q hq) fun e=>by cases e;exact iJ.2.2 hq
   have VA:lB S w' dM (show bl k' Int from gu (show List (bI k'×Int) from mm) QF (show Int from nn)):=⟨gu zs QF (.int .i64 nn,nn),by rw[jr (fun y:Value×Int=>y.1)];exact Ls,by rw[jr (fun y:Value×Int=>y.2),h3],fun y hy=>by
    rcases oJ.1 hy with rfl|⟨hy,_⟩
    .exact Un nn
    exact(h4 y hy).keep qP⟩
   unfold Oper.wp
   rw[xd]
   refine k undef _ ?_
   have H2:=H.swap (cV.refl _ _) (w':=w') (S':=S) (re:=[(j,some (.map k' .int (gu (show List (bI k'×Int) from mm) QF (show Int from nn))))]) (fun c=>c=j) (fun c hc=>by rw[show c=j from hc];exact⟨_,List.mem_singleton.2 rfl⟩)
    ((jH.of hG).mono fun c hc=>⟨j,_,rfl,hR,by cases hc;exact hb⟩) (fun _ q=>q) (fun _ q=>.inl q) (fun c y hy=>by
     cases List.mem_singleton.1 hy
     refine⟨tv,tv,rfl,⟨dM,hb,VA⟩,fun c hc=>?_⟩
     have hc:A.m j=some c:=hc
     rw[hb] at hc;cases hc
     exact⟨.inl ⟨j,_,rfl,hR,hb⟩,by rw[cw];exact iJ.2.1⟩) (fun c c' y y' bb q1 q2 _ _=>by cases List.mem_singleton.1 q1;cases List.mem_singleton.1 q2;rfl)
   exact⟨A,S,H2,rfl,tv,tv⟩
  cases h
 cases h
end
section
variable {P:Program}{o:bD}{n:Nat}{A A':bF}{S S':aL}{F G:Nat->Prop}{s:Nat->Option E2}{r:Nat->Option R2}{a:Act}{w w':World}{C:List (Nat×Bool)}{b:Nat}
theorem tW {B:Nat}(H:cz o n A S F s r a w)(hF:∀j,b<=j->j<B->¬F j){op:Oper}{c:Call}{t:TypeId}{x y:Operand}{q:Sy}{ty:Ty}{e:TypeId}{l:List (El ty)}{ps:List Prop}{old:Option (Nat×Option R2)}{v:Value}{out:Out}(ho:op.op= .call c)(iW:c.callee= .builtin .append)(dB:c.args.toList=[x,y])(wD:c.argTypes.toList=[t,t])
  (hx:a.eval x=v) (hy:a.eval y=q.den A) (hv:(∀p∈ps,p)->(∃xs,ga w e (Data.size (El ty)) v l.length xs/\cC S w xs l)/\Dv A S F w r v old) (h:(FO P b t ty e l ps old.toList q).run s r=some out) (cH:∀p∈out.cs,p) (hB:∀p∈out.re,p.1<B)
  {K:Act->World->Prop} {Q:Exit->Act->World->Prop} (k:∀v w',eO o n F s r a out v w'->K (a.put op.dst v) w'):op.wp P a w K Q:=by
 have ha:c.args= #[x,y]:=by apply Array.ext';exact dB
 have hb:c.argTypes= #[t,t]:=by apply Array.ext';exact wD
 unfold FO at h
 cases hu:P.underlying t with
 |none=>
  exfalso
  have key:∀ {q:Sy} {out:Out},(J2 ty (fun qs m=>aZ (gm P t e (HG ty)) (.ret ⟨(l.length+m.length<=2147483647)::(ps++qs),[],.one (.own b),(b,some (.row e ty (l++m)))::old.toList⟩)) q).run s r=some out->False:=by
   intro q out h
   have hg:gm P t e (HG ty)=false:=by unfold gm;rw[hu]
   rw[hg] at h
   unfold J2 at h
   split at h
   .obtain⟨Y,hY,h⟩:=aY h
    split at h
    .split at h
     .obtain⟨_,h⟩:=an h;cases h
     cases h
    cases h
   .obtain⟨Y,hY,h⟩:=aY h
    split at h
    .split at h
     .obtain⟨_,h⟩:=an h;cases h
     cases h
    cases h
   .cases h
   cases h
  exact key h
 |some d=>
  have main:∀ {e':TypeId},d= .slice e'->op.wp P a w K Q:=by
   intro e' hd
   subst hd
   obtain⟨qs,m,h1,h2⟩:=MJ H hu h
   clear h
   obtain⟨hg,h3⟩:=an h1
   clear h1
   have e0:=aW h3
   subst e0
   obtain⟨bytes,FN,E⟩:=l9 hg
   rw[L7] at E
   have JF:∀p∈ps,p:=fun p hp=>cH p (List.mem_cons_of_mem _ (List.mem_append_left _ hp))
   have hqs:∀p∈qs,p:=fun p hp=>cH p (List.mem_cons_of_mem _ (List.mem_append_right _ hp))
   obtain⟨k1,k2⟩:=hv JF
   obtain⟨v',w',r1,A',r2,r3⟩:=Q8 H (hF b (Nat.le_refl _) (hB _ List.mem_cons_self)) E FN k1 k2 (h2 hqs) (cH _ List.mem_cons_self) op.type
   have e2:(execOp a.eval op).run P w= .ok (.value v') w':=by
    unfold execOp
    simp only[ho,resolve,iW,ha,hb,invoke,builtin,Sem.run_bind,Sem.run_pure,Result.andThen_ok,List.map_toArray,List.map_cons,List.map_nil,hx,hy,r1]
   exact bG e2 (k _ _ ⟨A',S,r2,r3,.inr ⟨_,List.mem_cons_self⟩,tv⟩)
  cases d with
  |slice e'=>exact main rfl
  |_=>
   exfalso
   have hg:gm P t e (HG ty)=false:=by unfold gm;rw[hu]
   rw[hg] at h
   unfold J2 at h
   split at h
   .obtain⟨Y,hY,h⟩:=aY h
    split at h
    .split at h
     .obtain⟨_,h⟩:=an h;cases h
     cases h
    cases h
   .obtain⟨Y,hY,h⟩:=aY h
    split at h
    .split at h
     .obtain⟨_,h⟩:=an h;cases h
     cases h
    cases h
   .cases h
   cases h
theorem Af {k:Ty->Tr Out}{q:Sy}{out:Out}(h:(HN k q).run s r=some out):∃ty,(k ty).run s r=some out:=by
 unfold HN at h
 split at h
 .obtain⟨Y,hY,h⟩:=aY h
  split at h
  .exact⟨_,h⟩
  cases h
 .obtain⟨Y,hY,h⟩:=aY h
  split at h
  .exact⟨_,h⟩
  cases h
 cases h
theorem M0 {B:Nat}(H:cz o n A S F s r a w)(hF:∀j,b<=j->j<B->¬F j){op:Oper}{c:Call}{t:TypeId}{x y:Operand}{p q:Sy}{out:Out}(ho:op.op= .call c)(iW:c.callee= .builtin .append)(dB:c.args.toList=[x,y])(wD:c.argTypes.toList=[t,t])
  (hx:a.eval x=p.den A) (hy:a.eval y=q.den A) (h:(Vu P b t p q).run s r=some out) (cH:∀p∈out.cs,p) (hB:∀p∈out.re,p.1<B)
  {K:Act->World->Prop} {Q:Exit->Act->World->Prop} (k:∀v w',eO o n F s r a out v w'->K (a.put op.dst v) w'):op.wp P a w K Q:=by
 have ha:c.args= #[x,y]:=by apply Array.ext';exact dB
 have hb:c.argTypes= #[t,t]:=by apply Array.ext';exact wD
 have YQ:∀ {ty:Ty} {q:Sy},p= .one (.v (.slice none 0 0))->a.eval y=q.den A->(FO P b t ty (P.elem t) [] [] [] q).run s r=some out->op.wp P a w K Q:=fun {ty q'} e Kb h'=>by
  subst e
  exact tW (q:=q') (old:=none) H hF ho iW dB wD hx Kb (fun _=>⟨⟨[],ga.nil w _ _,cC.nil _ _⟩,rfl⟩) h' cH hB k
 have nest:∀ {v:Value} {old:Option Nat} {i qi:Nat} {e e' ie:TypeId} {ty:Ty} {l m:List (El ty)},a.eval x=v->a.eval y=A.v i->gm P t e (HG ty)=true->
   (match old with
   |some j=>v=A.v j/\∃qf,r j=some (.ext (.nest qf none e ty ie l))
   |none=>v= .slice none 0 0/\l=[])->r i=some (.ext (.nest qi none e' ty ie m))->old≠some i->l.length+m.length<=2147483647->∀cs hs,out=⟨cs,hs,.one (.own b),(b,some (.ext (.nest b none e ty ie (l++m))))::(old.toList.map (fun j=>(j,none))++[(i,none)])⟩->op.wp P a w K Q:=by
  intro v old i qi e e' ie ty l m hx hy hg hold hi dL hlen cs hs e0
  subst e0
  obtain⟨bytes,FN,E⟩:=l9 hg
  obtain⟨v',w',r1,A',r2,r3⟩:=Re H (hF b (Nat.le_refl _) (hB _ List.mem_cons_self)) E FN hold hi dL hlen op.type
  have e2:(execOp a.eval op).run P w= .ok (.value v') w':=by
   unfold execOp
   simp only[ho,resolve,iW,ha,hb,invoke,builtin,Sem.run_bind,Sem.run_pure,Result.andThen_ok,List.map_toArray,List.map_cons,List.map_nil,hx,hy,r1]
  exact bG e2 (k _ _ ⟨A',S,r2,r3,.inr ⟨_,List.mem_cons_self⟩,tv⟩)
 unfold Vu at h
 split at h
 .split at h
  .rename_i i
   obtain⟨Y,hY,h2⟩:=aY h
   clear h
   split at h2
   .rename_i qi e ty ie m
    obtain⟨hg,h3⟩:=an h2
    have e0:=aW h3
    have hlen:m.length<=2147483647:=cH _ (by rw[e0];exact List.mem_singleton.2 rfl)
    exact nest (old:=none) (l:=[]) hx hy hg ⟨rfl,rfl⟩ hY (by simp) (by simpa using hlen) _ _ e0
   obtain⟨ty,h3⟩:=Af h2
   exact YQ rfl hy h3
  obtain⟨ty,h3⟩:=Af h
  exact YQ rfl hy h3
 .rename_i j
  obtain⟨X,hX,h2⟩:=aY h
  clear h
  split at h2
  .rename_i e ty l
   refine tW (old:=some (j,none)) (v:=A.v j) H hF ho iW dB wD hx hy (fun _=>⟨H.bB.ok j (ob e (A.v j) l) (by show(r j).map _=_;rw[hX];rfl),⟨_,hX,fun c hc=>hc,fun z q=>by cases q⟩⟩) h2 cH hB k
  .rename_i qf e ty ie l
   split at h2
   .rename_i i
    obtain⟨Y,hY,h3⟩:=aY h2
    clear h2
    split at h3
    .rename_i qi e' zW FP m
     split at h3
     .rename_i m' Vy
      obtain⟨hg,h4⟩:=an h3
      clear h3
      obtain⟨et,oT⟩:=dZ Vy
      have et:zW=ty:=by injection et
      subst et
      have oT:m=m':=oT
      subst oT
      simp only[Bool.and_eq_true] at hg
      obtain⟨g1,g2,g3⟩:=hg
      have g2:=cr g2
      subst g2
      have e0:=aW h4
      have hlen:l.length+m.length<=2147483647:=cH _ (by rw[e0];exact List.mem_singleton.2 rfl)
      exact nest (old:=some j) hx hy g1 ⟨rfl,qf,hX⟩ hY (fun q=>by cases q;simp at g3) hlen _ _ e0
     cases h3
    cases h3
   cases h2
  cases h2
 .rename_i j qf Ad
  obtain⟨Y,hY,h2⟩:=aY h
  clear h
  split at h2
  .rename_i I hI
   refine tW (old:=some (j,some I.z)) (v:=A.f qf Ad.lit) H hF ho iW dB wD hx hy (fun hp=>?_) h2 cH hB k
   obtain⟨q1,q2,q3,q4,q5,q6,q7⟩:=Uk H hY hI hp
   exact⟨q1,_,hY,q2,fun z e=>by cases e;exact⟨q3,q4,q5,q6,q7⟩⟩
  cases h2
 cases h
theorem DE {R:Sc->Prop}{fs:Array Field}:∀ {l:List (Nat×Sy)} {cs sk:List Sc},(∀p∈l,∀c∈aJ p.2,R c)->(∀c∈cs,R c)->Bv fs l cs=some sk->∀c∈sk,R c
 |[],cs,sk,_,h,e=>by cases e;exact h
 |(i,y)::l,cs,sk,hl,h,e=>by
  simp only[Bv] at e
  split at e
  .rename_i fd _
   refine DE (fun p hp=>hl p (List.mem_cons_of_mem _ hp)) (fun c hc=>?_) e
   rcases List.mem_append.1 hc with hc|hc
   .rcases List.mem_append.1 hc with hc|hc
    .exact h c (List.mem_of_mem_take hc)
    exact hl (i,y) (by simp) c hc
   exact h c (List.mem_of_mem_drop hc)
  cases e
theorem M1 {B:Nat}{T:List (cE P)}{md:Bool}(H:cz o n A S F s r a w)(hC:jd a C)(hF:∀j,b<=j->j<B->¬F j){op:Oper}{out:Out}(h:(XX P T C md b op.op).run s r=some out)(cH:∀p∈out.cs,p)(mg:∀h∈out.hs,∀A w,h.lhs A w=h.rhs A w)(hB:∀p∈out.re,p.1<B)
  {K:Act->World->Prop} {Q:Exit->Act->World->Prop} (k:∀v w',eO o n F s r a out v w'->K (a.put op.dst v) w'):op.wp P a w K Q:=by
 have quiet:(jh P C b op.op).run s r=some out->op.wp P a w K Q:=by
  intro h
  obtain⟨⟨A',h1,h2,h3,h4,h5⟩,_⟩:=JU H hC hF h cH hB
  exact ML (h2 op rfl) (k _ _ ⟨A',S,H.ro h1 h5,rfl,h3,h4⟩)
 cases fk:op.op
 case box t x=>
  rw[fk] at h
  obtain⟨y,e1,e2,e3,h⟩:=aM H hC h
  have e:=aW h
  subst e
  have bY:=mg _ (List.mem_singleton.2 rfl) A w
  have e4:(execOp a.eval op).run P w= .ok (.value (.pointer (some ⟨w.heap.size,0,none⟩))) (w.alloc (.cells ((aJ y).map (Sc.den A)).toArray t)):=by
   simp only[Mt] at bY
   simp only[execOp,fk,Sem.run_bind,e1,bY]
   rfl
  have gp:∀c∈aJ y,c.all F/\c.b9 A:=by
   intro c hc
   cases y with
   |one c'=>have:=List.mem_singleton.1 hc;subst this;exact⟨e2,e3⟩
   |agg ds=>exact⟨e2 c hc,e3 c hc⟩
   |lY ps=>cases hc
  exact Dx H (hF b (Nat.le_refl _) (hB _ (List.mem_singleton.2 rfl))) (fun c hc=>(gp c hc).1) (fun c hc=>(gp c hc).2) e4 k
 case alloc t=>
  rw[fk] at h
  simp only[XX] at h
  split at h
  .split at h
   .rename_i z hz
    have e:=aW h
    subst e
    have bY:=mg _ (List.mem_singleton.2 rfl) A w
    have e4:(execOp a.eval op).run P w= .ok (.value (.pointer (some ⟨w.heap.size,0,none⟩))) (w.alloc (.cells ((z.cells.toList.map kY).map (Sc.den A)).toArray t)):=by
     simp only[Dn] at bY
     simp only[execOp,fk,Sem.run_bind,bY]
     rfl
    exact Dx H (hF b (Nat.le_refl _) (hB _ (List.mem_singleton.2 rfl))) (fun c hc=>by obtain⟨u,_,rfl⟩:=List.mem_map.1 hc;exact oM F u) (fun c hc=>by obtain⟨u,_,rfl⟩:=List.mem_map.1 hc;exact l7 A u) e4 k
   cases h
  cases h
 case buildSlice t len parts=>
  rw[fk] at h
  obtain⟨ys,f1,f2,h⟩:=oS H hC h
  refine J9 H hF fk ?_ h cH mg hB k
  rw[<-f1,List.map_map];rfl
 case build t parts=>
  rw[fk] at h
  obtain⟨ys,f1,f2,h⟩:=oS H hC h
  unfold Mu at h
  split at h
  .split at h
   .rename_i z hz
    split at h
    .rename_i cs yZ
     have e:=aW h
     subst e
     have bY:=mg _ (List.mem_singleton.2 rfl) A w
     simp only[Dp] at bY
     have ep:parts.map (fun x=>(x.1,a.eval x.2))=(((parts.toList.map (·.1)).zip ys).map fun y=>(y.1,y.2.den A)).toArray:=by
      apply Array.ext'
      rw[Array.toList_map]
      show _=((parts.toList.map (·.1)).zip ys).map fun y=>(y.1,y.2.den A)
      have:(((parts.toList.map (·.1)).zip ys).map fun y=>(y.1,y.2.den A))=(parts.toList.map (·.1)).zip (ys.map (Sy.den A)):=by
       rw[List.zip_map_right]
       rfl
      rw[this,<-f1,List.map_map,List.zip_map']
      rfl
     have e4:(execOp a.eval op).run P w= .ok (.value (.agg (cs.map (Sc.den A)).toArray)) w:=by
      rw[<-ep] at bY
      simp only[execOp,fk,Sem.run_bind]
      rw[show(Array.map (fun x=>match x with|(i,x)=>(i,a.eval x)) parts)=parts.map (fun x=>(x.1,a.eval x.2)) from rfl,bY]
      rfl
     have gp:∀c∈cs,c.all F/\c.b9 A:=DE (l:=(parts.toList.map (·.1)).zip ys) (fun p hp c hc=>by
      have hy:=f2 p.2 (List.of_mem_zip hp).2
      obtain⟨i,y⟩:=p
      cases y with
      |one c'=>have:=List.mem_singleton.1 hc;subst this;exact hy
      |agg ds=>exact⟨hy.1 c hc,hy.2 c hc⟩
      |lY ps=>cases hc) (fun c hc=>by obtain⟨u,_,rfl⟩:=List.mem_map.1 hc;exact⟨oM F u,l7 A u⟩) yZ
     exact bG e4 (k _ _ ⟨A,S,H.agree (cV.refl _ _) fun _ q=>.inl q,rfl,fun c hc=>Sc.mono (fun _ q=>.inl q) (gp c hc).1,fun c hc=>(gp c hc).2⟩)
    cases h
   cases h
  cases h
 case store t x y=>
  rw[fk] at h
  obtain⟨p,e1,e2,e3,h⟩:=aM H hC h
  obtain⟨q,f1,f2,f3,h⟩:=aM H hC h
  exact BH H hF fk e1 f1 ⟨f2,f3⟩ h cH hB k
 case call c=>
  rw[fk] at h
  simp only[XX] at h
  split at h
  .rename_i x iW
   obtain⟨p,e1,e2,e3,h⟩:=aM H hC h
   split at h
   .rename_i f cF
    split at h
    .rename_i Vr aaP
     obtain⟨hg,h⟩:=an h
     obtain⟨ys,f1,f2,h⟩:=oS H hC h
     have hf:Vr.f=f:=cr (by have:=List.find?_some aaP;exact this)
     exact FK (T:=T) H hF fk iW e1 hf (by simpa using hg) f1 f2 e2 h cH mg hB k
    cases h
   cases h
  .rename_i iW
   split at h
   .rename_i x y t t' dB wD
    obtain⟨hg,h2⟩:=an h
    have hg:=cr hg
    subst hg
    obtain⟨p,e1,e2,e3,h3⟩:=aM H hC h2
    obtain⟨q,f1,f2,f3,h⟩:=aM H hC h3
    exact M0 H hF fk iW dB wD e1 f1 h cH hB k
   cases h
  .rename_i iW
   split at h
   .rename_i x t dB wD _
    obtain⟨p,e1,e2,e3,h⟩:=aM H hC h
    exact JZ H fk iW dB wD e1 h k
   exact quiet (by rw[fk];exact h)
  .rename_i iW
   split at h
   .rename_i x y t kt dB wD
    obtain⟨p,e1,e2,e3,h⟩:=aM H hC h
    obtain⟨q,f1,f2,f3,h⟩:=aM H hC h
    exact FM H fk iW dB wD e1 f1 h cH k
   cases h
  exact quiet (by rw[fk];exact h)
 case makeMap t x=>
  rw[fk] at h
  cases x with
  |none=>exact uT H hF fk (fun y q=>by cases q) h hB k
  |some x=>
   obtain⟨p,e1,e2,e3,h⟩:=aM H hC h
   split at h
   .rename_i ik m
    exact uT H hF fk (fun y q=>by cases q;exact⟨ik,m,e1⟩) h hB k
   cases h
 case mapEntry t m x=>
  rw[fk] at h
  obtain⟨p,e1,e2,e3,h⟩:=aM H hC h
  obtain⟨q,f1,f2,f3,h⟩:=aM H hC h
  exact MZ H hF fk e1 f1 h cH mg hB k
 case entryStore t m x y=>
  rw[fk] at h
  obtain⟨p,e1,e2,e3,h⟩:=aM H hC h
  obtain⟨q,f1,f2,f3,h⟩:=aM H hC h
  obtain⟨z,g1,g2,g3,h⟩:=aM H hC h
  exact F3 H fk e1 f1 g1 h cH k
 case mapUpdate t m x y=>
  rw[fk] at h
  obtain⟨p,e1,e2,e3,h⟩:=aM H hC h
  obtain⟨q,f1,f2,f3,h⟩:=aM H hC h
  obtain⟨z,g1,g2,g3,h⟩:=aM H hC h
  exact Ab H hF (.inl fk) e1 f1 g1 h cH hB k
 case insert t m x y=>
  rw[fk] at h
  obtain⟨p,e1,e2,e3,h⟩:=aM H hC h
  obtain⟨q,f1,f2,f3,h⟩:=aM H hC h
  obtain⟨z,g1,g2,g3,h⟩:=aM H hC h
  exact Ab H hF (.inr fk) e1 f1 g1 h cH hB k
 case lookup t m x ok=>
  rw[fk] at h
  obtain⟨p,e1,e2,e3,h⟩:=aM H hC h
  obtain⟨q,f1,f2,f3,h⟩:=aM H hC h
  exact JX H hF fk e1 f1 h cH mg hB k
 case makeFunc f first cF=>
  rw[fk] at h
  simp only[XX] at h
  split at h
  .rename_i f' VB
   obtain⟨ys,f1,f2,h2⟩:=oS H hC h
   clear h
   split at h2
   .rename_i cs yZ
    have e0:=bK h2
    subst e0
    have hc:∀ {ys:List Sy} {cs:List (Nat×Nat)},tS ys=some cs->ys.map (Sy.den A)=cs.map fun c=>Value.pointer (some ⟨A.b c.1,c.2,none⟩):=by
     intro ys
     induction ys with
     |nil=>intro cs h;cases h;rfl
     |cons y ys ih=>
      intro cs h
      unfold tS at h
      split at h
      .rename_i heq;cases heq
      .rename_i j off l heq
       cases heq
       obtain⟨sk,h1,rfl⟩:=Option.map_eq_some_iff.1 h
       rw[List.map_cons,List.map_cons,ih h1];rfl
      cases h
    have ec:∀ {ys:List Sy} {cs:List (Nat×Nat)},tS ys=some cs->(∀y∈ys,y.all F/\y.b9 A)->∀c∈cs,F c.1:=by
     intro ys
     induction ys with
     |nil=>intro cs h _ c hc;cases h;cases hc
     |cons y ys ih=>
      intro cs h hy c hc
      unfold tS at h
      split at h
      .rename_i heq;cases heq
      .rename_i j off l heq
       cases heq
       obtain⟨sk,h1,rfl⟩:=Option.map_eq_some_iff.1 h
       rcases List.mem_cons.1 hc with rfl|hc
       .exact(hy _ List.mem_cons_self).1
       exact ih h1 (fun z hz=>hy z (List.mem_cons_of_mem _ hz)) c hc
      cases h
    have YR:first= #[]:=by apply Array.ext';exact VB
    have hca:cF.map a.eval=(cs.map fun c=>Value.pointer (some ⟨A.b c.1,c.2,none⟩)).toArray:=by
     apply Array.ext'
     rw[Array.toList_map,f1,hc yZ]
    have e4:(execOp a.eval op).run P w= .ok (.value (.func (.func f') #[] (cs.map fun c=>Value.pointer (some ⟨A.b c.1,c.2,none⟩)).toArray)) w:=by
     simp only[execOp,fk,Sem.run_bind,YR,hca,Instr.makeFunc,Sem.run_pure,Array.map_empty];rfl
    exact bG e4 (k _ _ ⟨A,S,H.agree (cV.refl _ _) fun _ q=>.inl q,rfl,fun c hc=>.inl (ec yZ f2 c hc),tv⟩)
   cases h2
  cases h
 case slice t x lo hi mx=>
  rw[fk] at h
  cases mx with
  |none=>
   have plain:((gG C x fun p=>xe C lo fun i=>xe C hi fun k=>xg P b t i k p):Tr Out).run s r=some out->op.wp P a w K Q:=fun h=>by
    obtain⟨p,e1,e2,e3,h1⟩:=aM H hC h
    obtain⟨i,f1,h2⟩:=Ac H hC h1
    obtain⟨k',g1,h3⟩:=Ac H hC h2
    exact FY H hF fk e1 f1 g1 h3 cH hB k
   cases lo with
   |none=>exact plain h
   |some lo=>
    cases hi with
    |some hi=>exact plain h
    |none=>
     cases md with
     |false=>exact plain h
     |true=>
      obtain⟨p,e1,e2,e3,h1⟩:=aM H hC h
      obtain⟨q,f1,f2,f3,h2⟩:=aM H hC h1
      split at h2
      .exact Ka H hF fk e1 f1 h2 cH hB k
      cases h2
  |some mx=>
   cases lo with
   |some _=>cases hi<;>exact quiet (by rw[fk];exact h)
   |none=>
    cases hi with
    |none=>exact quiet (by rw[fk];exact h)
    |some hi=>
     obtain⟨p,e1,e2,e3,h1⟩:=aM H hC h
     obtain⟨q,f1,f2,f3,h2⟩:=aM H hC h1
     split at h2
     .obtain⟨q',g1,g2,g3,h3⟩:=aM H hC h2
      split at h3
      .exact DB H hF fk e1 f1 g1 h3 cH hB k
      cases h3
     cases h2
 case makeSlice t l c=>
  rw[fk] at h
  obtain⟨p,e1,e2,e3,h1⟩:=aM H hC h
  obtain⟨q,f1,f2,f3,h2⟩:=aM H hC h1
  exact FZ H hF fk e1 f1 h2 cH hB k
 case range t x=>
  rw[fk] at h
  obtain⟨p,e1,e2,e3,h1⟩:=aM H hC h
  exact DD H hF fk e1 h1 hB k
 case entry x=>
  rw[fk] at h
  obtain⟨p,e1,e2,e3,h1⟩:=aM H hC h
  exact F1 H hF fk e1 h1 hB k
 case binOp op' t x y t'=>
  rw[fk] at h
  cases md with
  |false=>exact quiet (by rw[fk];exact h)
  |true=>
   cases op' with
   |quo=>
    obtain⟨p,e1,e2,e3,h1⟩:=aM H hC h
    obtain⟨q,f1,f2,f3,h2⟩:=aM H hC h1
    unfold Uj at h2
    split at h2
    .rename_i a' b'
     obtain⟨rfl,hp⟩:=fu h2 cH
     have e1:a.eval x= .int .i64 a':=e1
     have f1:a.eval y= .int .i64 b':=f1
     have gp:aX .i64 (a'.tdiv b'):=by
      obtain⟨q1,q2⟩:=hp
      have q2: -9223372036854775808<=a'/\a'<=9223372036854775807:=q2
      have hn:(a'.tdiv b').natAbs<=a'.natAbs:=by rw[Int.natAbs_tdiv];exact Nat.div_le_self _ _
      show -9223372036854775808<=a'.tdiv b'/\a'.tdiv b'<=9223372036854775807
      by_cases hz:a'= -9223372036854775808
      .subst hz
       have:Int.tdiv (-9223372036854775808) b'<=0:=by
        rw[Int.neg_tdiv]
        have:=Int.tdiv_nonneg (a:=9223372036854775808) (b:=b') (by decide) (by omega)
        omega
       omega
      omega
     have h2':(eqGuard .quo t x y (.int .i64 a') (.int .i64 b')).run P w= .ok () w:=by simp[eqGuard,Sem.run_pure]
     have e4:(execOp a.eval op).run P w= .ok (.value (.int .i64 (a'.tdiv b'))) w:=by
      simp only[execOp,fk,Sem.run_bind,e1,f1,h2',Result.andThen_ok]
      have h3:(binOp .quo t (.int .i64 a') (.int .i64 b'))=Op.intDiv .quo .i64 a' b':=rfl
      rw[h3]
      unfold Op.intDiv
      rw[if_neg (by omega)]
      show Sem.run P (do let x <-(pure (Value.int .i64 (IntKind.i64.wrap (a'.tdiv b'))):Sem Value);_) w=_
      rw[gp.wrap]
      rfl
     exact bG e4 (k _ _ ⟨A,S,H.agree (cV.refl _ _) fun _ q=>.inl q,rfl,tv,tv⟩)
    cases h2
   |_=>exact quiet (by rw[fk];exact h)
 all_goals (rw[fk] at h;exact quiet (by rw[fk];exact h))
end
def Tr.bind {α β:Type 1}:Tr α->(α->Tr β)->Tr β
 | .ret a,k=>k a
 | .fail,_=>.fail
 | .slot t f,k=>.slot t fun e=>(f e).bind k
 | .res j f,k=>.res j fun x=>(f x).bind k
theorem Tr.sB {α β:Type 1}{s:Nat->Option E2}{r:Nat->Option R2}:∀ {T:Tr α} {k:α->Tr β} {out:β},(T.bind k).run s r=some out->∃a,T.run s r=some a/\(k a).run s r=some out
 | .ret a,k,out,h=>⟨a,rfl,h⟩
 | .fail,k,out,h=>by cases h
 | .slot t f,k,out,h=>by
  simp only[Tr.bind,Tr.run] at h ⊢
  split at h
  .rename_i e he
   obtain⟨a,h1,h2⟩:=Tr.sB h
   exact⟨a,h1,h2⟩
  cases h
 | .res j f,k,out,h=>by
  simp only[Tr.bind,Tr.run] at h ⊢
  split at h
  .rename_i e he
   obtain⟨a,h1,h2⟩:=Tr.sB h
   exact⟨a,h1,h2⟩
  cases h
structure pW:Type 1 where
 cs:List Prop
 hs:List Hid
 sl:Option (Nat×Option E2)
 re:List (Nat×Option R2)
def eF (s:Nat->Option E2):List (Nat×Option E2)->Nat->Option E2
 |[]=>s
 |p::l=>k8 (eF s l) p.1 p.2
def imp:List Prop->Prop->Prop
 |[],p=>p
 |g::gs,p=>g->imp gs p
def YS:Value->Bool
 | .tuple a=>a.toList.isEmpty
 |_=>false
def F4 (ops:Array Oper)(o:Oper)(k:Option (List (Nat×Bool))->Tr pW):Tr pW:=
 match o.guard with
 |none=>k (some [])
 |some (i,bv)=>match(ops[i]?).bind (·.dst) with
  |some j=>.slot j fun e=>match e.sy with
   | .one (.b (.lit c))=>match Bool.xor c bv with
    |false=>k (some e.ch)
    |true=>k none
   | .one (.b _)=>k (some (e.ch++[(j,bv)]))
   | .one (.v u)=>match YS u with
    |true=>k none
    |false=>.fail
   |_=>.fail
  |none=>.fail
def HS:List (Nat×Bool)->(List Prop->Tr pW)->Tr pW
 |[],k=>k []
 |l::C,k=>.slot l.1 fun e=>match e.sy with
  | .one (.b be)=>HS C fun ps=>k (be.is l.2::ps)
  |_=>.fail
def hintOf:List (Nat×Bool)->Nat->Option Bool
 |[],_=>none
 |p::l,d=>match Nat.beq p.1 d with
  |true=>some p.2
  |false=>hintOf l d
def YT (hn:List (Nat×Bool))(d:Option Nat)(out:Out):pW:=
 match d with
 |none=>⟨out.cs,out.hs,none,out.re⟩
 |some d=>match hintOf hn d,out.sy with
  |some v,.one (.b e)=>⟨out.cs++[e.is v],out.hs,some (d,some ⟨[],.one (.b (.lit v))⟩),out.re⟩
  |_,y=>⟨out.cs,out.hs,some (d,some ⟨[],y⟩),out.re⟩
def stepG (P:Program)(T:List (cE P))(sd:Nat)(hn:List (Nat×Bool))(n:Nat)(ops:Array Oper)(b:Nat)(o:Oper):Tr pW:=
 aZ (match o.dst with|some d=>Nat.blt d n|none=>true) (F4 ops o fun oc=>match oc with
  |none=>.ret ⟨[],[],o.dst.map fun d=>(d,some ⟨[],.one (.v (.tuple #[]))⟩),[]⟩
  |some []=>(XX P T [] (match o.dst with|some d=>hintOf hn d==some true|none=>false) b o.op).bind fun out=>aZ (out.re.all fun p=>Nat.blt p.1 (b+sd)) (.ret (YT hn o.dst out))
  |some (l::C)=>(XX P T (l::C) false b o.op).bind fun out=>match out.re,o.dst with
   |[],some d=>aZ ((l::C).all fun l=>!Nat.beq l.1 d) (HS (l::C) fun ps=>.ret ⟨out.cs.map (imp ps),out.hs,some (d,some ⟨l::C,out.sy⟩),[]⟩)
   |_,_=>.fail)
section
variable {P:Program}{o:bD}{n:Nat}{A A':bF}{S S':aL}{F G:Nat->Prop}{s:Nat->Option E2}{r:Nat->Option R2}{a:Act}{w w':World}{C:List (Nat×Bool)}{b:Nat}
theorem xm {u u':pW}(h:(Tr.ret u').run s r=some u):u=u':=(Option.some.inj h).symm
theorem F5 (H:cz o n A S F s r a w){ops:Array Oper}{op:Oper}{k:Option (List (Nat×Bool))->Tr pW}{out:pW}(h:(F4 ops op k).run s r=some out):
  (∃C,(Region.wanted op (yielded ops a.tmps)=true↔jd a C)/\(k (some C)).run s r=some out)\/(Region.wanted op (yielded ops a.tmps)=false/\(k none).run s r=some out):=by
 unfold F4 at h
 unfold Region.wanted
 split at h
 .rename_i hg
  refine .inl ⟨[],?_,h⟩
  simp[hg,jd]
 rename_i i bv hg
 split at h
 .rename_i j hj
  simp only[Tr.run] at h
  split at h
  .rename_i e he
   have QB:=H.env j e he
   have hy:yielded ops a.tmps i=some bv↔a.tmps[j]?=some (.bool bv):=by
    unfold yielded
    rw[hj]
    simp only[Option.bind_some]
    constructor
    .intro hh
     split at hh
     .rename_i c hc;cases hh;exact hc
     cases hh
    intro hh;rw[hh]
   have BJ:a.tmps[j]?=some (.bool bv)->jd a e.ch:=fun hh=>Classical.byContradiction fun hn=>by
    have:=QB.2 hn
    rw[show(⟨j,e.ch,e.sy.den A⟩:Lq).slot=j from rfl,hh] at this
    simp[undef] at this
   split at h
   .rename_i c Ff
    have tL:jd a e.ch->a.tmps[j]?=some (.bool c):=fun q=>by have:=QB.1 q;rw[Ff] at this;exact this
    split at h
    .rename_i hx
     have QE:c=bv:=by cases c<;>cases bv<;>first|rfl|cases hx
     subst QE
     refine .inl ⟨e.ch,?_,h⟩
     simp only[hg,beq_iff_eq]
     rw[hy]
     exact⟨BJ,tL⟩
    rename_i hx
    refine .inr ⟨?_,h⟩
    simp only[hg,beq_eq_false_iff_ne,ne_eq]
    rw[hy]
    intro hh
    rw[tL (BJ hh)] at hh
    cases hh
    cases bv<;>cases hx
   .rename_i be _ Ff
    refine .inl ⟨e.ch++[(j,bv)],?_,h⟩
    simp only[hg,beq_iff_eq]
    rw[hy]
    constructor
    .intro hh l hl
     rcases List.mem_append.1 hl with hl|hl
     .exact BJ hh l hl
     rw[List.mem_singleton] at hl;subst hl;exact hh
    intro hh;exact hh (j,bv) (List.mem_append_right _ (by simp))
   .rename_i u Ff
    split at h
    .rename_i hu
     refine .inr ⟨?_,h⟩
     simp only[hg,beq_eq_false_iff_ne,ne_eq]
     rw[hy]
     intro hh
     have:=QB.1 (BJ hh)
     rw[show(⟨j,e.ch,e.sy.den A⟩:Lq).slot=j from rfl,hh,Ff] at this
     have:u= .bool bv:=(Option.some.inj this).symm
     rw[this] at hu
     cases hu
    cases h
   cases h
  cases h
 cases h
theorem Ag (H:cz o n A S F s r a w):∀ {C:List (Nat×Bool)} {k:List Prop->Tr pW} {out:pW},(HS C k).run s r=some out->∃ps,(jd a C->∀p∈ps,p)/\(k ps).run s r=some out
 |[],k,out,h=>⟨[],fun _ _ q=>(by cases q),h⟩
 |l::C,k,out,h=>by
  simp only[HS,Tr.run] at h
  split at h
  .rename_i e he
   split at h
   .rename_i be Ff
    obtain⟨ps,h1,h2⟩:=Ag H h
    refine⟨be.is l.2::ps,fun hc p hp=>?_,h2⟩
    have hl:a.tmps[l.1]?=some (.bool l.2):=hc l (by simp)
    rcases List.mem_cons.1 hp with rfl|hp
    .have QB:=H.env l.1 e he
     have jR:jd a e.ch:=Classical.byContradiction fun hn=>by
      have:=QB.2 hn
      rw[show(⟨l.1,e.ch,e.sy.den A⟩:Lq).slot=l.1 from rfl,hl] at this
      simp[undef] at this
     have hv:=QB.1 jR
     rw[show(⟨l.1,e.ch,e.sy.den A⟩:Lq).slot=l.1 from rfl,hl,Ff] at hv
     have hv:Value.bool l.2= .bool be.den:=Option.some.inj hv
     exact(BE.iM be l.2).2 (Value.bool.inj hv).symm
    exact h1 (fun z hz=>hc z (List.mem_cons_of_mem _ hz)) p hp
   cases h
  cases h
theorem imp_elim:∀ {ps:List Prop} {p:Prop},imp ps p->(∀q∈ps,q)->p
 |[],p,h,_=>h
 |g::gs,p,h,k=>imp_elim (h (k g (by simp))) fun q hq=>k q (List.mem_cons_of_mem _ hq)
def Ri (s:Nat->Option E2):Option (Nat×Option E2)->Nat->Option E2
 |none=>s
 |some p=>k8 s p.1 p.2
theorem BK (a:Act)(v:Value):a.put none v=a:=rfl
theorem DF {T:List (cE P)}{sd:Nat}{hn:List (Nat×Bool)}{ops:Array Oper}(H:cz o n A S F s r a w)(hF:∀j,b<=j->j<b+sd->¬F j){op:Oper}{u:pW}(h:(stepG P T sd hn n ops b op).run s r=some u)(cH:∀p∈u.cs,p)(mg:∀h∈u.hs,∀A w,h.lhs A w=h.rhs A w)
  (jR:∀d,op.dst=some d->∀t e,s t=some e->∀l∈e.ch,l.1≠d) {K:Act->World->Prop} {Q:Exit->Act->World->Prop} (k:∀A' S' a' w',cz o n A' S' (FU F u.re) (Ri s u.sl) (aT r u.re) a' w'->(∀p∈u.re,p.1<b+sd)->K a' w'):
  if Region.wanted op (yielded ops a.tmps) then op.wp P a w K Q else K (a.put op.dst undef) w:=by
 unfold stepG at h
 obtain⟨hd,h⟩:=an h
 have QG:∀d,op.dst=some d->d<n:=fun d e=>by rw[e] at hd;simpa using Nat.blt_eq▸hd
 rcases F5 H h with⟨C,hw,h⟩|⟨hw,h⟩
 .cases C with
  |nil=>
   have hw:Region.wanted op (yielded ops a.tmps)=true:=hw.2 fun l hl=>by cases hl
   rw[if_pos hw]
   obtain⟨out,ho,h⟩:=Tr.sB h
   obtain⟨yY,h⟩:=an h
   have hB:∀p∈out.re,p.1<b+sd:=fun p hp=>by have:=List.all_eq_true.1 yY p hp;simpa using Nat.blt_eq▸this
   have e:=xm h
   subst e
   unfold YT at cH mg k
   have hC:jd a []:=fun l hl=>by cases hl
   have fin:(∀p∈out.cs,p)->(∀h∈out.hs,∀A w,h.lhs A w=h.rhs A w)->(∀v w',eO o n F s r a out v w'->K (a.put op.dst v) w')->op.wp P a w K Q:=fun h1 h2 h3=>M1 H hC hF ho h1 h2 hB h3
   cases iX:op.dst with
   |none=>
    rw[iX] at cH mg k fin
    refine fin cH mg fun v w' ⟨A',S',h1,h2,h3,h4⟩=>?_
    rw[BK]
    exact k A' S' a w' h1 hB
   |some d=>
    rw[iX] at cH mg k fin
    have plain:(∀p∈out.cs,p)->(∀h∈out.hs,∀A w,h.lhs A w=h.rhs A w)->(∀A' S' a' w',cz o n A' S' (FU F out.re) (k8 s d (some ⟨[],out.sy⟩)) (aT r out.re) a' w'->K a' w')->op.wp P a w K Q:=fun h1 h2 k'=>by
     refine fin h1 h2 fun v w' ⟨A',S',h1,h2,h3,h4⟩=>?_
     have h5:=h1.put (C:=[]) (d:=d) (y:=out.sy) (u:=v) (QG d iX) (jR d iX) (fun l hl=>by cases hl) (fun _=>⟨h3,h4⟩) ⟨fun _=>h2,fun q=>(q fun l hl=>by cases hl).elim⟩
     exact k' A' S' _ w' h5
    simp only at cH mg k
    split at cH
    .rename_i v e hv he
     rw[hv,he] at mg k
     refine fin (fun p hp=>cH p (List.mem_append_left _ hp)) mg fun v' w' ⟨A',S',h1,h2,h3,h4⟩=>?_
     have JS:e.den=v:=(BE.iM e v).1 (cH _ (List.mem_append_right _ (List.mem_singleton.2 rfl)))
     have h5:=h1.put (C:=[]) (d:=d) (y:=.one (.b (.lit v))) (u:=v') (QG d iX) (jR d iX) (fun l hl=>by cases hl) (fun _=>⟨tv,tv⟩) ⟨fun _=>by rw[h2,he];show Value.bool e.den= .bool v;rw[JS],fun q=>(q fun l hl=>by cases hl).elim⟩
     exact k A' S' _ w' h5 hB
    rename_i dL
    have e:(match hintOf hn d,out.sy with
     |some v,.one (.b e)=>(⟨out.cs++[e.is v],out.hs,some (d,some ⟨[],.one (.b (.lit v))⟩),out.re⟩:pW)
     |_,y=>⟨out.cs,out.hs,some (d,some ⟨[],y⟩),out.re⟩)=⟨out.cs,out.hs,some (d,some ⟨[],out.sy⟩),out.re⟩:=by
     split
     .rename_i v e hv he;exact(dL v e hv he).elim
     rfl
    rw[e] at mg k
    exact plain cH mg fun A' S' a' w' q=>k A' S' a' w' q hB
  |cons l C=>
   obtain⟨out,ho,h⟩:=Tr.sB h
   split at h
   .rename_i d yY iX
    obtain⟨Vo,h⟩:=an h
    have Vo:∀z∈l::C,z.1≠d:=fun z hz e=>by
     have:=List.all_eq_true.1 Vo z hz
     rw[e,Nat.beq_refl] at this;cases this
    obtain⟨ps,JF,h⟩:=Ag H h
    have e:=xm h
    subst e
    by_cases hC:jd a (l::C)
    .rw[if_pos (hw.2 hC)]
     refine M1 H hC hF ho (fun p hp=>imp_elim (cH _ (List.mem_map.2 ⟨p,hp,rfl⟩)) (JF hC)) mg (fun p hp=>by rw[yY] at hp;cases hp) fun v w' ⟨A',S',h1,h2,h3,h4⟩=>?_
     rw[yY] at h1 h3
     have h5:=h1.put (C:=l::C) (d:=d) (y:=out.sy) (u:=v) (QG d iX) (jR d iX) Vo (fun _=>⟨h3,h4⟩) ⟨fun _=>h2,fun q=>(q hC).elim⟩
     rw[iX]
     exact k A' S' _ w' (h5.agree (cV.refl _ _) fun j hj=>hj) (fun p hp=>by cases hp)
    rw[if_neg (fun q=>hC (hw.1 q)),iX]
    have h5:=H.put (C:=l::C) (d:=d) (y:=out.sy) (u:=undef) (QG d iX) (jR d iX) Vo (fun q=>(hC q).elim) ⟨fun q=>(hC q).elim,fun _=>rfl⟩
    exact k A S _ w (h5.agree (cV.refl _ _) fun j hj=>.inl hj) (fun p hp=>by cases hp)
   cases h
 rw[if_neg (by rw[hw];decide)]
 have e:=xm h
 subst e
 cases iX:op.dst with
 |none=>
  rw[iX] at k
  exact k A S _ w (H.agree (cV.refl _ _) fun j hj=>.inl hj) (fun p hp=>by cases hp)
 |some d=>
  rw[iX] at k
  have h5:=H.put (C:=[]) (d:=d) (y:=.one (.v (.tuple #[]))) (u:=undef) (QG d iX) (jR d iX) (fun l hl=>by cases hl) (fun _=>⟨tv,tv⟩) ⟨fun _=>rfl,fun q=>(q fun l hl=>by cases hl).elim⟩
  exact k A S _ w (h5.agree (cV.refl _ _) fun j hj=>.inl hj) (fun p hp=>by cases hp)
end
def M3 (x:Option (Nat×Option E2))(en:List (Nat×Option E2)):List (Nat×Option E2):=match x with
 |none=>en
 |some p=>p::en
def M4 (en:List (Nat×Option E2))(d:Option Nat):Bool:=match d with
 |none=>true
 |some d=>en.all fun p=>match p.2 with
  |some ⟨[],_⟩=>true
  |some e=>e.ch.all fun l=>!Nat.beq l.1 d
  |none=>true
section
variable (P:Program)(T:List (cE P))(sd:Nat)(hn:List (Nat×Bool))(n:Nat)(ops:Array Oper)(s0:Nat->Option E2)(r0:Nat->Option R2)
def xo:List Oper->Nat->List (Nat×Option E2)->List (Nat×Option R2)->Option (List pW)
 |[],_,_,_=>some []
 |o::l,b,en,re=>match M4 en o.dst with
  |true=>match(stepG P T sd hn n ops b o).run (eF s0 en) (aT r0 re) with
   |some u=>match xo l (b+sd) (M3 u.sl en) (u.re++re) with
    |some us=>some (u::us)
    |none=>none
   |none=>none
  |false=>none
end
def Ah:List pW->List (Nat×Option E2)->List (Nat×Option E2)
 |[],en=>en
 |u::us,en=>Ah us (M3 u.sl en)
def uU:List pW->List (Nat×Option R2)->List (Nat×Option R2)
 |[],re=>re
 |u::us,re=>uU us (u.re++re)
section
variable {P:Program}{o:bD}{n:Nat}{A A':bF}{S S':aL}{F G:Nat->Prop}{s s' s0:Nat->Option E2}{r r0:Nat->Option R2}{a:Act}{w w':World}{b:Nat}{T:List (cE P)}{sd:Nat}{hn:List (Nat×Bool)}{ops:Array Oper}{Q:Exit->Act->World->Prop}
theorem cz.less (H:cz o n A S F s r a w)(hs:∀t e,s' t=some e->s t=some e):cz o n A S F s' r a w:=
 ⟨H.size,H.eY,fun t e he=>H.env t e (hs t e he),fun t e he=>H.kZ t e (hs t e he),H.dD,H.bB,H.args,H.wO⟩
theorem kD (s:Nat->Option E2)(x:Option (Nat×Option E2))(en:List (Nat×Option E2)):eF s (M3 x en)=Ri (eF s en) x:=by cases x<;>rfl
theorem uV (s:Nat->Option E2):∀x y:List (Nat×Option E2),eF s (x++y)=eF (eF s y) x
 |[],_=>rfl
 |p::x,y=>by show k8 (eF s (x++y)) p.1 p.2=_;rw[uV s x y];rfl
theorem pX:∀ {en:List (Nat×Option E2)} {t:Nat} {e:E2},eF s0 en t=some e->s0 t=some e\/(t,some e)∈en
 |[],t,e,h=>.inl h
 |p::en,t,e,h=>by
  have h:k8 (eF s0 en) p.1 p.2 t=some e:=h
  by_cases q:p.1=t
  .subst q;rw[eS] at h;exact .inr (by rw[<-h];exact List.mem_cons_self)
  rw[lD q] at h;exact(pX h).imp id (List.mem_cons_of_mem _)
theorem Ke {en:List (Nat×Option E2)}{d:Option Nat}(h0:∀t e,s0 t=some e->e.ch=[])(h:M4 en d=true):∀d',d=some d'->∀t e,eF s0 en t=some e->∀l∈e.ch,l.1≠d':=by
 intro d' hd t e he l hl
 subst hd
 rcases pX he with h1|h1
 .rw[h0 t e h1] at hl;cases hl
 have:=List.all_eq_true.1 h _ h1
 intro q
 obtain⟨ch,y⟩:=e
 cases ch with
 |nil=>cases hl
 |cons c ch=>
  have:=List.all_eq_true.1 this l hl
  rw[q,Nat.beq_refl] at this;cases this
theorem Ai {p:Nat×Option R2}:∀ {us:List pW} {re:List (Nat×Option R2)},p∈re->p∈uU us re
 |[],_,h=>h
 |u::us,re,h=>Ai (us:=us) (List.mem_append_right _ h)
theorem BL {r r':Nat->Option R2}(h:∀j x,r j=some x->r' j=some x):∀ {re:List (Nat×Option R2)} {j:Nat} {x:R2},aT r re j=some x->aT r' re j=some x
 |[],j,x,k=>h j x k
 |p::re,j,x,k=>by
  have k:jw (aT r re) p.1 p.2 j=some x:=k
  show jw (aT r' re) p.1 p.2 j=some x
  by_cases q:p.1=j
  .subst q;rw[dy] at k ⊢;exact k
  rw[dR q] at k ⊢;exact BL h k
theorem Aj {r0':Nat->Option R2}(h:∀j x,r0 j=some x->r0' j=some x):∀ {l:List Oper} {b:Nat} {en:List (Nat×Option E2)} {re:List (Nat×Option R2)} {us:List pW},xo P T sd hn n ops s0 r0 l b en re=some us->xo P T sd hn n ops s0 r0' l b en re=some us
 |[],b,en,re,us,k=>k
 |op::l,b,en,re,us,k=>by
  simp only[xo] at k ⊢
  split at k
  .split at k
   .rename_i u hu
    split at k
    .rename_i YU JC
     cases k
     have h1:=Tr.mono (fun _ _ q=>q) (fun j x q=>BL (re:=re) h q) _ hu
     simp only[h1,Aj h JC]
    cases k
   cases k
  cases k
theorem BM {L:Nat->Prop}{rest:List Oper}(h0:∀t e,s0 t=some e->e.ch=[]):∀ {l:List Oper} {b:Nat} {en:List (Nat×Option E2)} {re:List (Nat×Option R2)} {us:List pW} {A:bF} {S:aL} {F:Nat->Prop} {a:Act} {w:World},
  xo P T sd hn n ops s0 r0 l b en re=some us->cz o n A S F (eF s0 en) (aT r0 re) a w->(∀j,b<=j->L j->¬F j)->(∀j,j<b+sd*l.length->L j)->(∀u∈us,∀p∈u.cs,p)->(∀u∈us,∀h∈u.hs,∀A w,h.lhs A w=h.rhs A w)->
  (∀A' S' F' a' w',cz o n A' S' F' (eF s0 (Ah us en)) (aT r0 (uU us re)) a' w'->(∀j,b+sd*l.length<=j->L j->¬F' j)->(∀j,F' j->F j\/∃x,(j,x)∈uU us re)->wpList P ops Q rest a' w')->wpList P ops Q (l++rest) a w
 |[],b,en,re,us,A,S,F,a,w,h,H,hF,_,_,_,k=>by
  cases h
  exact k A S F a w H (by simpa using hF) fun j hj=>.inl hj
 |op::l,b,en,re,us,A,S,F,a,w,h,H,hF,hL,cH,mg,k=>by
  simp only[xo] at h
  have hlen:sd*(op::l).length=sd*l.length+sd:=by rw[List.length_cons,Nat.mul_succ]
  split at h
  .rename_i M5
   split at h
   .rename_i u hu
    split at h
    .rename_i YU JC
     cases h
     simp only[List.cons_append,wpList]
     have sC:=DF (Q:=Q) (K:=wpList P ops Q (l++rest)) H (fun j h1 h2=>hF j h1 (hL j (by omega))) hu (cH u (by simp)) (mg u (by simp)) (Ke h0 M5) fun A' S' a' w' H' hB=>by
      refine BM h0 JC (by rw[kD,dz];exact H') (fun j hj hLj hn=>?_) (fun j hj=>hL j (by omega)) (fun v hv=>cH v (List.mem_cons_of_mem _ hv)) (fun v hv=>mg v (List.mem_cons_of_mem _ hv)) fun A2 S2 F2 a2 w2 H2 YV hF3=>k A2 S2 F2 a2 w2 H2 (fun j hj=>YV j (by omega)) fun j hj=>?_
      .rcases hn with hn|⟨x,hx⟩
       .exact hF j (by omega) hLj hn
       have:=hB _ hx;omega
      rcases hF3 j hj with(q|⟨x,hx⟩)|q
      .exact .inl q
      .exact .inr ⟨x,Ai (us:=YU) (List.mem_append_left _ hx)⟩
      exact .inr q
     split
     .rename_i hw;rw[if_pos hw] at sC;exact .inl sC
     rename_i hw;rw[if_neg hw] at sC;exact sC
    cases h
   cases h
  cases h
def vl:List (Nat×Option E2)->List (Nat×Option E2)
 |[]=>[]
 |(t,some ⟨[],y⟩)::l=>(t,some ⟨[],y⟩)::vl l
 |(t,_)::l=>(t,none)::vl l
theorem sD (h0:∀t e,s0 t=some e->e.ch=[]):∀ {en:List (Nat×Option E2)} {t:Nat} {e:E2},eF s0 (vl en) t=some e->eF s0 en t=some e/\e.ch=[]
 |[],t,e,h=>⟨h,h0 t e h⟩
 |(d,x)::en,t,e,h=>by
  have ih:eF s0 (vl en) t=some e->eF s0 en t=some e/\e.ch=[]:=sD h0
  have gone:k8 (eF s0 (vl en)) d none t=some e->k8 (eF s0 en) d x t=some e/\e.ch=[]:=fun h=>by
   by_cases q:d=t
   .subst q;rw[eS] at h;cases h
   rw[lD q] at h ⊢;exact ih h
  match x,h with
  |none,h=>exact gone h
  |some ⟨_::_,y⟩,h=>exact gone h
  |some ⟨[],y⟩,h=>
   have h:k8 (eF s0 (vl en)) d (some ⟨[],y⟩) t=some e:=h
   show k8 (eF s0 en) d (some ⟨[],y⟩) t=some e/\e.ch=[]
   by_cases q:d=t
   .subst q;rw[eS] at h ⊢;cases h;exact⟨rfl,rfl⟩
   rw[lD q] at h ⊢;exact ih h
end
def nG (ops:List Oper)(i:Nat):List Nat:=match ops[i]? with
 |some o=>(o.after.toList.filter (Region.binds .any)).map (·.on)
 |none=>[]
def tX (ms:List Nat):List Nat->Nat
 |[]=>0
 |d::l=>Nat.lor (Nat.lor (Nat.shiftLeft 1 d) (ms.getD d 0)) (tX ms l)
def M6 (dp:Nat->List Nat):Nat->List Nat
 |0=>[]
 |k+1=>M6 dp k++[tX (M6 dp k) (dp k)]
theorem vJ (dp:Nat->List Nat):∀k,(M6 dp k).length=k
 |0=>rfl
 |k+1=>by simp[M6,vJ dp k]
theorem nH (dp:Nat->List Nat){i:Nat}:∀ {k:Nat},i<k->(M6 dp k).getD i 0=tX (M6 dp i) (dp i)
 |k+1,h=>by
  rw[M6,List.getD_eq_getElem?_getD]
  by_cases q:i<k
  .rw[List.getElem?_append_left (by rw[vJ];exact q),<-List.getD_eq_getElem?_getD,nH dp q]
  have:i=k:=by omega
  subst this
  rw[List.getElem?_append_right (by rw[vJ];exact Nat.le_refl _),vJ,Nat.sub_self];rfl
theorem M7 (a b j:Nat):(Nat.lor a b).testBit j=(a.testBit j||b.testBit j):=Nat.testBit_or a b j
theorem Rj {d j:Nat}(h:(Nat.shiftLeft 1 d).testBit j=true):j=d:=by
 have:(1<<<d).testBit j=true:=h
 rw[Nat.shiftLeft_eq,Nat.one_mul,Nat.testBit_two_pow] at this
 exact(of_decide_eq_true this).symm
theorem rH {ms:List Nat}{j:Nat}:∀ {l:List Nat},(tX ms l).testBit j=true->∃d∈l,j=d\/(ms.getD d 0).testBit j=true
 |[],h=>by simp[tX] at h
 |d::l,h=>by
  rw[tX,M7,Bool.or_eq_true,M7,Bool.or_eq_true] at h
  rcases h with(h|h)|h
  .exact⟨d,by simp,.inl (Rj h)⟩
  .exact⟨d,by simp,.inr h⟩
  obtain⟨e,he,q⟩:=rH h
  exact⟨e,List.mem_cons_of_mem _ he,q⟩
theorem Rk {dp:Nat->List Nat}{N:Nat}(hd:∀i,i<N->∀d∈dp i,d<i):∀ {i j:Nat},i<N->((M6 dp N).getD i 0).testBit j=true->j<i:=by
 intro i
 induction i using Nat.strongRecOn with
 |_ i ih=>
  intro j hi h
  rw[nH dp hi] at h
  obtain⟨d,vn,h⟩:=rH h
  have:=hd i hi d vn
  rcases h with h|h
  .omega
  have h2:=ih d this (by omega) (j:=j) (by rw[nH dp (by omega)];rwa[nH dp this] at h)
  omega
theorem HT {dp:Nat->List Nat}{N:Nat}(hd:∀i,i<N->∀d∈dp i,d<i){X:Nat->Bool}(hX:∀i,i<N->X i=true->∀d∈dp i,X d=true):∀ {i j:Nat},i<N->(∀d∈dp i,X d=true)->((M6 dp N).getD i 0).testBit j=true->X j=true:=by
 intro i
 induction i using Nat.strongRecOn with
 |_ i ih=>
  intro j hi vE h
  rw[nH dp hi] at h
  obtain⟨d,vn,h⟩:=rH h
  have:=hd i hi d vn
  rcases h with h|h
  .subst h;exact vE j vn
  exact ih d this (by omega) (hX d (by omega) (vE d vn)) (by rw[nH dp (by omega)];rwa[nH dp this] at h)
def oB (us:List pW)(k:Nat):Option (Nat×Option E2):=(us[k]?).bind (·.sl)
def nI (us:List pW)(k:Nat):List (Nat×Option R2):=match us[k]? with
 |some u=>u.re
 |none=>[]
def qT (us:List pW)(X:Nat->Bool):Nat->List (Nat×Option E2)
 |0=>[]
 |k+1=>match X k with
  |true=>M3 (oB us k) (qT us X k)
  |false=>qT us X k
def qV (us:List pW)(X:Nat->Bool):Nat->List (Nat×Option R2)
 |0=>[]
 |k+1=>match X k with
  |true=>nI us k++qV us X k
  |false=>qV us X k
section
variable {s0:Nat->Option E2}{r0:Nat->Option R2}{us:List pW}{X Y:Nat->Bool}
theorem nJ {s:Nat->Option E2}{x:Option (Nat×Option E2)}{t:Nat}(h:∀e,x≠some (t,e)):Ri s x t=s t:=by
 cases x with
 |none=>rfl
 |some p=>exact lD fun q=>h p.2 (by rw[<-q])
theorem mq {t:Nat}:∀ {K:Nat},(∀k,k<K->∀e,oB us k=some (t,e)->X k=Y k)->eF s0 (qT us X K) t=eF s0 (qT us Y K) t
 |0,_=>rfl
 |K+1,h=>by
  have ih:=mq (K:=K) fun k hk=>h k (by omega)
  by_cases q:∃e,oB us K=some (t,e)
  .obtain⟨e,he⟩:=q
   have HR:=h K (by omega) e he
   simp only[qT,HR]
   split
   .rw[kD,kD,he]
    show k8 _ t e t=k8 _ t e t
    rw[eS,eS]
   exact ih
  have h1:∀(Z:Nat->Bool),eF s0 (qT us Z (K+1)) t=eF s0 (qT us Z K) t:=fun Z=>by
   simp only[qT]
   split
   .rw[kD];exact nJ fun e he=>q ⟨e,he⟩
   rfl
  rw[h1,h1,ih]
theorem mu {j:Nat}:∀ {K:Nat},(∀k,k<K->(∃x,(j,x)∈nI us k)->X k=Y k)->aT r0 (qV us X K) j=aT r0 (qV us Y K) j
 |0,_=>rfl
 |K+1,h=>by
  have ih:=mu (K:=K) fun k hk=>h k (by omega)
  by_cases q:∃x,(j,x)∈nI us K
  .have HR:=h K (by omega) q
   simp only[qV,HR]
   split
   .rw[dz,dz];exact BB q _ _
   exact ih
  have h1:∀(Z:Nat->Bool),aT r0 (qV us Z (K+1)) j=aT r0 (qV us Z K) j:=fun Z=>by
   simp only[qV]
   split
   .rw[dz];exact gW q _
   rfl
  rw[h1,h1,ih]
theorem vK {t i:Nat}:∀ {K:Nat},i<=K->(∀k,i<=k->k<K->∀e,oB us k=some (t,e)->X k=false)->eF s0 (qT us X K) t=eF s0 (qT us X i) t
 |0,h,_=>by rw[show i=0 by omega]
 |K+1,h,hk=>by
  by_cases q:i=K+1
  .rw[q]
  rw[<-vK (K:=K) (by omega) fun k h1 h2=>hk k h1 (by omega)]
  simp only[qT]
  split
  .rename_i hx
   rw[kD]
   refine nJ fun e he=>?_
   have:=hk K (by omega) (by omega) e he
   rw[hx] at this;cases this
  rfl
theorem vL {j i:Nat}:∀ {K:Nat},i<=K->(∀k,i<=k->k<K->(∃x,(j,x)∈nI us k)->X k=false)->aT r0 (qV us X K) j=aT r0 (qV us X i) j
 |0,h,_=>by rw[show i=0 by omega]
 |K+1,h,hk=>by
  by_cases q:i=K+1
  .rw[q]
  rw[<-vL (K:=K) (by omega) fun k h1 h2=>hk k h1 (by omega)]
  simp only[qV]
  split
  .rename_i hx
   rw[dz]
   refine gW (fun he=>?_) _
   have:=hk K (by omega) (by omega) he
   rw[hx] at this;cases this
  rfl
theorem M8 {i N:Nat}(hi:i<N)(hX:X i=false)(hY:∀k,Y k=(X k||decide (k=i)))(hc:∀k,k<N->X k=true->i<k->∀t e e',oB us i=some (t,e)->oB us k≠some (t,e')):Ri (eF s0 (qT us X N)) (oB us i)=eF s0 (qT us Y N):=by
 funext t
 by_cases q:∃e,oB us i=some (t,e)
 .obtain⟨e,he⟩:=q
  rw[vK (i:=i+1) (X:=Y) (by omega) fun k h1 h2 e' Lu=>?_]
  .have hy:Y i=true:=by rw[hY];simp
   simp only[qT,hy]
   rw[kD,he]
   show k8 _ t e t=k8 _ t e t
   rw[eS,eS]
  rw[hY]
  cases hx:X k with
  |true=>exact(hc k h2 hx (by omega) t e e' he Lu).elim
  |false=>simp;omega
 rw[nJ fun e he=>q ⟨e,he⟩]
 refine mq fun k hk e he=>?_
 have:k≠i:=fun z=>q ⟨e,by rw[<-z];exact he⟩
 rw[hY,decide_eq_false this,Bool.or_false]
theorem M9 {i N:Nat}(hi:i<N)(hX:X i=false)(hY:∀k,Y k=(X k||decide (k=i)))(hc:∀k,k<N->X k=true->i<k->∀j x x',(j,x)∈nI us i->(j,x')∉nI us k):aT (aT r0 (qV us X N)) (nI us i)=aT r0 (qV us Y N):=by
 funext j
 by_cases q:∃x,(j,x)∈nI us i
 .rw[vL (i:=i+1) (X:=Y) (by omega) fun k h1 h2 Ad=>?_]
  .have hy:Y i=true:=by rw[hY];simp
   have e:qV us Y (i+1)=nI us i++qV us Y i:=by simp only[qV,hy]
   rw[e,dz r0 (nI us i) (qV us Y i)]
   exact BB q _ _
  rw[hY]
  obtain⟨x,hx⟩:=q
  obtain⟨x',Ad⟩:=Ad
  cases MK:X k with
  |true=>exact(hc k h2 MK (by omega) j x x' hx Ad).elim
  |false=>simp;omega
 rw[gW q]
 refine mu fun k hk he=>?_
 have:k≠i:=fun z=>q (by rw[<-z];exact he)
 rw[hY,decide_eq_false this,Bool.or_false]
end
def HU (M:List Nat)(i j:Nat):Bool:=!Nat.beq i j && (!(M.getD i 0).testBit j && !(M.getD j 0).testBit i)
def YW (U:List Nat)(us:List pW)(t:Nat):Bool:=U.any fun j=>match oB us j with
 |some p=>Nat.beq p.1 t
 |none=>false
def YX (U:List Nat)(us:List pW)(j:Nat):Bool:=U.any fun k=>(nI us k).any fun p=>Nat.beq p.1 j
def Rm {α:Type}(h:Nat->Bool)(f:Nat->Option α):Nat->Option α:=fun t=>match h t with
 |true=>none
 |false=>f t
def Na (N:Nat)(f:Nat->Bool):Bool:=(List.range N).all f
theorem pY {N:Nat}{f:Nat->Bool}(h:Na N f=true){i:Nat}(hi:i<N):f i=true:=List.all_eq_true.1 h i (List.mem_range.2 hi)
def BN (us:List pW)(k:Nat):List Nat:=match oB us k with
 |some (_,some e)=>e.ch.map (·.1)
 |_=>[]
section
variable (P:Program)(T:List (cE P))(sd:Nat)(hn:List (Nat×Bool))(n:Nat)(ops:Array Oper)(s0:Nat->Option E2)(r0:Nat->Option R2)(b:Nat)(us:List pW)
def Nb (M:List Nat)(i:Nat):Bool:=
 match ops[i]? with
 |some o=>((stepG P T sd hn n ops (b+sd*i) o).run (Rm (YW ((List.range ops.size).filter (HU M i)) us) (eF s0 (qT us (M.getD i 0).testBit ops.size))) (Rm (YX ((List.range ops.size).filter (HU M i)) us) (aT r0 (qV us (M.getD i 0).testBit ops.size)))).isSome
 |none=>false
def BO (i j:Nat):Bool:=
 (match oB us i,oB us j with
  |some p,some q=>!Nat.beq p.1 q.1
  |_,_=>true) && (nI us i).all fun p=>(nI us j).all fun q=>!Nat.beq p.1 q.1
def YY (M:List Nat)(i:Nat):Bool:=(nI us i).all fun p=>Nat.blt p.1 b||(let k:=(p.1-b)/sd;Nat.beq k i||(M.getD i 0).testBit k)
def Nc (M:List Nat):Bool:=
 (Nat.blt 0 sd && Na ops.size (fun i=>(nG ops.toList i).all fun d=>Nat.blt d i)) && (Na ops.size (fun i=>Nb P T sd hn n ops s0 r0 b us M i && YY sd b us M i) && Na ops.size fun i=>Na ops.size fun j=>(!HU M i j||BO us i j) && ((BN us j).all fun t=>(match(ops[i]?).bind (·.dst) with
  |some d=>!Nat.beq d t||((M.getD j 0).testBit i)
  |none=>true)))
end
def cnt (X:Nat->Bool):Nat->Nat
 |0=>0
 |k+1=>cnt X k+(match X k with|true=>0|false=>1)
theorem DG:∀N,cnt (fun _=>false) N=N
 |0=>rfl
 |k+1=>by rw[cnt,DG k]
theorem DH {X:Nat->Bool}:∀ {N:Nat},cnt X N=0->∀k,k<N->X k=true
 |N+1,h,k,hk=>by
  rw[cnt] at h
  by_cases q:k=N
  .subst q
   cases hx:X k with
   |true=>rfl
   |false=>rw[hx] at h;simp at h
  exact DH (N:=N) (by omega) k (by omega)
theorem sF {X Y:Nat->Bool}:∀ {N:Nat},(∀k,k<N->X k=Y k)->cnt X N=cnt Y N
 |0,_=>rfl
 |N+1,h=>by rw[cnt,cnt,sF fun k hk=>h k (by omega),h N (by omega)]
theorem DI {X Y:Nat->Bool}{i:Nat}(hX:X i=false)(hY:∀k,Y k=(X k||decide (k=i))):∀ {N:Nat},i<N->cnt Y N+1=cnt X N
 |N+1,h=>by
  rw[cnt,cnt]
  by_cases q:i=N
  .subst q
   have e:cnt Y i=cnt X i:=sF fun k hk=>by rw[hY,decide_eq_false (by omega),Bool.or_false]
   rw[e,hX,hY i]
   simp
  have:=DI hX hY (N:=N) (by omega)
  have e:Y N=X N:=by rw[hY,decide_eq_false (fun z=>q z.symm),Bool.or_false]
  rw[e];omega
section
variable {P:Program}{o:bD}{n:Nat}{A A':bF}{S S':aL}{F G:Nat->Prop}{s0:Nat->Option E2}{r0:Nat->Option R2}{a:Act}{w w':World}{b:Nat}{T:List (cE P)}{sd:Nat}{hn:List (Nat×Bool)}{ops:Array Oper}{Q:Exit->Act->World->Prop}
theorem Ak {full:List pW}:∀ {l:List Oper} {k:Nat} {us pre:List pW},full=pre++us->pre.length=k->xo P T sd hn n ops s0 r0 l (b+sd*k) (qT full (fun _=>true) k) (qV full (fun _=>true) k)=some us->
  us.length=l.length/\∀i op,l[i]?=some op->∃u,full[k+i]?=some u/\(stepG P T sd hn n ops (b+sd*(k+i)) op).run (eF s0 (qT full (fun _=>true) (k+i))) (aT r0 (qV full (fun _=>true) (k+i)))=some u
 |[],k,us,pre,_,_,h=>by
  cases h
  exact⟨rfl,fun i op hi=>by simp at hi⟩
 |op::l,k,us,pre,Uo,hk,h=>by
  simp only[xo] at h
  split at h
  .split at h
   .rename_i u hu
    split at h
    .rename_i YU JC
     cases h
     have rA:full[k]?=some u:=by rw[Uo,List.getElem?_append_right (by omega),hk,Nat.sub_self];rfl
     have QB:qT full (fun _=>true) (k+1)=M3 u.sl (qT full (fun _=>true) k):=by simp only[qT,oB,rA,Option.bind_some]
     have yY:qV full (fun _=>true) (k+1)=u.re++qV full (fun _=>true) k:=by simp only[qV,nI,rA]
     obtain⟨h1,h2⟩:=Ak (full:=full) (l:=l) (k:=k+1) (us:=YU) (pre:=pre++[u]) (by rw[Uo];simp) (by simp[hk]) (by rw[QB,yY,show b+sd*(k+1)=b+sd*k+sd by rw[Nat.mul_succ];omega];exact JC)
     refine⟨by simp[h1],fun i op' hi=>?_⟩
     cases i with
     |zero=>
      have:op=op':=by simpa using hi
      subst this
      exact⟨u,by simpa using rA,by simpa using hu⟩
     |succ i=>
      obtain⟨u',k1,k2⟩:=h2 i op' (by simpa using hi)
      exact⟨u',by rw[show k+(i+1)=k+1+i by omega];exact k1,by rw[show k+(i+1)=k+1+i by omega];exact k2⟩
    cases h
   cases h
  cases h
theorem vN {α:Type}{h:Nat->Bool}{f g:Nat->Option α}(k:∀t,h t=false->f t=g t):∀t e,Rm h f t=some e->g t=some e:=by
 intro t e he
 unfold Rm at he
 split at he
 .cases he
 rename_i hh;rw[<-k t hh];exact he
theorem Rn {sd b i q j:Nat}(h1:b+sd*q<=j)(h2:j<b+sd*q+sd)(h3:b+sd*i<=j)(h4:j<b+sd*i+sd):q=i:=by
 rcases Nat.lt_trichotomy q i with h|h|h
 .have:=Nat.mul_le_mul_left sd (show q+1<=i from h)
  rw[Nat.mul_succ] at this;omega
 .exact h
 have:=Nat.mul_le_mul_left sd (show i+1<=q from h)
 rw[Nat.mul_succ] at this;omega
theorem Nd {us:List pW}(h0:∀t e,s0 t=some e->e.ch=[])(Ro:xo P T sd hn n ops s0 r0 ops.toList b [] []=some us){M:List Nat}(hM:M=M6 (nG ops.toList) ops.size)(Al:Nc P T sd hn n ops s0 r0 b us M=true)
  (cH:∀u∈us,∀p∈u.cs,p) (mg:∀u∈us,∀h∈u.hs,∀A w,h.lhs A w=h.rhs A w)
  (k:∀A' S' F' a' w',cz o n A' S' F' (eF s0 (qT us (fun _=>true) ops.size)) (aT r0 (qV us (fun _=>true) ops.size)) a' w'->(∀j,b+sd*ops.size<=j->¬F' j)->Q .normal a' w')
  (H:cz o n A S F s0 r0 a w) (hF:∀j,b<=j->¬F j):wpAny P .any ops Q ops.size (Array.replicate ops.size false) a w:=by
 obtain⟨hlen,YZ⟩:=Ak (b:=b) (full:=us) (us:=us) (k:=0) (pre:=[]) (by simp) rfl (by simpa[qT,qV] using Ro)
 rw[Array.length_toList] at hlen
 unfold Nc at Al
 simp only[Bool.and_eq_true] at Al
 obtain⟨⟨X4,hd⟩,hv,hu⟩:=Al
 have X4:0<sd:=by simpa using Nat.blt_eq▸X4
 have Rp:∀i,i<ops.size->∀d∈nG ops.toList i,d<i:=fun i hi d vn=>by
  have:=List.all_eq_true.1 (pY hd hi) d vn
  simpa using Nat.blt_eq▸this
 have mlt:∀ {i j:Nat},i<ops.size->(M.getD i 0).testBit j=true->j<i:=fun hi h=>Rk Rp hi (by rw[<-hM];exact h)
 have apart:∀ {i j:Nat},i<ops.size->j<ops.size->HU M i j=true->BO us i j=true:=fun {i j} hi hj F6=>by
  have:=pY (pY hu hi) hj
  rw[Bool.and_eq_true,F6] at this
  simpa using this.1
 have VC:∀ {i j d t:Nat},i<ops.size->j<ops.size->(ops[i]?).bind (·.dst)=some d->t∈BN us j->d=t->(M.getD j 0).testBit i=true:=fun {i j d t} hi hj iX ht e=>by
  have:=pY (pY hu hi) hj
  rw[Bool.and_eq_true] at this
  have:=List.all_eq_true.1 this.2 t ht
  rw[iX] at this
  subst e
  simpa[Nat.beq_refl] using this
 have core:∀(fuel:Nat) (bp:Array Bool) (a:Act) (w:World) (A:bF) (S:aL) (F:Nat->Prop),bp.size=ops.size->cnt (fun i=>bp.getD i false) ops.size=fuel->
   (∀i,i<ops.size->bp.getD i false=true->∀d∈nG ops.toList i,bp.getD d false=true)->
   cz o n A S F (eF s0 (qT us (fun i=>bp.getD i false) ops.size)) (aT r0 (qV us (fun i=>bp.getD i false) ops.size)) a w->
   (∀j,b<=j->F j->∃i,i<ops.size/\bp.getD i false=true/\b+sd*i<=j/\j<b+sd*i+sd)->wpAny P .any ops Q fuel bp a w:=by
  intro fuel
  induction fuel with
  |zero=>
   intro bp a w A S F cw hc zH H hFX
   have ec:=DH hc
   have VD:Region.ready .any ops bp=[]:=by
    refine List.eq_nil_iff_forall_not_mem.2 fun i hi=>?_
    obtain⟨h1,op,fk,_⟩:=mem_ready.1 hi
    have vE:i<ops.size:=(Array.getElem?_eq_some_iff.1 fk).1
    have h3:=ec i vE
    rw[Array.getD_eq_getD_getElem?] at h1 h3
    rw[Array.getElem?_eq_getElem (by omega)] at h1 h3
    simp only[Option.getD_some] at h1 h3
    rw[h1] at h3;cases h3
   refine⟨VD,?_⟩
   have e1:eF s0 (qT us (fun i=>bp.getD i false) ops.size)=eF s0 (qT us (fun _=>true) ops.size):=funext fun t=>mq fun i hi _ _=>ec i hi
   have e2:aT r0 (qV us (fun i=>bp.getD i false) ops.size)=aT r0 (qV us (fun _=>true) ops.size):=funext fun t=>mu fun i hi _=>ec i hi
   rw[e1,e2] at H
   refine k A S F a w H fun j hj hn=>?_
   obtain⟨i,h1,_,h3,h4⟩:=hFX j (by omega) hn
   have:=Nat.mul_le_mul_left sd (show i+1<=ops.size from h1)
   rw[Nat.mul_succ] at this
   omega
  |succ fuel ih=>
   intro bp a w A S F cw hc zH H hFX
   constructor
   ·
    intro Rq
    exfalso
    have hex:∃i,i<ops.size/\bp.getD i false=false:=by
     refine Classical.byContradiction fun q=>?_
     have:cnt (fun i=>bp.getD i false) ops.size=cnt (fun _=>true) ops.size:=sF fun i hi=>by
      cases hx:bp.getD i false with
      |true=>rfl
      |false=>exact(q ⟨i,hi,hx⟩).elim
     have z:∀N,cnt (fun _=>true) N=0:=fun N=>by
      induction N with
      |zero=>rfl
      |succ N ih=>exact ih
     rw[this,z] at hc;cases hc
    obtain⟨i,⟨hi,hx⟩,Rr⟩:=C3 (p:=fun i=>i<ops.size/\bp.getD i false=false) hex.choose hex.choose_spec
    have dX:i∈Region.ready .any ops bp:=by
     refine mem_ready.2 ⟨?_,ops[i],Array.getElem?_eq_getElem hi,fun e he hb=>?_⟩
     .rw[Array.getD_eq_getD_getElem?,Array.getElem?_eq_getElem (by omega)] at hx ⊢
      exact hx
     have aaQ:e.on∈nG ops.toList i:=by
      unfold nG
      rw[show ops.toList[i]?=some ops[i] by simp[Array.getElem?_eq_getElem hi]]
      exact List.mem_map.2 ⟨e,List.mem_filter.2 ⟨by simpa using he,hb⟩,rfl⟩
     have iH:=Rp i hi _ aaQ
     cases hy:bp.getD e.on false with
     |true=>rfl
     |false=>have:=Rr e.on ⟨by omega,hy⟩;omega
    rw[Rq] at dX;cases dX
   intro i hir
   obtain⟨h1,op,fk,Y0⟩:=mem_ready.1 hir
   have hi:i<ops.size:=(Array.getElem?_eq_some_iff.1 fk).1
   have Y1:ops.toList[i]?=some op:=by simpa using fk
   have X5:bp.getD i false=false:=by
    rw[Array.getD_eq_getD_getElem?,Array.getElem?_eq_getElem (by omega)] at h1 ⊢
    exact h1
   have hdX:∀d∈nG ops.toList i,bp.getD d false=true:=fun d vn=>by
    unfold nG at vn
    rw[Y1] at vn
    obtain⟨e,he,rfl⟩:=List.mem_map.1 vn
    obtain⟨he1,he2⟩:=List.mem_filter.1 he
    exact Y0 e (by simpa using he1) he2
   have min:∀ {j:Nat},(M.getD i 0).testBit j=true->bp.getD j false=true:=fun h=>HT Rp (X:=fun j=>bp.getD j false) zH hi hdX (by rw[<-hM];exact h)
   have mno:∀ {j:Nat},j<ops.size->bp.getD j false=true->(M.getD j 0).testBit i=false:=fun {j} hj hl=>by
    cases hx:(M.getD j 0).testBit i with
    |false=>rfl
    |true=>
     have:=HT Rp (X:=fun j=>bp.getD j false) zH hj (zH j hj hl) (by rw[<-hM];exact hx)
     rw[X5] at this;cases this
   have ne:∀ {j:Nat},bp.getD j false=true->i≠j:=fun hl e=>by subst e;rw[X5] at hl;cases hl
   have un:∀ {j:Nat},j<ops.size->bp.getD j false=true->(M.getD i 0).testBit j=false->HU M i j=true:=fun {j} hj hl hb=>by
    unfold HU
    rw[hb,mno hj hl]
    have:Nat.beq i j=false:=by
     cases hx:Nat.beq i j with
     |false=>rfl
     |true=>exact(ne hl (cr hx)).elim
    rw[this];rfl
   obtain⟨u,hu1,Y2⟩:=YZ i op Y1
   rw[Nat.zero_add] at hu1 Y2
   have hvk:=pY hv hi
   rw[Bool.and_eq_true] at hvk
   obtain⟨DC,oe⟩:=hvk
   unfold Nb at DC
   rw[fk] at DC
   obtain⟨u',T8⟩:=Option.isSome_iff_exists.1 DC
   have HV:∀ {t j:Nat} {e:Option E2},YW ((List.range ops.size).filter (HU M i)) us t=false->j<ops.size->oB us j=some (t,e)->HU M i j=false:=fun {t j e} hh hj hs=>by
    cases hx:HU M i j with
    |false=>rfl
    |true=>
     have:=List.any_eq_false.1 hh j (List.mem_filter.2 ⟨List.mem_range.2 hj,hx⟩)
     rw[hs] at this
     exact(this (Nat.beq_refl _)).elim
   have HW:∀ {t j:Nat},YX ((List.range ops.size).filter (HU M i)) us t=false->j<ops.size->(∃x,(t,x)∈nI us j)->HU M i j=false:=fun {t j} hh hj ⟨x,hs⟩=>by
    cases hx:HU M i j with
    |false=>rfl
    |true=>
     have:=List.any_eq_false.1 hh j (List.mem_filter.2 ⟨List.mem_range.2 hj,hx⟩)
     exact(this (List.any_eq_true.2 ⟨_,hs,Nat.beq_refl _⟩)).elim
   have order:∀ {j:Nat},j<ops.size->HU M i j=false->j≠i->(M.getD i 0).testBit j=true\/(M.getD j 0).testBit i=true:=fun {j} hj F6 dL=>by
    unfold HU at F6
    have:Nat.beq i j=false:=by
     cases hx:Nat.beq i j with
     |false=>rfl
     |true=>exact(dL (cr hx).symm).elim
    rw[this] at F6
    cases h1:(M.getD i 0).testBit j with
    |true=>exact .inl rfl
    |false=>
     cases h2:(M.getD j 0).testBit i with
     |true=>exact .inr rfl
     |false=>rw[h1,h2] at F6;cases F6
   have Y3:u'=u:=by
    have:=Tr.mono (vN fun t ht=>?_) (vN fun t ht=>?_) _ T8 (s':=eF s0 (qT us (fun _=>true) i)) (r':=aT r0 (qV us (fun _=>true) i))
    .rw[Y2] at this;exact(Option.some.inj this).symm
    .rw[vK (i:=i) (X:=(M.getD i 0).testBit) (by omega) fun j r6 r7 e he=>?_]
     .refine mq fun j hj e he=>?_
      rcases order (by omega) (HV ht (by omega) he) (by omega) with q|q
      .exact q
      have:=mlt (by omega) q;omega
     cases hx:(M.getD i 0).testBit j with
     |false=>rfl
     |true=>have:=mlt hi hx;omega
    rw[vL (i:=i) (X:=(M.getD i 0).testBit) (by omega) fun j r6 r7 he=>?_]
    .refine mu fun j hj he=>?_
     rcases order (by omega) (HW ht (by omega) he) (by omega) with q|q
     .exact q
     have:=mlt (by omega) q;omega
    cases hx:(M.getD i 0).testBit j with
    |false=>rfl
    |true=>have:=mlt hi hx;omega
   subst Y3
   have Y4:(stepG P T sd hn n ops (b+sd*i) op).run (eF s0 (qT us (fun i=>bp.getD i false) ops.size)) (aT r0 (qV us (fun i=>bp.getD i false) ops.size))=some u':=by
    refine Tr.mono (vN fun t ht=>?_) (vN fun t ht=>?_) _ T8
    .refine mq fun j hj e he=>?_
     have F6:=HV ht hj he
     cases hx:bp.getD j false with
     |true=>
      cases hb:(M.getD i 0).testBit j with
      |true=>rfl
      |false=>rw[un hj hx hb] at F6;cases F6
     |false=>
      cases hb:(M.getD i 0).testBit j with
      |true=>have:=min hb;rw[hx] at this;cases this
      |false=>rfl
    refine mu fun j hj he=>?_
    have F6:=HW ht hj he
    cases hx:bp.getD j false with
    |true=>
     cases hb:(M.getD i 0).testBit j with
     |true=>rfl
     |false=>rw[un hj hx hb] at F6;cases F6
    |false=>
     cases hb:(M.getD i 0).testBit j with
     |true=>have:=min hb;rw[hx] at this;cases this
     |false=>rfl
   have dX:u'∈us:=List.mem_of_getElem? hu1
   have Kf:oB us i=u'.sl:=by unfold oB;rw[hu1];rfl
   have yY:nI us i=u'.re:=by unfold nI;rw[hu1]
   have M5:∀d,op.dst=some d->∀t e,eF s0 (qT us (fun i=>bp.getD i false) ops.size) t=some e->∀l∈e.ch,l.1≠d:=by
    intro d iX t e he l hl q
    have Y5:∀K,eF s0 (qT us (fun i=>bp.getD i false) K) t=some e->K<=ops.size->s0 t=some e\/∃j,j<ops.size/\bp.getD j false=true/\oB us j=some (t,some e):=by
     intro K
     induction K with
     |zero=>intro h _;exact .inl h
     |succ K ihK=>
      intro h hK
      simp only[qT] at h
      split at h
      .rename_i hx
       rw[kD] at h
       by_cases z:∃e',oB us K=some (t,e')
       .obtain⟨e',Lu⟩:=z
        rw[Lu] at h
        have h:k8 _ t e' t=some e:=h
        rw[eS] at h
        subst h
        exact .inr ⟨K,by omega,hx,Lu⟩
       rw[nJ fun e' Lu=>z ⟨e',Lu⟩] at h
       exact ihK h (by omega)
      exact ihK h (by omega)
    rcases Y5 _ he (Nat.le_refl _) with h3|⟨j,hj,Y6,hjs⟩
    .rw[h0 t e h3] at hl;cases hl
    have:=VC (i:=i) (j:=j) (d:=d) (t:=l.1) hi hj (by rw[fk];exact iX) (by unfold BN;rw[hjs];exact List.mem_map.2 ⟨l,hl,rfl⟩) q.symm
    rw[mno hj Y6] at this;cases this
   unfold wpOp
   rw[fk]
   simp only
   have hY:∀q,(bp.setIfInBounds i true).getD q false=(bp.getD q false||decide (q=i)):=fun q=>by
    rw[Array.getD_eq_getD_getElem?,Array.getD_eq_getD_getElem?,Array.getElem?_setIfInBounds]
    by_cases e:i=q
    .subst e
     rw[if_pos rfl,if_pos (by omega)]
     simp
    rw[if_neg e,decide_eq_false (fun z=>e z.symm),Bool.or_false]
   have sC:=DF (Q:=Q) (K:=wpAny P .any ops Q fuel (bp.setIfInBounds i true)) H (fun j r6 r7 Bq=>by
     obtain⟨q,q1,q2,q3,q4⟩:=hFX j (by omega) Bq
     have:q=i:=Rn q3 q4 r6 r7
     subst this
     rw[X5] at q2;cases q2) Y4 (cH _ dX) (mg _ dX) M5 fun A' S' a' w' H' hB=>by
    refine ih _ a' w' A' S' (FU F u'.re) (by simp[cw]) ?_ (fun q hq VE d vn=>?_) ?_ fun j hj Bq=>?_
    .have:=DI (X:=fun i=>bp.getD i false) (Y:=fun q=>(bp.setIfInBounds i true).getD q false) X5 hY hi
     rw[hc] at this;omega
    .rw[hY] at VE ⊢
     rw[Bool.or_eq_true] at VE ⊢
     rcases VE with VE|VE
     .exact .inl (zH q hq VE d vn)
     have:=of_decide_eq_true VE
     subst this
     exact .inl (hdX d vn)
    .rw[<-Kf,<-yY] at H'
     rw[M8 (X:=fun i=>bp.getD i false) (Y:=fun q=>(bp.setIfInBounds i true).getD q false) hi X5 hY fun j hj Y6 Db t e e' h1 h2=>?_,M9 (X:=fun i=>bp.getD i false) (Y:=fun q=>(bp.setIfInBounds i true).getD q false) hi X5 hY fun j hj Y6 Db t e e' h1 h2=>?_] at H'
     .rw[<-yY];exact H'
     .have hb:(M.getD i 0).testBit j=false:=by
       cases hx:(M.getD i 0).testBit j with
       |false=>rfl
       |true=>have:=mlt hi hx;omega
      have:=apart hi hj (un hj Y6 hb)
      unfold BO at this
      rw[Bool.and_eq_true] at this
      have:=List.all_eq_true.1 (List.all_eq_true.1 this.2 _ h1) _ h2
      rw[Nat.beq_refl] at this;cases this
     have hb:(M.getD i 0).testBit j=false:=by
      cases hx:(M.getD i 0).testBit j with
      |false=>rfl
      |true=>have:=mlt hi hx;omega
     have:=apart hi hj (un hj Y6 hb)
     unfold BO at this
     rw[Bool.and_eq_true,h1,h2] at this
     have:=this.1
     simp only[Nat.beq_refl] at this;cases this
    rcases Bq with Bq|⟨x,hx⟩
    .obtain⟨q,q1,q2,q3,q4⟩:=hFX j hj Bq
     exact⟨q,q1,by rw[hY,q2];rfl,q3,q4⟩
    have hk:=List.all_eq_true.1 (show(nI us i).all _=true from oe) (j,x) (by rw[yY];exact hx)
    simp only[Bool.or_eq_true] at hk
    have U9:=Nat.div_add_mod (j-b) sd
    have Lp:=Nat.mod_lt (j-b) X4
    rcases hk with hk|hk|hk
    .have:j<b:=by simpa using Nat.blt_eq▸hk
     omega
    .have:=cr hk
     rw[this] at U9
     refine⟨i,hi,by rw[hY];simp,by omega,by omega⟩
    have hl:=min hk
    have iH:=mlt hi hk
    exact⟨(j-b)/sd,by omega,by rw[hY,hl];rfl,by omega,by omega⟩
   split
   .rename_i hw;rw[if_pos hw] at sC;exact .inl sC
   rename_i hw;rw[if_neg hw] at sC;exact sC
 have nK:∀i,(Array.replicate ops.size false).getD i false=false:=fun i=>by
  rw[Array.getD_eq_getD_getElem?,Array.getElem?_replicate];split<;>rfl
 have e1:eF s0 (qT us (fun i=>(Array.replicate ops.size false).getD i false) ops.size)=s0:=funext fun t=>by
  rw[vK (i:=0) (Nat.zero_le _) fun j _ _ _ _=>nK j];rfl
 have e2:aT r0 (qV us (fun i=>(Array.replicate ops.size false).getD i false) ops.size)=r0:=funext fun t=>by
  rw[vL (i:=0) (Nat.zero_le _) fun j _ _ _=>nK j];rfl
 refine core ops.size _ a w A S F (by simp) ?_ (fun i _ hl=>by rw[nK] at hl;cases hl) (by rw[e1,e2];exact H) fun j hj Bq=>(hF j hj Bq).elim
 rw[sF (Y:=fun _=>false) fun i _=>nK i,DG]
end
structure Mode where
 ro:Option Nat
 ds:List Deferred
def pl:Mode:=⟨none,[]⟩
def Mode.F (m:Mode):Fence:={Fence.wide with round:=m.ro}
def fe (a:Act)(ds:List Deferred):Act:={a with defers:=a.defers++ds}
theorem kE (a:Act):fe a []=a:=by unfold fe;rw[List.append_nil]
def oh (m:Mode)(Q:iu):iu:=fun e a w=> ∃a0,a=fe a0 m.ds/\Q e a0 w
def _root_.Go.Code.jK (m:Mode)(P:Program)(c:Code)(Q:iu)(a:Act)(w:World):Prop:=c.wpIn m.F 0 P (oh m Q) (fe a m.ds) w
section
variable {m:Mode}{P:Program}{Q Q':iu}{a:Act}{w:World}
theorem xq {c:Code}:c.jK pl P Q a w↔c.wp P Q a w:=by
 have e:oh pl Q=Q:=by
  funext e a w
  apply propext
  constructor
  .rintro⟨a0,h1,h2⟩
   rw[show pl.ds=[] from rfl,kE] at h1
   subst h1;exact h2
  intro h;exact⟨a,(kE a).symm,h⟩
 unfold Code.jK
 rw[e,show pl.ds=[] from rfl,kE]
 exact wpIn_wide
theorem xu {c:Code}(h:c.jK m P Q a w)(k:∀e a w,Q e a w->Q' e a w):c.jK m P Q' a w:=wpIn_mono h fun e a w ⟨a0,h1,h2⟩=>⟨a0,h1,k _ _ _ h2⟩
theorem Nf (h:Q .normal a w):Code.skip.jK m P Q a w:=wpIn_skip ⟨a,rfl,h⟩
theorem Ng {i:Nat}(h:Q (.exit i) a w):(Code.exit i).jK m P Q a w:=wpIn_exit ⟨a,rfl,h⟩
theorem vO (h:Q .ret a w):Code.ret.jK m P Q a w:=wpIn_ret ⟨a,rfl,h⟩
theorem Rt {x y:Code}(h:x.jK m P (Exit.then (y.jK m P Q) Q) a w):(Code.seq x y).jK m P Q a w:=by
 refine wpIn_seq (wpIn_mono h fun e a w ⟨a0,h1,h2⟩=>?_)
 subst h1
 cases e with
 |normal=>exact h2
 |_=>exact⟨a0,rfl,h2⟩
theorem Kg {i:Nat}{x:Code}(h:x.jK m P (Exit.inBlock i Q) a w):(Code.block i x).jK m P Q a w:=by
 refine wpIn_block (wpIn_mono h fun e a w ⟨a0,h1,h2⟩=>?_)
 subst h1
 cases e with
 |normal=>exact⟨a0,rfl,h2⟩
 |exit j=>
  have h2:if j=i then Q .normal a0 w else Q (.exit j) a0 w:=h2
  show if j=i then oh m Q .normal _ w else oh m Q (.exit j) _ w
  split
  .rename_i q;rw[if_pos q] at h2;exact⟨a0,rfl,h2⟩
  rename_i q;rw[if_neg q] at h2;exact⟨a0,rfl,h2⟩
 |_=>exact⟨a0,rfl,h2⟩
theorem Am (c:Operand)(ds:List Deferred):(fe a ds).eval c=a.eval c:=by cases c<;>rfl
theorem DJ {c:Operand}{x y:Code}{t:Bool}(hc:a.eval c= .bool t)(h:(if t then x else y).jK m P Q a w):(Code.cond c x y).jK m P Q a w:=wpIn_cond (t:=t) (by rw[Am];exact hc) h
theorem qW {c:Operand}{x y:Code}(hc:a.eval c= .bool true)(h:x.jK m P Q a w):(Code.cond c x y).jK m P Q a w:=DJ hc h
theorem oV {c:Operand}{x y:Code}(hc:a.eval c= .bool false)(h:y.jK m P Q a w):(Code.cond c x y).jK m P Q a w:=DJ hc h
theorem xw {c:Operand}{x y:Code}{b:Bool}(hc:a.eval c= .bool b)(h1:b=true->x.jK m P Q a w)(h2:b=false->y.jK m P Q a w):(Code.cond c x y).jK m P Q a w:=by
 cases b with
 |true=>exact qW hc (h1 rfl)
 |false=>exact oV hc (h2 rfl)
def BP (Q:iu):iu:=fun e a w=>match e with
 | .normal=>Q .normal a w
 |_=>False
def DK (ops:Array Oper):Bool:=ops.toList.all fun o=>match o.op with| .defer _=>false|_=>true
theorem DL {ops:Array Oper}(h:DK ops=true){o:Oper}(ho:o∈ops.toList):∀c,o.op≠.defer c:=by
 intro c e
 have:=List.all_eq_true.1 h o ho
 rw[e] at this
 cases this
theorem mw (d:Option Tmp)(v:Value)(ds:List Deferred):(fe a ds).put d v=fe (a.put d v) ds:=by unfold Act.put fe;cases d<;>rfl
theorem VF {n:Nat}{f:FuncId}{args:Array Value}{R:Ending->World->Prop}(h:Calls P f args w R):CallsIn m.F n P f args w R:=by
 have:=callsIn_wide (n:=n).2 h
 cases m with
 |mk ro ds=>exact this
theorem Y7 {n:Nat}{row:String}{args:Array Value}{R:Value->World->Prop}(h:Rows P row args w R):RowsIn m.F n P row args w R:=by
 cases m with
 |mk ro ds=>
  cases ro with
  |none=>exact fun c cs _=>let⟨v,w',r,s⟩:=h c cs;⟨v,w',r,stepsIn_wide.2 s⟩
  |some l=>exact fun c cs _=>let⟨v,w',r,s⟩:=h c cs;⟨v,w',r,stepsIn_wide.2 s⟩
theorem Nh {o:Oper}{K K':Act->World->Prop}(hd:∀c,o.op≠.defer c)(hK:∀a w,K a w->K' (fe a m.ds) w)(h:o.wp P a w K (BP Q)\/(o.asks P a w/\LetsOut (BP Q))):o.wpIn m.F 0 P (fe a m.ds) w K' (oh m Q):=by
 rcases h with h|⟨_,a0,w0,hq⟩
 .refine⟨fun f _=>trivial,?_⟩
  rw[Oper.semAt_eq _ _ _ hd]
  have he:execOp (fe a m.ds).eval o=execOp a.eval o:=by
   congr 1
  rw[he]
  unfold Oper.wp at h
  generalize (execOp a.eval o).run P w=r at*
  cases r with
  |ok x w'=>
   cases x with
   |value v=>simp only[Oper.upon,Oper.uponIn] at h ⊢;rw[mw];exact hK _ _ h
   |skip=>simp only[Oper.upon,Oper.uponIn] at h ⊢;rw[mw];exact hK _ _ h
   |enter f args=>
    simp only[Oper.upon,Oper.uponIn] at h ⊢
    refine⟨fun e=>(by cases e),(VF (m:=m) h).mono fun e w'' he=>?_⟩
    cases e with
    |returned v=>simp only at he ⊢;rw[mw];exact hK _ _ he
    |panicked ch=>exact(he:False).elim
    |outgrown=>obtain⟨a0,w0,hq⟩:=he;exact(hq:False).elim
   |row rw_ args=>
    simp only[Oper.upon,Oper.uponIn] at h ⊢
    refine⟨fun e=>(by cases e),RowsIn.mono (Y7 (m:=m) h) fun v w'' he=>?_⟩
    rw[mw];exact hK _ _ he
   |defer d=>simp only[Oper.upon,Oper.uponIn] at h ⊢;have:=hK _ _ h;unfold Act.put fe at this ⊢;cases iX:o.dst<;>rw[iX] at this<;>exact this
   |_=>exact(h:False).elim
  |halt x w'=>cases x<;>simp only[Oper.upon,Oper.uponIn] at h ⊢ <;>exact(h:False).elim
 exact(hq:False).elim
theorem Ni {ops:Array Oper}:∀(l:List Oper) (a:Act) (w:World),(∀o∈l,∀c,o.op≠.defer c)->wpList P ops (BP Q) l a w->wpListIn m.F 0 P ops (oh m Q) l (fe a m.ds) w
 |[],a,w,_,h=>⟨a,rfl,h⟩
 |o::l,a,w,hl,h=>by
  simp only[wpList] at h
  simp only[wpListIn]
  have ih:=fun a w=>Ni (ops:=ops) l a w (fun o' Ls=>hl o' (List.mem_cons_of_mem _ Ls))
  have ew:(fe a m.ds).tmps=a.tmps:=rfl
  rw[ew]
  by_cases hw:Region.wanted o (yielded ops a.tmps)=true
  .rw[if_pos hw] at h ⊢
   exact Nh (hl o List.mem_cons_self) ih h
  rw[if_neg hw] at h ⊢
  exact⟨fun f _=>trivial,by rw[mw];exact ih _ _ h⟩
theorem HX {ops:Array Oper}(y7:∀o∈ops.toList,∀c,o.op≠.defer c):∀(k:Nat) (bp:Array Bool) (a:Act) (w:World),wpAny P .any ops (BP Q) k bp a w->wpAnyIn m.F 0 P .any ops (oh m Q) k bp (fe a m.ds) w
 |0,_,a,_,h=>⟨h.1,a,rfl,h.2⟩
 |k+1,bp,a,w,h=>by
  refine⟨fun q=>⟨a,rfl,h.1 q⟩,fun i hi=>?_⟩
  have h2:=h.2 i hi
  unfold wpOp at h2
  unfold wpOpIn
  have ew:(fe a m.ds).tmps=a.tmps:=rfl
  cases ho:ops[i]? with
  |none=>rw[ho] at h2;exact HX y7 k _ a w h2
  |some o=>
   rw[ho] at h2
   simp only at h2 ⊢
   rw[ew]
   by_cases hw:Region.wanted o (yielded ops a.tmps)=true
   .rw[if_pos hw] at h2 ⊢
    exact Nh (y7 o (by have:=List.mem_of_getElem? (l:=ops.toList) (i:=i) (by simpa using ho);exact this)) (fun a w=>HX y7 k _ a w) h2
   rw[if_neg hw] at h2 ⊢
   exact⟨fun f _=>trivial,by rw[mw];exact HX y7 k _ _ w h2⟩
theorem oo {id:Nat}{ops:Array Oper}(hc:DK ops=true)(h:wpList P ops (BP Q) ops.toList a w):(Code.region id ops false).jK m P Q a w:=
 wpIn_region_list (Ni _ a w (fun o ho=>DL hc ho) h)
theorem xx {id:Nat}{ops:Array Oper}(hc:DK ops=true)(hm:P.follows .mixedOrders=true)(h:wpAny P .any ops (BP Q) ops.size (Array.replicate ops.size false) a {w with drawn:=w.drawn+1}):(Code.region id ops true).jK m P Q a w:=
 wpIn_region_any hm (HX (fun o ho=>DL hc ho) _ _ a _ h)
theorem Nj (X:Type)(I:X->Act->World->Prop)(μ:X->Nat)(x0:X){c:Code}(h0:I x0 a w)
  (round:∀x a w,I x a w->c.jK m P (Exit.then (fun a' w'=> ∃x',I x' a' w'/\μ x'<μ x) Q) a w):(Code.loop c).jK m P Q a w:=by
 classical
 have hL:∀a w,(∃x,I x a w)->∃k,(∃x,I x a w/\μ x=k)/\∀j,(∃x,I x a w/\μ x=j)->k<=j:=fun a w ⟨x,hx⟩=>C3 (p:=fun k=> ∃x,I x a w/\μ x=k) (μ x) ⟨x,hx,rfl⟩
 let mm:Act->World->Nat:=fun a w=>if h:∃x,I x a w then Classical.choose (hL a w h) else 0
 have hm:∀a w,(∃x,I x a w)->(∃x,I x a w/\μ x=mm a w)/\∀k,(∃x,I x a w/\μ x=k)->mm a w<=k:=by
  intro a w h
  have:=Classical.choose_spec (hL a w h)
  simp only[mm,dif_pos h]
  exact this
 let un:Act->Act:=fun a=>{a with defers:=a.defers.take (a.defers.length-m.ds.length)}
 have F6:∀a:Act,un (fe a m.ds)=a:=fun a=>by
  cases a
  show Act.mk _ _=_
  simp[fe]
 refine wpIn_loop (fun a' w=> ∃a0,a'=fe a0 m.ds/\∃x,I x a0 w) (fun a' w=>mm (un a') w) ⟨a,rfl,x0,h0⟩ fun a' w' hI=>?_
 obtain⟨a0,rfl,hx⟩:=hI
 obtain⟨⟨x,Q9,MK⟩,_⟩:=hm a0 w' hx
 refine wpIn_mono (round x a0 w' Q9) fun e a2 w2 ⟨a3,e3,hq⟩=>?_
 subst e3
 cases e with
 |normal=>
  obtain⟨y,hy1,hy2⟩:=hq
  refine⟨⟨a3,rfl,y,hy1⟩,?_⟩
  have:=(hm a3 w2 ⟨y,hy1⟩).2 _ ⟨y,hy1,rfl⟩
  rw[F6,F6]
  omega
 |_=>exact⟨a3,rfl,hq⟩
end
structure gH:Type where
 env:List (Nat×Option E2)
 rs:List (Nat×Option R2)
 nx:Nat
def ni (σ:gH):Nat->Option E2:=eF (fun _=>none) σ.env
def iL (σ:gH):Nat->Option R2:=aT (fun _=>none) σ.rs
structure iK (o:bD)(n:Nat)(σ:gH)(a:Act)(w:World):Prop where
 ok:∃A S,cz o n A S (· <σ.nx) (ni σ) (iL σ) a w
 ch:∀t e,ni σ t=some e->e.ch=[]
 np:∀j,o.pF j->j<o.kp
structure Fh (o:bD)(n:Nat)(r0:Nat->Option R2)(F0 L:Nat->Prop)(σ:gH)(a:Act)(w:World):Prop where
 ok:∃A S F,cz o n A S F (ni σ) (aT r0 σ.rs) a w/\(∀j,σ.nx<=j->L j->¬F j)/\∀j,F j->F0 j\/∃x,(j,x)∈σ.rs
 ch:∀t e,ni σ t=some e->e.ch=[]
theorem iK.i {o:bD}{n:Nat}{σ:gH}{a:Act}{w:World}(h:iK o n σ a w):Fh o n (fun _=>none) (fun _=>True) (fun _=>True) σ a w:=by
 obtain⟨⟨A,S,H⟩,h0,_⟩:=h
 exact⟨⟨A,S,_,H,fun j h1 _ h2=>by omega,fun _ _=>.inl tv⟩,h0⟩
theorem Fh.x {o:bD}{n:Nat}{σ:gH}{a:Act}{w:World}(h:Fh o n (fun _=>none) (fun _=>True) (fun _=>True) σ a w)(np:∀j,o.pF j->j<o.kp):iK o n σ a w:=by
 obtain⟨⟨A,S,F,H,h1,_⟩,h0⟩:=h
 exact⟨⟨A,S,H.agree (cV.refl _ _) fun j hj=>Classical.byContradiction fun q=>h1 j (Nat.le_of_not_lt q) tv hj⟩,h0,np⟩
inductive It where
 |run (p:List Nat)
 |dM (i:Nat)
 |lp (K:Act->World->Prop)
def post (mo:Mode)(P:Program)(B:Code)(Q:iu):List It->iu
 |[]=>Q
 | .run p::r=>Exit.then (fun a w=>(sub B p).jK mo P (post mo P B Q r) a w) (post mo P B Q r)
 | .dM i::r=>Exit.inBlock i (post mo P B Q r)
 | .lp K::r=>Exit.then K (post mo P B Q r)
def X6 (i:Nat):List It->Option (List It)
 |[]=>none
 | .run _::r=>X6 i r
 | .lp _::r=>X6 i r
 | .dM j::r=>match Nat.beq i j with
  |true=>some r
  |false=>X6 i r
section
variable (P:Program)(T:List (cE P))(sd:Nat)(dr:Bool)(hn:List (Nat×Bool))(n:Nat)
def Nk (ops:Array Oper)(d:Bool)(σ:gH):Option (List pW×gH):=
 match DK ops with
 |false=>none
 |true=>match xo P T sd hn n ops (ni σ) (iL σ) ops.toList σ.nx [] [] with
 |some us=>match d with
  |false=>some (us,⟨vl (Ah us [])++σ.env,uU us []++σ.rs,σ.nx+sd*ops.size⟩)
  |true=>match dr && (Nc P T sd hn n ops (ni σ) (iL σ) σ.nx us (M6 (nG ops.toList) ops.size) && P.follows .mixedOrders) with
   |true=>some (us,⟨vl (qT us (fun _=>true) ops.size)++σ.env,qV us (fun _=>true) ops.size++σ.rs,σ.nx+sd*ops.size⟩)
   |false=>none
 |none=>none
def Nl (σ:gH):Operand->Option Bool
 | .tmp t=>match ni σ t with
  |some ⟨[],.one (.b (.lit b))⟩=>some b
  |_=>none
 | .const (.bool b)=>some b
 |_=>none
structure Ru:Type 1 where
 cs:List Prop
 hs:List Hid
 st:List It
 σ:gH
def exec (B:Code):Nat->List It->gH->List Prop->List Hid->Option Ru
 |0,_,_,_,_=>none
 |f+1,st,σ,cs,hs=>match st with
  | .dM _::r=>exec B f r σ cs hs
  | .run p::r=>match sub B p with
   | .seq _ _=>exec B f (.run (p++[0]):: .run (p++[1])::r) σ cs hs
   | .block i _=>exec B f (.run (p++[0]):: .dM i::r) σ cs hs
   | .skip=>exec B f r σ cs hs
   | .exit i=>match X6 i r with
    |some r'=>exec B f r' σ cs hs
    |none=>none
   | .region _ ops d=>match Nk P T sd dr hn n ops d σ with
    |some x=>exec B f r x.2 (cs++x.1.flatMap (·.cs)) (hs++x.1.flatMap (·.hs))
    |none=>some ⟨cs,hs,.run p::r,σ⟩
   | .cond c _ _=>match Nl σ c with
    |some true=>exec B f (.run (p++[0])::r) σ cs hs
    |some false=>exec B f (.run (p++[1])::r) σ cs hs
    |none=>some ⟨cs,hs,.run p::r,σ⟩
   |_=>some ⟨cs,hs,.run p::r,σ⟩
  |st=>some ⟨cs,hs,st,σ⟩
end
section
variable {mo:Mode}{P:Program}{o:bD}{n:Nat}{σ σ':gH}{a:Act}{w w':World}{T:List (cE P)}{sd:Nat}{dr:Bool}{hn:List (Nat×Bool)}{B:Code}{Q:iu}{st:List It}{r0:Nat->Option R2}{F0 L:Nat->Prop}
theorem BQ {i:Nat}:∀ {st r:List It},X6 i st=some r->post mo P B Q r .normal a w->post mo P B Q st (.exit i) a w
 |[],r,h,_=>by cases h
 | .run _::st,r,h,k=>BQ (st:=st) h k
 | .lp _::st,r,h,k=>BQ (st:=st) h k
 | .dM j::st,r,h,k=>by
  simp only[X6] at h
  split at h
  .rename_i e
   cases h
   have:=cr e
   subst this
   show(if i=i then post mo P B Q st .normal a w else _)
   rw[if_pos rfl];exact k
  rename_i e
  show(if i=j then post mo P B Q st .normal a w else post mo P B Q st (.exit i) a w)
  rw[if_neg (Uf e)]
  exact BQ h k
theorem kF:∀ {st:List It},Q .ret a w->post mo P B Q st .ret a w
 |[],h=>h
 | .run _::st,h=>kF (st:=st) h
 | .dM _::st,h=>kF (st:=st) h
 | .lp _::st,h=>kF (st:=st) h
theorem vP (x:List (Nat×Option E2))(σ:gH)(rs:List (Nat×Option R2))(k:Nat):ni ⟨x++σ.env,rs,k⟩=eF (ni σ) x:=uV _ _ _
theorem Rw (x:List (Nat×Option R2))(σ:gH)(env:List (Nat×Option E2))(k:Nat):iL ⟨env,x++σ.rs,k⟩=aT (iL σ) x:=dz _ _ _
theorem Nn (r0:Nat->Option R2)(σ:gH):∀j x,iL σ j=some x->aT r0 σ.rs j=some x:=fun j x h=>BL (fun _ _ q=>by cases q) h
theorem VG {id:Nat}{ops:Array Oper}{d:Bool}{us:List pW}(h:Fh o n r0 F0 L σ a w)(hr:Nk P T sd dr hn n ops d σ=some (us,σ'))(hL:∀j,j<σ'.nx->L j)(Al:dr=true->(∀j,L j)/\(∀j,F0 j)/\r0=fun _=>none)(cH:∀p∈us.flatMap (·.cs),p)(mg:∀h∈us.flatMap (·.hs),∀A w,h.lhs A w=h.rhs A w)
  (k:∀a' w',Fh o n r0 F0 L σ' a' w'->Q .normal a' w'):(Code.region id ops d).jK mo P Q a w:=by
 obtain⟨⟨A,S,F,H,hF,hF0⟩,h0⟩:=h
 have yZ:∀u∈us,∀p∈u.cs,p:=fun u hu p hp=>cH p (List.mem_flatMap.2 ⟨u,hu,hp⟩)
 have Y8:∀u∈us,∀h∈u.hs,∀A w,h.lhs A w=h.rhs A w:=fun u hu p hp=>mg p (List.mem_flatMap.2 ⟨u,hu,hp⟩)
 unfold Nk at hr
 split at hr
 .cases hr
 rename_i qF
 have fin:∀ {en:List (Nat×Option E2)} {re:List (Nat×Option R2)} {A':bF} {S':aL} {F':Nat->Prop} {a':Act} {w':World},cz o n A' S' F' (eF (ni σ) en) (aT (aT r0 σ.rs) re) a' w'->(∀j,σ.nx+sd*ops.size<=j->L j->¬F' j)->(∀j,F' j->F0 j\/∃x,(j,x)∈re++σ.rs)->
   Fh o n r0 F0 L ⟨vl en++σ.env,re++σ.rs,σ.nx+sd*ops.size⟩ a' w':=by
  intro en re A' S' F' a' w' H' QH YV
  refine⟨⟨A',S',F',?_,QH,YV⟩,?_⟩
  .show cz o n A' S' F' (ni ⟨vl en++σ.env,re++σ.rs,_⟩) (aT r0 (re++σ.rs)) a' w'
   rw[vP,dz]
   exact H'.less fun t e he=>(sD h0 he).1
  rw[vP]
  exact fun t e he=>(sD h0 he).2
 split at hr
 .rename_i YU Ro
  split at hr
  .cases hr
   refine oo qF ?_
   have:=BM (Q:=BP Q) (L:=L) (rest:=[]) h0 (Aj (Nn r0 σ) Ro) H hF (fun j hj=>hL j (by rw[Array.length_toList] at hj;exact hj)) yZ Y8 fun A' S' F' a' w' H' QH YV=>k a' w' (fin H' (by rw[Array.length_toList] at QH;exact QH) fun j hj=>?_)
   .rwa[List.append_nil] at this
   rcases YV j hj with q|⟨x,hx⟩
   .exact(hF0 j q).imp (fun z=>z) fun⟨x,hx⟩=>⟨x,List.mem_append_right _ hx⟩
   exact .inr ⟨x,List.mem_append_left _ hx⟩
  split at hr
  .rename_i hb
   cases hr
   rw[Bool.and_eq_true,Bool.and_eq_true] at hb
   obtain⟨d1,d2,d3⟩:=Al hb.1
   subst d3
   refine xx qF hb.2.2 ?_
   have H1:cz o n A S F (ni σ) (iL σ) a {w with drawn:=w.drawn+1}:=⟨H.size,H.eY,H.env,H.kZ,H.dD,H.bB.on ⟨rfl,rfl,rfl,Nat.le_refl _,fun _ _=>rfl⟩,H.args,H.wO⟩
   exact Nd h0 Ro rfl hb.2.1 yZ Y8 (fun A' S' F' a' w' H' QH=>k a' w' (fin H' (fun j hj _=>QH j hj) fun j _=>.inl (d2 j))) H1 fun j hj=>hF j hj (d1 j)
  cases hr
 cases hr
theorem Rx {ops:Array Oper}{d:Bool}{us:List pW}(hr:Nk P T sd dr hn n ops d σ=some (us,σ')):σ.nx<=σ'.nx:=by
 unfold Nk at hr
 split at hr
 .cases hr
 split at hr
 .split at hr
  .cases hr;exact Nat.le_add_right _ _
  split at hr
  .cases hr;exact Nat.le_add_right _ _
  cases hr
 cases hr
theorem DM (h:Fh o n r0 F0 L σ a w){c:Operand}{b:Bool}(hb:Nl σ c=some b):a.eval c= .bool b:=by
 obtain⟨⟨A,S,F,H,_⟩,h0⟩:=h
 unfold Nl at hb
 split at hb
 .rename_i t
  split at hb
  .rename_i b' he
   cases hb
   have:=(H.env t _ he).1 (fun l hl=>by cases hl)
   simp only[Act.eval,Array.getD_eq_getD_getElem?]
   rw[show a.tmps[t]?=some (.bool b) from this];rfl
  cases hb
 .cases hb;rfl
 cases hb
theorem HY {x:Ru}(hL:∀j,j<x.σ.nx->L j)(Al:dr=true->(∀j,L j)/\(∀j,F0 j)/\r0=fun _=>none):∀ {f:Nat} {st:List It} {σ:gH} {cs:List Prop} {hs:List Hid} {a:Act} {w:World},exec P T sd dr hn n B f st σ cs hs=some x->((∀p∈cs,p∈x.cs)/\(∀p∈hs,p∈x.hs)/\σ.nx<=x.σ.nx)/\(Fh o n r0 F0 L σ a w->(∀p∈x.cs,p)->(∀h∈x.hs,∀A w,h.lhs A w=h.rhs A w)->(∀a' w',Fh o n r0 F0 L x.σ a' w'->post mo P B Q x.st .normal a' w')->post mo P B Q st .normal a w):=by
 intro f
 induction f with
 |zero=>intro st σ cs hs a w h;cases h
 |succ f ih=>
  intro st σ cs hs a w h
  have stop:some (⟨cs,hs,st,σ⟩:Ru)=some x->((∀p∈cs,p∈x.cs)/\(∀p∈hs,p∈x.hs)/\σ.nx<=x.σ.nx)/\(Fh o n r0 F0 L σ a w->(∀p∈x.cs,p)->(∀h∈x.hs,∀A w,h.lhs A w=h.rhs A w)->(∀a' w',Fh o n r0 F0 L x.σ a' w'->post mo P B Q x.st .normal a' w')->post mo P B Q st .normal a w):=fun e=>by
   cases e;exact⟨⟨fun _ h=>h,fun _ h=>h,Nat.le_refl _⟩,fun h _ _ k=>k a w h⟩
  unfold exec at h
  split at h
  .rename_i i r
   obtain⟨h1,h2⟩:=ih (a:=a) (w:=w) h
   exact⟨h1,h2⟩
  .rename_i p r
   have inner:∀ {R:Prop},R->(Fh o n r0 F0 L σ a w->(∀p∈x.cs,p)->(∀h∈x.hs,∀A w,h.lhs A w=h.rhs A w)->(∀a' w',Fh o n r0 F0 L x.σ a' w'->post mo P B Q x.st .normal a' w')->(sub B p).jK mo P (post mo P B Q r) a w)->R/\(Fh o n r0 F0 L σ a w->(∀p∈x.cs,p)->(∀h∈x.hs,∀A w,h.lhs A w=h.rhs A w)->(∀a' w',Fh o n r0 F0 L x.σ a' w'->post mo P B Q x.st .normal a' w')->post mo P B Q (.run p::r) .normal a w):=fun h1 h2=>⟨h1,h2⟩
   split at h
   .rename_i c1 c2 hc
    obtain⟨h1,h2⟩:=ih (a:=a) (w:=w) h
    refine inner h1 fun q1 q2 q3 q4=>?_
    have:=h2 q1 q2 q3 q4
    have this:(sub B (p++[0])).jK mo P (Exit.then (fun a w=>(sub B (p++[1])).jK mo P (post mo P B Q r) a w) (post mo P B Q r)) a w:=this
    rw[dU,hc,LP] at this
    rw[hc]
    refine Rt (xu this fun e a w z=>?_)
    cases e<;>first|exact z|skip
    have z:(sub B (p++[1])).jK mo P (post mo P B Q r) a w:=z
    rw[dU,hc,LQ] at z
    exact z
   .rename_i i c1 hc
    obtain⟨h1,h2⟩:=ih (a:=a) (w:=w) h
    refine inner h1 fun q1 q2 q3 q4=>?_
    have this:(sub B (p++[0])).jK mo P (Exit.inBlock i (post mo P B Q r)) a w:=h2 q1 q2 q3 q4
    rw[dU,hc,Ft] at this
    rw[hc]
    exact Kg this
   .rename_i hc
    obtain⟨h1,h2⟩:=ih (a:=a) (w:=w) h
    refine inner h1 fun q1 q2 q3 q4=>?_
    rw[hc]
    exact Nf (h2 q1 q2 q3 q4)
   .rename_i i hc
    split at h
    .rename_i r' hu
     obtain⟨h1,h2⟩:=ih (a:=a) (w:=w) h
     refine inner h1 fun q1 q2 q3 q4=>?_
     rw[hc]
     exact Ng (BQ hu (h2 q1 q2 q3 q4))
    cases h
   .rename_i id ops d hc
    split at h
    .rename_i y hy
     have hm:=(ih (a:=a) (w:=w) h).1
     refine inner ⟨fun q hq=>hm.1 q (List.mem_append_left _ hq),fun q hq=>hm.2.1 q (List.mem_append_left _ hq),Nat.le_trans (Rx (σ':=y.2) hy) hm.2.2⟩ fun q1 q2 q3 q4=>?_
     rw[hc]
     exact VG (σ':=y.2) q1 hy (fun j hj=>hL j (Nat.lt_of_lt_of_le hj hm.2.2)) Al (fun q hq=>q2 q (hm.1 q (List.mem_append_right _ hq))) (fun q hq=>q3 q (hm.2.1 q (List.mem_append_right _ hq))) fun a' w' h'=>(ih (a:=a') (w:=w') h).2 h' q2 q3 q4
    exact stop h
   .rename_i c c1 c2 hc
    split at h
    .rename_i hb
     obtain⟨h1,h2⟩:=ih (a:=a) (w:=w) h
     refine inner h1 fun q1 q2 q3 q4=>?_
     have this:(sub B (p++[0])).jK mo P (post mo P B Q r) a w:=h2 q1 q2 q3 q4
     rw[dU,hc,zF] at this
     rw[hc]
     exact qW (DM q1 hb) this
    .rename_i hb
     obtain⟨h1,h2⟩:=ih (a:=a) (w:=w) h
     refine inner h1 fun q1 q2 q3 q4=>?_
     have this:(sub B (p++[1])).jK mo P (post mo P B Q r) a w:=h2 q1 q2 q3 q4
     rw[dU,hc,zG] at this
     rw[hc]
     exact oV (DM q1 hb) this
    exact stop h
   exact stop h
  exact stop h
end
structure At (mo:Mode)(P:Program)(T:List (cE P))(B:Code)(Q:iu)(st:List It)(a:Act)(w:World):Prop where
 get:post mo P B Q st .normal a w
def xS:Option Ru->gH
 |some x=>x.σ
 |none=>⟨[],[],0⟩
def xI:Option Ru->List It
 |some x=>x.st
 |none=>[]
def xC:Option Ru->List Prop
 |some x=>x.cs
 |none=>[False]
def xH:Option Ru->List Hid
 |some x=>x.hs
 |none=>[]
abbrev y8 (P:Program)(T:List (cE P))(hn:List (Nat×Bool))(n:Nat)(B:Code)(st:List It)(σ:gH):Option Ru:=exec P T 4096 true hn n B 5000 st σ [] []
def Kh (B:Code)(σ:gH):List It->Option (BE×List Nat×List It)
 | .run p::r=>match sub B p with
  | .cond (.tmp t) _ _=>match ni σ t with
   |some ⟨[],.one (.b e)⟩=>some (e,p,r)
   |_=>none
  |_=>none
 |_=>none
def tY (B:Code):List It->Option (List Nat×List It)
 | .run p::r=>match sub B p with
  | .loop _=>some (p,r)
  |_=>none
 |_=>none
def oP {α β:Type}(x:Option (α×List Nat×β)):List Nat:=match x with
 |some y=>y.2.1
 |none=>[]
def oR {α:Type}(x:Option (α×List Nat×List It)):List It:=match x with
 |some y=>y.2.2
 |none=>[]
def lP (x:Option (List Nat×List It)):List Nat:=match x with
 |some y=>y.1
 |none=>[]
def lR (x:Option (List Nat×List It)):List It:=match x with
 |some y=>y.2
 |none=>[]
def bM:List (Nat×Option Nat)->Nat->Option (Option Nat)
 |[],_=>none
 |p::l,j=>match Nat.beq p.1 j with
  |true=>some p.2
  |false=>bM l j
def Sc.rn (ρ:List (Nat×Option Nat)):Sc->Option Sc
 | .v x=>some (.v x)
 | .b e=>some (.b (.raw e.den))
 | .own j=>match bM ρ j with
  |some (some k)=>some (.own k)
  |some none=>some (.v (.slice none 0 0))
  |none=>none
 | .mp j=>match bM ρ j with
  |some (some k)=>some (.mp k)
  |some none=>some (.v (.map none))
  |none=>none
 | .ptr j off=>match bM ρ j with
  |some (some k)=>some (.ptr k off)
  |_=>none
 | .el _ _ _ _=>none
 | .nh f cF=>(rI ρ cF).map (.nh f)
 | .hd _ _ _=>none
 | .pd j=>match bM ρ j with
  |some (some k)=>some (.pd k)
  |some none=>some (.v (.pointer none))
  |none=>none
where rI (ρ:List (Nat×Option Nat)):List (Nat×Nat)->Option (List (Nat×Nat))
 |[]=>some []
 |c::l=>match bM ρ c.1,rI ρ l with
  |some (some k),some l'=>some ((k,c.2)::l')
  |_,_=>none
def Sc.nrm:Sc->Sc
 | .b e=>.b (.raw e.den)
 |s=>s
def Ry (ρ:List (Nat×Option Nat)):List Sc->Option (List Sc)
 |[]=>some []
 |c::l=>match c.rn ρ,Ry ρ l with
  |some c',some l'=>some (c'::l')
  |_,_=>none
def Sy.rn (ρ:List (Nat×Option Nat)):Sy->Option Sy
 | .one s=>(s.rn ρ).map .one
 | .agg cs=>(Ry ρ cs).map .agg
 | .lY _=>none
def Sy.nrm:Sy->Sy
 | .one s=>.one s.nrm
 | .agg cs=>.agg (cs.map Sc.nrm)
 | .lY ps=>.lY ps
theorem Sc.sG (A:bF):∀s:Sc,s.nrm.den A=s.den A
 | .b _=>rfl
 | .v _=>rfl
 | .own _=>rfl
 | .mp _=>rfl
 | .ptr _ _=>rfl
 | .el _ _ _ _=>rfl
 | .nh _ _=>rfl
 | .hd _ _ _=>rfl
 | .pd _=>rfl
theorem Sy.sG (A:bF):∀s:Sy,s.nrm.den A=s.den A
 | .one s=>Sc.sG A s
 | .agg cs=>by simp only[nrm,den,List.map_map];congr 2;exact List.map_congr_left fun c _=>Sc.sG A c
 | .lY _=>rfl
def aaR:R2->Bool
 | .ro _ _=>true
 | .nA _ _ _=>true
 |_=>false
def xy (r:Nat->Option R2)(ρ:List (Nat×Option Nat)):List (Nat×Option R2)->List (Nat×Option R2)
 |[]=>[]
 |(j,some x)::l=>match aaR x,bM ρ j with
  |true,some (some k)=>match r k with
   |some y=>match qQ y with
    |some z=>(k,some z)::xy r ρ l
    |none=>xy r ρ l
   |none=>xy r ρ l
  |_,_=>xy r ρ l
 |(_,none)::l=>xy r ρ l
def R2.rn (ρ:List (Nat×Option Nat)):R2->Option R2
 | .box t cs=>(Ry ρ cs).map (.box t)
 | .ext (.nest q h e t ie l)=>match bM ρ q with
  |some (some k)=>some (.ext (.nest k h e t ie l))
  |_=>none
 | .ext (.fc q k h t ie m)=>match bM ρ q with
  |some (some p)=>some (.ext (.fc p k h t ie m))
  |_=>none
 | .ext (.De q k t m x)=>match bM ρ q with
  |some (some p)=>some (.ext (.De p k t m x))
  |_=>none
 | .ext (.vw _ _ _ _ _)=>none
 | .ext (.fwd _)=>none
 |x=>some x
def R2.nrm:R2->R2
 | .box t cs=>.box t (cs.map Sc.nrm)
 |x=>x
def lg:R2->Option R2
 | .row e t []=>some (.row e t [])
 | .ro t []=>some (.ro t [])
 | .ext (.nest q none e t ie [])=>some (.ext (.nest q none e t ie []))
 | .ext (.uK t x)=>match(show Option (El t) from x) with
  |none=>some (.ext (.uK t (none:Option (El t))))
  |some _=>none
 | .nA k t m=>match(show List (bI k×El t) from m) with
  |[]=>some (.nA k t ([]:List (bI k×El t)))
  |_=>none
 |_=>none
def ey (ρ:List (Nat×Option Nat))(σ σ':gH):Prop:=(σ'.env.map fun p=>p.2.map fun e=>(e.ch,e.sy.rn ρ))=σ'.env.map fun p=>(ni σ p.1).map fun e=>(e.ch,some e.sy.nrm)
def R2.Y9 (ρ:List (Nat×Option Nat))(j:Nat)(x:R2):Option R2:=match bM ρ j with
 |some none=>some x
 |_=>x.rn ρ
def fU (ρ:List (Nat×Option Nat))(σ σ':gH):Prop:=(σ'.rs.map fun p=>p.2.bind (R2.Y9 ρ p.1))=σ'.rs.map fun p=>match bM ρ p.1 with
 |some (some k)=>(aT (iL σ) (xy (iL σ) ρ σ'.rs) k).map R2.nrm
 |some none=>p.2.bind lg
 |none=>none
def R2.VH (k:Nat):R2->Bool
 | .ext (.nest q _ _ _ _ _)=>Nat.blt q k
 | .ext (.fc q _ _ _ _ _)=>Nat.blt q k
 | .box _ _=>false
 |_=>true
def iO (ρ:List (Nat×Option Nat))(σ':gH):Bool:=
 ρ.all (fun p=>Nat.blt p.1 σ'.nx) && (σ'.env.all (fun p=>match p.2 with|some e=>e.ch.isEmpty|none=>false) && (σ'.rs.all (fun p=>match p.2 with|some x=>(match bM ρ p.1 with|some (some _)=>(x.rn ρ).isSome|some none=>x.VH σ'.nx|none=>false)|none=>false) && σ'.rs.all fun p=>σ'.rs.all fun q=>Nat.beq p.1 q.1||(match bM ρ p.1,bM ρ q.1 with|some (some j),some (some k)=>!Nat.beq j k|_,_=>true)))
theorem mz:∀ {ρ:List (Nat×Option Nat)} {j:Nat} {x:Option Nat},bM ρ j=some x->(j,x)∈ρ
 |[],_,_,h=>by cases h
 |p::l,j,x,h=>by
  simp only[bM] at h
  split at h
  .rename_i e
   cases h
   rw[<-cr e];exact List.mem_cons_self
  exact List.mem_cons_of_mem _ (mz h)
theorem pZ {r:Nat->Option R2}{ρ:List (Nat×Option Nat)}:∀ {l:List (Nat×Option R2)},XQ r (xy r ρ l)
 |[]=>fun _ h=>by cases h
 |(j,none)::l=>pZ (l:=l)
 |(j,some x)::l=>by
  simp only[xy]
  split
  .rename_i k _ _
   split
   .rename_i y hr
    split
    .rename_i z hz
     intro p hp
     rcases List.mem_cons.1 hp with rfl|hp
     .exact⟨y,z,hr,hz,rfl⟩
     exact pZ p hp
    exact pZ
   exact pZ
  exact pZ
def dS (A:bF)(ρ:List (Nat×Option Nat)):bF:=
 ⟨fun j=>match bM ρ j with|some (some k)=>A.p k|_=>none,fun j=>match bM ρ j with|some (some k)=>A.n k|_=>0,fun j=>match bM ρ j with|some (some k)=>A.c k|_=>0,fun j=>match bM ρ j with|some (some k)=>A.b k|_=>0,fun j=>match bM ρ j with|some (some k)=>A.f k|_=>fun _=>undef,fun j=>match bM ρ j with|some (some k)=>A.m k|_=>none⟩
section
variable {A:bF}{ρ:List (Nat×Option Nat)}
theorem ez {j k:Nat}(h:bM ρ j=some (some k)):(dS A ρ).v j=A.v k/\(dS A ρ).b j=A.b k/\(dS A ρ).m j=A.m k/\(dS A ρ).p j=A.p k/\(dS A ρ).f j=A.f k:=by
 unfold dS bF.v;simp only[h];exact⟨tv,tv,tv,tv,tv⟩
theorem No {j:Nat}(h:bM ρ j=some none):(dS A ρ).p j=none:=by
 unfold dS;simp only[h]
theorem An:∀ {l l':List (Nat×Nat)},Sc.rn.rI ρ l=some l'->(l.map fun c=>Value.pointer (some ⟨(dS A ρ).b c.1,c.2,none⟩))=(l'.map fun c=>Value.pointer (some ⟨A.b c.1,c.2,none⟩))/\∀c∈l,(bM ρ c.1).isSome=true
 |[],l',h=>by cases h;exact⟨rfl,fun _ q=>by cases q⟩
 |c::l,l',h=>by
  simp only[Sc.rn.rI] at h
  split at h
  .rename_i k l2 h1 h2
   cases h
   obtain⟨k1,k2⟩:=An h2
   refine⟨by rw[List.map_cons,List.map_cons,k1,(ez (A:=A) h1).2.1],fun z hz=>?_⟩
   rcases List.mem_cons.1 hz with rfl|hz
   .rw[h1];rfl
   exact k2 z hz
  cases h
theorem xz {j:Nat}(h:bM ρ j=some none):(dS A ρ).v j= .slice none 0 0:=by
 unfold dS bF.v;simp only[h]
theorem Np {j:Nat}(h:bM ρ j=some none):(dS A ρ).m j=none:=by
 unfold dS;simp only[h]
theorem Sc.DN {s t:Sc}(h:s.rn ρ=some t):s.den (dS A ρ)=t.den A/\s.all (fun j=>(bM ρ j).isSome=true)/\s.b9 (dS A ρ):=by
 cases s with
 |v x=>cases h;exact⟨rfl,tv,tv⟩
 |b e=>cases h;exact⟨rfl,tv,tv⟩
 |own j=>
  simp only[rn] at h
  split at h
  .rename_i k hk;cases h;exact⟨(ez hk).1,by show(bM ρ j).isSome=true;rw[hk];rfl,tv⟩
  .rename_i hk;cases h;exact⟨xz hk,by show(bM ρ j).isSome=true;rw[hk];rfl,tv⟩
  cases h
 |mp j=>
  simp only[rn] at h
  split at h
  .rename_i k hk;cases h;exact⟨by simp only[den];rw[(ez hk).2.2.1],by show(bM ρ j).isSome=true;rw[hk];rfl,tv⟩
  .rename_i hk;cases h;exact⟨by simp only[den];rw[Np hk],by show(bM ρ j).isSome=true;rw[hk];rfl,tv⟩
  cases h
 |ptr j off=>
  simp only[rn] at h
  split at h
  .rename_i k hk;cases h;exact⟨by simp only[den];rw[(ez hk).2.1],by show(bM ρ j).isSome=true;rw[hk];rfl,tv⟩
  cases h
 |el _ _ _ _=>cases h
 |nh f cF=>
  obtain⟨Up,h1,rfl⟩:=Option.map_eq_some_iff.1 h
  obtain⟨k1,k2⟩:=An (A:=A) h1
  exact⟨by simp only[den];rw[k1],k2,tv⟩
 |hd _ _ _=>cases h
 |pd j=>
  simp only[rn] at h
  split at h
  .rename_i k hk;cases h;exact⟨by simp only[den];rw[(ez hk).2.2.2.1],by show(bM ρ j).isSome=true;rw[hk];rfl,tv⟩
  .rename_i hk;cases h;exact⟨by simp only[den];rw[No hk],by show(bM ρ j).isSome=true;rw[hk];rfl,tv⟩
  cases h
theorem xA:∀ {l l':List Sc},Ry ρ l=some l'->l.map (Sc.den (dS A ρ))=l'.map (Sc.den A)/\∀c∈l,c.all (fun j=>(bM ρ j).isSome=true)/\c.b9 (dS A ρ)
 |[],l',h=>by cases h;exact⟨rfl,fun _ q=>by cases q⟩
 |c::l,l',h=>by
  simp only[Ry] at h
  split at h
  .rename_i c' l2 h1 h2
   cases h
   obtain⟨k1,k2,k3⟩:=Sc.DN (A:=A) h1
   obtain⟨k4,k5⟩:=xA h2
   refine⟨by rw[List.map_cons,List.map_cons,k1,k4],fun z hz=>?_⟩
   rcases List.mem_cons.1 hz with rfl|hz
   .exact⟨k2,k3⟩
   exact k5 z hz
  cases h
theorem Sy.DN {s t:Sy}(h:s.rn ρ=some t):s.den (dS A ρ)=t.den A/\s.all (fun j=>(bM ρ j).isSome=true)/\s.b9 (dS A ρ):=by
 cases s with
 |one c=>obtain⟨c',h1,rfl⟩:=Option.map_eq_some_iff.1 h;exact Sc.DN h1
 |agg cs=>
  obtain⟨sk,h1,rfl⟩:=Option.map_eq_some_iff.1 h
  obtain⟨k1,k2⟩:=xA (A:=A) h1
  exact⟨by simp only[den,k1],fun c hc=>(k2 c hc).1,fun c hc=>(k2 c hc).2⟩
 |lY _=>cases h
end
theorem rJ {α β:Type}{l:List α}{f g:α->β}(h:l.map f=l.map g){x:α}(hx:x∈l):f x=g x:=List.map_inj_left.1 h x hx
theorem BR {x:R2}(h:some x=lg x){T:aL}{w:World}{A:bF}{ρ:List (Nat×Option Nat)}{j:Nat}(hk:bM ρ j=some none):jV x=false/\(∀b,¬(x.den (dS A ρ) j).has b)/\(x.den (dS A ρ) j).ok T w/\x.b9 (dS A ρ)/\∀F:Nat->Prop,(∀k,x.VH k=true->(∀i,i<k->F i)->x.all F):=by
 have ev:=xz (A:=A) hk
 cases x with
 |vF k' t l=>simp[lg] at h
 |iter k' t l lf cnt cur=>simp[lg] at h
 |map k' t l=>simp[lg] at h
 |ar t l=>simp[lg] at h
 |box t cs=>simp[lg] at h
 |nA k' t l=>
  have key:∀m:List (bI k'×El t),some (R2.nA k' t m)=lg (.nA k' t m)->m=[]:=fun m=>by
   cases m with
   |nil=>exact fun _=>rfl
   |cons _ _=>intro q;cases q
  have e:=key l h
  subst e
  refine⟨rfl,(fun b q=>by cases q),?_,tv,fun F k _ _=>trivial⟩
  show Rd T w (.map ((dS A ρ).m j)) (show bl k' (El t) from([]:List (bI k'×El t)))
  rw[Np hk];exact Bl ⟨none,rfl,rfl⟩
 |ro t l=>
  cases l with
  |nil=>
   refine⟨rfl,(fun b q=>by cases q),?_,tv,fun F k _ _=>trivial⟩
   show Rd T w ((dS A ρ).v j) ([]:List (El t))
   rw[ev];exact Fu
  |cons _ _=>simp[lg] at h
 |row e t l=>
  cases l with
  |nil=>
   refine⟨rfl,(fun b q=>by have q:((dS A ρ).v j).ownBlock=some b:=q;rw[ev] at q;cases q),?_,tv,fun F k _ _=>trivial⟩
   show di T w e ((dS A ρ).v j) ([]:List (El t))
   rw[ev];exact di.nil
  |cons _ _=>simp[lg] at h
 |ext y=>
  cases y with
  |nest q hh e t ie l=>
   cases hh with
   |some _=>simp[lg] at h
   |none=>
    cases l with
    |cons _ _=>simp[lg] at h
    |nil=>
     refine⟨rfl,(fun b z=>?_),?_,tv,fun F k h1 h2=>h2 q (by simpa using Nat.blt_eq▸h1)⟩
     .have z:((dS A ρ).v j).ownBlock=some b\/∃c,c<([]:List (El t)).length*aH t/\_:=z
      rcases z with z|⟨c,hc,_⟩
      .rw[ev] at z;cases z
      simp at hc
     show iy T w ((dS A ρ).v j) ((dS A ρ).f q) none e t ie ([]:List (El t))
     rw[ev]
     exact⟨⟨[],ga.nil w e _,fun _ q=>(by cases q),fun c x hc=>by simp[gl] at hc⟩,fun c d b hc=>by simp at hc,fun c b hc=>by simp at hc⟩
  |fc q k hh t ie m=>simp[lg] at h
  |uK t x=>
   have key:∀m:Option (El t),some (R2.ext (.uK t m))=lg (.ext (.uK t m))->m=none:=fun m=>by
    cases m with
    |none=>exact fun _=>rfl
    |some _=>intro q;cases q
   have e:=key x h
   subst e
   refine⟨rfl,(fun b q=>by cases q),?_,tv,fun F k _ _=>trivial⟩
   show Rd T w (.pointer ((dS A ρ).p j)) (show kW (El t) from(none:Option (El t)))
   rw[No hk];exact Fx rfl
  |par _ _=>simp[lg] at h
  |Dd _ _=>simp[lg] at h
  |yQ _ _=>simp[lg] at h
  |De _ _ _ _ _=>simp[lg] at h
  |Df _=>simp[lg] at h
  |vw _ _ _ _ _=>simp[lg] at h
  |fwd _=>simp[lg] at h
def qI (ρ:List (Nat×Option Nat)):Nat->Bool
 |0=>true
 |k+1=>(match bM ρ k with|some (some i)=>Nat.beq i k|_=>false) && qI ρ k
theorem BS {ρ:List (Nat×Option Nat)}:∀ {n:Nat},qI ρ n=true->∀j,j<n->bM ρ j=some (some j)
 |n+1,h,j,hj=>by
  unfold qI at h
  rw[Bool.and_eq_true] at h
  by_cases q:j=n
  .subst q
   have h1:=h.1
   split at h1
   .rename_i i hi;rw[hi,cr h1]
   cases h1
  exact BS h.2 j (by omega)
theorem tZ {o:bD}{n:Nat}{σ σ':gH}{a:Act}{w:World}(ρ:List (Nat×Option Nat))(h:iK o n σ a w)(h1:ey ρ σ σ')(h2:fU ρ σ σ')(h3:iO ρ σ'=true)(h4:qI ρ o.kp=true):iK o n σ' a w:=by
 obtain⟨⟨A,S,H⟩,h0,np⟩:=h
 obtain⟨S1,hS,H1⟩:=H.freeze (pZ (r:=iL σ) (ρ:=ρ) (l:=σ'.rs))
 unfold iO at h3
 simp only[Bool.and_eq_true] at h3
 obtain⟨i1,i2,i3,i4⟩:=h3
 have iH:∀j,(bM ρ j).isSome=true->j<σ'.nx:=fun j hj=>by
  obtain⟨x,hx⟩:=Option.isSome_iff_exists.1 hj
  have:=List.all_eq_true.1 i1 _ (mz hx)
  simpa using Nat.blt_eq▸this
 have VI:∀t e,ni σ' t=some e->e.ch=[]/\∃e',ni σ t=some e'/\e'.ch=[]/\e.sy.rn ρ=some e'.sy.nrm:=fun t e he=>by
  have hm:(t,some e)∈σ'.env:=(pX he).resolve_left fun q=>by cases q
  have jR:e.ch=[]:=by
   have:=List.all_eq_true.1 i2 _ hm
   simpa using this
  have:=rJ h1 hm
  simp only[Option.map_some] at this
  cases Lu:ni σ t with
  |none=>rw[Lu] at this;cases this
  |some e'=>
   rw[Lu] at this
   simp only[Option.map_some,Option.some.injEq,Prod.mk.injEq] at this
   exact⟨jR,e',rfl,by rw[<-this.1];exact jR,this.2⟩
 have ua:∀ {re:List (Nat×Option R2)} {j:Nat} {x:R2},aT (fun _=>none) re j=some x->(j,some x)∈re:=by
  intro re
  induction re with
  |nil=>intro j x h;cases h
  |cons p re ih=>
   intro j x h
   have h:jw (aT (fun _=>none) re) p.1 p.2 j=some x:=h
   by_cases q:p.1=j
   .subst q;rw[dy] at h;rw[<-h];exact List.mem_cons_self
   rw[dR q] at h;exact List.mem_cons_of_mem _ (ih h)
 have MV:∀ {i j k:Nat} {x y:R2},iL σ' i=some x->iL σ' j=some y->bM ρ i=some (some k)->bM ρ j=some (some k)->i=j:=fun {i j k x y} hx hy hi hj=>by
  have:=List.all_eq_true.1 (List.all_eq_true.1 i4 _ (ua hx)) _ (ua hy)
  rw[Bool.or_eq_true] at this
  rcases this with q|q
  .exact cr q
  rw[hi,hj] at q;simp at q
 have nt:∀j x,iL σ' j=some x->(∃k y,bM ρ j=some (some k)/\aT (iL σ) (xy (iL σ) ρ σ'.rs) k=some y/\x.den (dS A ρ) j=y.den A k/\(jV x=true->y=x)/\x.all (fun j=>(bM ρ j).isSome=true)/\x.b9 (dS A ρ))\/(bM ρ j=some none/\some x=lg x/\x.VH σ'.nx=true):=fun j x hx=>by
  have hm:(j,some x)∈σ'.rs:=ua hx
  have hs:=List.all_eq_true.1 i3 _ hm
  have:=rJ h2 hm
  simp only[Option.bind_some] at this
  dsimp only at hs
  split at this
  .rename_i k hk
   have hk:bM ρ j=some (some k):=hk
   have eJ:R2.Y9 ρ j x=x.rn ρ:=by unfold R2.Y9;rw[hk]
   rw[eJ] at this
   clear eJ
   rw[hk] at hs
   cases hy:aT (iL σ) (xy (iL σ) ρ σ'.rs) k with
   |none=>
    rw[hy] at this
    simp only[Option.map_none] at this
    rw[this] at hs;cases hs
   |some y=>
    rw[hy] at this
    simp only[Option.map_some] at this
    refine .inl ⟨k,y,hk,hy,?_⟩
    obtain⟨ev,eb,em,ep,ef⟩:=ez (A:=A) hk
    cases x with
    |ro t l=>
     cases y<;>first|(simp[R2.rn,R2.nrm] at this;done)|skip
     have this:R2.ro t l=R2.ro _ _:=Option.some.inj this
     cases this
     exact⟨by simp only[R2.den,ev],fun q=>(by cases q),tv,tv⟩
    |ar t l=>
     cases y<;>first|(simp[R2.rn,R2.nrm] at this;done)|skip
     have this:R2.ar t l=R2.ar _ _:=Option.some.inj this
     cases this
     exact⟨rfl,fun _=>rfl,tv,tv⟩
    |row e t l=>
     cases y<;>first|(simp[R2.rn,R2.nrm] at this;done)|skip
     have this:R2.row e t l=R2.row _ _ _:=Option.some.inj this
     cases this
     exact⟨by simp only[R2.den,ev],fun q=>(by cases q),tv,tv⟩
    |box t cs=>
     obtain⟨sk,hc,hy2⟩:=Option.map_eq_some_iff.1 this
     cases y<;>first|(simp[R2.nrm] at hy2;done)|skip
     rename_i t2 cs2
     simp only[R2.nrm,R2.box.injEq] at hy2
     obtain⟨rfl,rfl⟩:=hy2
     obtain⟨k1,k2⟩:=xA (A:=A) hc
     refine⟨?_,fun q=>(by cases q),fun c hc=>(k2 c hc).1,fun c hc=>(k2 c hc).2⟩
     simp only[R2.den,eb,k1,List.map_map]
     congr 2
     exact List.map_congr_left fun c _=>Sc.sG A c
    |nA k' t l=>
     cases y<;>first|(simp[R2.rn,R2.nrm] at this;done)|skip
     have this:R2.nA k' t l=R2.nA _ _ _:=Option.some.inj this
     cases this
     exact⟨by simp only[R2.den,em],fun q=>(by cases q),tv,tv⟩
    |vF k' t l=>
     cases y<;>first|(simp[R2.rn,R2.nrm] at this;done)|skip
     have this:R2.vF k' t l=R2.vF _ _ _:=Option.some.inj this
     cases this
     exact⟨rfl,fun _=>rfl,tv,tv⟩
    |map k' t l=>
     cases y<;>first|(simp[R2.rn,R2.nrm] at this;done)|skip
     have this:R2.map k' t l=R2.map _ _ _:=Option.some.inj this
     cases this
     exact⟨by simp only[R2.den,em],fun q=>(by cases q),tv,tv⟩
    |iter k' t l lf cnt cur=>
     cases y<;>first|(simp[R2.rn,R2.nrm] at this;done)|skip
     have this:R2.iter k' t l lf cnt cur=R2.iter _ _ _ _ _ _:=Option.some.inj this
     cases this
     exact⟨by simp only[R2.den,eb],fun q=>(by cases q),tv,tv⟩
    |ext z=>
     cases z with
     |nest q hh e t ie l=>
      simp only[R2.rn] at this
      split at this
      .rename_i q' hq
       cases y<;>first|(simp[R2.nrm] at this;done)|skip
       have this:R2.ext (.nest q' hh e t ie l)=R2.ext _:=Option.some.inj this
       cases this
       exact⟨by simp only[R2.den,X2.den,ev,(ez (A:=A) hq).2.2.2.2],fun q=>(by cases q),by show(bM ρ q).isSome=true;rw[hq];rfl,tv⟩
      cases this
     |fc q kc hh t ie m=>
      simp only[R2.rn] at this
      split at this
      .rename_i q' hq
       cases y<;>first|(simp[R2.nrm] at this;done)|skip
       have this:R2.ext (.fc q' kc hh t ie m)=R2.ext _:=Option.some.inj this
       cases this
       exact⟨by simp only[R2.den,X2.den,em,(ez (A:=A) hq).2.2.2.2],fun q=>(by cases q),by show(bM ρ q).isSome=true;rw[hq];rfl,tv⟩
      cases this
     |uK t l=>
      cases y<;>first|(simp[R2.rn,R2.nrm] at this;done)|skip
      have this:R2.ext (.uK t l)=R2.ext _:=Option.some.inj this
      cases this
      exact⟨by simp only[R2.den,X2.den,ep],fun q=>(by cases q),tv,tv⟩
     |par t l=>
      cases y<;>first|(simp[R2.rn,R2.nrm] at this;done)|skip
      have this:R2.ext (.par t l)=R2.ext _:=Option.some.inj this
      cases this
      exact⟨rfl,fun _=>rfl,tv,tv⟩
     |Dd t l=>
      cases y<;>first|(simp[R2.rn,R2.nrm] at this;done)|skip
      have this:R2.ext (.Dd t l)=R2.ext _:=Option.some.inj this
      cases this
      exact⟨by simp only[R2.den,X2.den,eb],fun q=>(by cases q),tv,tv⟩
     |yQ t l=>
      cases y<;>first|(simp[R2.rn,R2.nrm] at this;done)|skip
      have this:R2.ext (.yQ t l)=R2.ext _:=Option.some.inj this
      cases this
      exact⟨rfl,fun _=>rfl,tv,tv⟩
     |De q kc t m kx=>
      simp only[R2.rn] at this
      split at this
      .rename_i q' hq
       cases y<;>first|(simp[R2.nrm] at this;done)|skip
       have this:R2.ext (.De q' kc t m kx)=R2.ext _:=Option.some.inj this
       cases this
       exact⟨by simp only[R2.den,X2.den,em,(ez (A:=A) hq).2.2.2.2],fun q=>(by cases q),by show(bM ρ q).isSome=true;rw[hq];rfl,tv⟩
      cases this
     |Df D=>
      cases y<;>first|(simp[R2.rn,R2.nrm] at this;done)|skip
      have this:R2.ext (.Df D)=R2.ext _:=Option.some.inj this
      cases this
      exact⟨rfl,fun q=>(by cases q),tv,tv⟩
     |vw _ _ _ _ _=>cases y<;>simp[R2.rn,R2.nrm] at this
     |fwd _=>cases y<;>simp[R2.rn,R2.nrm] at this
  .rename_i hk
   have hk:bM ρ j=some none:=hk
   rw[hk] at hs
   have e:R2.Y9 ρ j x=some x:=by unfold R2.Y9;rw[hk]
   rw[e] at this
   exact .inr ⟨hk,this,hs⟩
  rename_i hk
  have hk:bM ρ j=none:=hk
  rw[hk] at hs;cases hs
 refine⟨⟨dS A ρ,S1,?_⟩,fun t e he=>(VI t e he).1,np⟩
 refine⟨H1.size,H1.eY,fun t e he=>?_,fun t e he _=>?_,fun j x hj=>?_,?_,fun j x hj=>?_,⟨fun j hj=>iH j (by rw[BS h4 j (np j hj)];rfl),fun j hj=>by
  obtain⟨e1,e2,e3⟩:=H1.wO.2 j hj
  obtain⟨q1,q2,q3,q4,q5⟩:=ez (A:=A) (BS h4 j (np j hj))
  exact⟨e1.trans q1.symm,e2.trans q2.symm,e3.1.trans q5.symm,e3.2.trans q3.symm⟩⟩⟩
 .obtain⟨jR,e',Lu,Za,hrn⟩:=VI t e he
  have hv:=(H1.env t e' Lu).1 (by rw[Za];exact fun l hl=>by cases hl)
  refine⟨fun _=>?_,fun q=>(q (by rw[jR];exact fun l hl=>by cases hl)).elim⟩
  show a.tmps[t]?=some (e.sy.den (dS A ρ))
  rw[(Sy.DN hrn).1,Sy.sG];exact hv
 .obtain⟨jR,e',Lu,Za,hrn⟩:=VI t e he
  obtain⟨_,k2,k3⟩:=Sy.DN (A:=A) hrn
  exact⟨Sy.mono iH k2,k3⟩
 .rcases nt j x hj with⟨k,y,hk,hy,hd,_,ha,hg⟩|⟨hk,hx,Nq⟩
  .exact⟨iH j (by rw[hk];rfl),R2.mono iH ha,hg⟩
  obtain⟨_,_,_,q4,q5⟩:=BR (A:=A) (T:=S1) (w:=w) hx hk
  exact⟨iH j (by rw[hk];rfl),q5 _ _ Nq fun i hi=>hi,q4⟩
 .have dX:∀ {j:Nat} {r:Rs},bq (dS A ρ) (iL σ') j=some r->(∃k x,iL σ' j=some x/\bM ρ j=some (some k)/\bq A (aT (iL σ) (xy (iL σ) ρ σ'.rs)) k=some r)\/((∀b,¬r.has b)/\r.ok S1 w):=fun {j r} hj=>by
   obtain⟨x,hx,rfl⟩:=Option.map_eq_some_iff.1 hj
   rcases nt j x hx with⟨k,y,hk,hy,hd,_,ha,hg⟩|⟨hk,MK,_⟩
   .exact .inl ⟨k,x,hx,hk,by show(aT (iL σ) _ k).map _=_;rw[hy,hd];rfl⟩
   obtain⟨_,q2,q3,_⟩:=BR (A:=A) (T:=S1) (w:=w) MK hk
   exact .inr ⟨q2,q3⟩
  refine⟨H1.bB.oK,H1.bB.src,H1.bB.ig,fun j r hj=>?_,fun j r b hj hb=>?_,fun i j ri rj b hi hj ei ej=>?_⟩
  .rcases dX hj with⟨k,_,_,_,hk⟩|⟨_,hk⟩
   .exact H1.bB.ok k r hk
   exact hk
  .rcases dX hj with⟨k,_,_,_,hk⟩|⟨hk,_⟩
   .exact H1.bB.own k r b hk hb
   exact(hk b hb).elim
  rcases dX hi with⟨k,x,hx,Ki,hk⟩|⟨hk,_⟩
  .rcases dX hj with⟨l,y,hy,eZ,hl⟩|⟨hl,_⟩
   .have:=H1.bB.apart k l ri rj b hk hl ei ej
    subst this
    exact MV hx hy Ki eZ
   exact(hl b ej).elim
  exact(hk b ei).elim
 rcases nt j _ hj with⟨k,y,hk,hy,hd,hr,ha,hg⟩|⟨hk,hx,_⟩
 .cases VJ:jV x with
  |false=>exact gB VJ
  |true=>
   have:=hr VJ
   subst this
   obtain⟨ev,eb,em,ep,ef⟩:=ez (A:=A) hk
   have:=H1.args k y hy
   cases y with
   |ar t l=>show Rd _ _ _ _;rw[ev];exact this
   |vF k' t l=>show Rd _ _ _ _;rw[em];exact this
   |ext z=>
    cases z with
    |par t l=>show Rd _ _ _ _;rw[ep];exact this
    |yQ t l=>show gA _ _ _ _;rw[eb];exact this
    |_=>cases VJ
   |_=>cases VJ
 exact gB (BR (A:=A) (T:=S1) (w:=w) hx hk).1
section
variable {mo:Mode}{P:Program}{o:bD}{n:Nat}{σ σ':gH}{a:Act}{w:World}{T:List (cE P)}{B:Code}{Q:iu}{st:List It}
theorem go {pr:Prop}(hn:List (Nat×Bool))(h:iK o n σ a w)(hp:pr)(k:∀a w,iK o n (xS (y8 P T hn n B st σ)) a w->At mo P T B Q (xI (y8 P T hn n B st σ)) a w)
  (h1:(y8 P T hn n B st σ).isSome=true:=by delta y8;kernel_rfl) (h2:QY (xC (y8 P T hn n B st σ))=pr:=by delta y8;kernel_rfl)
  (h3:∀A w,(xH (y8 P T hn n B st σ)).map (fun h=>h.lhs A w)=(xH (y8 P T hn n B st σ)).map fun h=>h.rhs A w:=by delta y8;intro A w;kernel_rfl):At mo P T B Q st a w:=by
 obtain⟨x,hx⟩:=Option.isSome_iff_exists.1 h1
 rw[hx] at h2 h3 k
 refine⟨(HY (Q:=Q) (fun _ _=>trivial) (fun _=>⟨fun _=>trivial,fun _=>trivial,rfl⟩) hx).2 h.i (HF.1 (by show QY x.cs;rw[show QY x.cs=pr from h2];exact hp)) (fun y hy A w=>?_) fun a w h'=>(k a w (h'.x h.np)).get⟩
 exact rJ (h3 A w) hy
theorem aC (hn:List (Nat×Bool))(h:iK o n σ a w)(k:∀a w,iK o n (xS (y8 P T hn n B st σ)) a w->At mo P T B Q (xI (y8 P T hn n B st σ)) a w)
 (h1:(y8 P T hn n B st σ).isSome=true:=by delta y8;kernel_rfl) (h2:QY (xC (y8 P T hn n B st σ))=True:=by delta y8;kernel_rfl)
 (h3:∀A w,(xH (y8 P T hn n B st σ)).map (fun h=>h.lhs A w)=(xH (y8 P T hn n B st σ)).map fun h=>h.rhs A w:=by delta y8;intro A w;kernel_rfl):At mo P T B Q st a w:=go hn h tv k h1 h2 h3
theorem ag {p q:Prop}(h:iK o n σ a w)(k1:p->At mo P T B Q (.run (oP (Kh B σ st)++[0])::oR (Kh B σ st)) a w)(k2:q->At mo P T B Q (.run (oP (Kh B σ st)++[1])::oR (Kh B σ st)) a w)
  (hc:(Kh B σ st).map (fun x=>(x.1.is true,x.1.is false))=some (p,q):=by kernel_rfl):At mo P T B Q st a w:=by
 obtain⟨⟨A,S,H⟩,h0,np⟩:=h
 obtain⟨⟨e,pt,r⟩,hx,hpq⟩:=Option.map_eq_some_iff.1 hc
 rw[hx] at k1 k2
 simp only[Prod.mk.injEq] at hpq
 obtain⟨rfl,rfl⟩:=hpq
 unfold Kh at hx
 split at hx
 .rename_i p' r'
  split at hx
  .rename_i t c1 c2 jT
   split at hx
   .rename_i e' he
    cases hx
    have hv:=(H.env t _ he).1 (fun l hl=>by cases hl)
    have hv:a.eval (.tmp t)= .bool e.den:=by
     simp only[Act.eval,Array.getD_eq_getD_getElem?]
     rw[show a.tmps[t]?=some (.bool e.den) from hv];rfl
    refine⟨?_⟩
    show(sub B pt).jK mo P (post mo P B Q r) a w
    rw[jT]
    refine xw hv (fun z=>?_) (fun z=>?_)
    .have:=k1 ((BE.iM e true).2 z)
     have this:(sub B (pt++[0])).jK mo P (post mo P B Q r) a w:=this.get
     rw[dU,jT,zF] at this
     exact this
    have:=k2 ((BE.iM e false).2 z)
    have this:(sub B (pt++[1])).jK mo P (post mo P B Q r) a w:=this.get
    rw[dU,jT,zG] at this
    exact this
   cases hx
  cases hx
 cases hx
theorem go_loop (X:Type)(σ':X->gH)(I:X->Prop)(μ:X->Nat)(x0:X)(ρ:List (Nat×Option Nat))(h:iK o n σ a w)(h0:I x0)
  (round:∀(x:X) (a:Act) (w:World) (K:Act->World->Prop),(∀(y:X) (ρ:List (Nat×Option Nat)) {BT:gH} {a:Act} {w:World},iK o n BT a w->I y->μ y<μ x->
    (h1:ey ρ BT (σ' y):=by delta ey;kernel_rfl)->(h2:fU ρ BT (σ' y):=by delta fU;kernel_rfl)->(h3:iO ρ (σ' y)=true:=by kernel_rfl)->(h4:qI ρ o.kp=true:=by kernel_rfl)->K a w)->
   I x->iK o n (σ' x) a w->At mo P T B Q (.run (lP (tY B st)++[0]):: .lp K::lR (tY B st)) a w)
  (ht:(tY B st).isSome=true:=by kernel_rfl) (h1:ey ρ σ (σ' x0):=by delta ey;kernel_rfl) (h2:fU ρ σ (σ' x0):=by delta fU;kernel_rfl) (h3:iO ρ (σ' x0)=true:=by kernel_rfl) (h4:qI ρ o.kp=true:=by kernel_rfl):At mo P T B Q st a w:=by
 obtain⟨⟨pt,r⟩,hx⟩:=Option.isSome_iff_exists.1 ht
 rw[hx] at round
 unfold tY at hx
 split at hx
 .rename_i p' r'
  split at hx
  .rename_i b jT
   cases hx
   refine⟨?_⟩
   show(sub B pt).jK mo P (post mo P B Q r) a w
   rw[jT]
   refine Nj X (fun x a w=>iK o n (σ' x) a w/\I x) μ x0 ⟨tZ ρ h h1 h2 h3 h4,h0⟩ fun x a w hI=>?_
   have:=(round x a w (fun a w=> ∃y,(iK o n (σ' y) a w/\I y)/\μ y<μ x) (fun y ρ _ _ _ h hI hμ h1 h2 h3 h4=>⟨y,⟨tZ ρ h h1 h2 h3 h4,hI⟩,hμ⟩) hI.2 hI.1).get
   have this:(sub B (pt++[0])).jK mo P (Exit.then _ (post mo P B Q r)) a w:=this
   rw[dU,jT,JE] at this
   exact this
  cases hx
 cases hx
theorem bZ {K:Act->World->Prop}(k:K a w)(ht:(match st with| .lp K::_=>some K|_=>none)=some K:=by kernel_rfl):At mo P T B Q st a w:=by
 split at ht
 .cases ht;exact⟨k⟩
 cases ht
theorem xB (h:iK o n σ a w)(j:Nat){t:Ty}{l:List (El t)}(hj:(iL σ j).bind gP=some ⟨t,l⟩:=by kernel_rfl):(l.length:Int)<=9223372036854775807:=by
 obtain⟨A,S,H⟩:=h.ok
 obtain⟨x,hx,hl⟩:=Option.bind_eq_some_iff.1 hj
 obtain⟨p,c,_,h1,h2⟩:=eW (cn (pT H hx hl))
 have:maxLen<=9223372036854775807:=by decide
 omega
theorem same (σ':gH)(ρ:List (Nat×Option Nat))(h:iK o n σ a w)(h1:ey ρ σ σ':=by delta ey;kernel_rfl)(h2:fU ρ σ σ':=by delta fU;kernel_rfl)(h3:iO ρ σ'=true:=by kernel_rfl)(h4:qI ρ o.kp=true:=by kernel_rfl):iK o n σ' a w:=tZ ρ h h1 h2 h3 h4
end
def Kj {α:Type 1}:List Sc->Tr α->Tr α
 |[],k=>k
 |c::l,k=>match numOf c with
  |some j=>.res j fun x=>match jV x with
   |true=>.fail
   |false=>Kj l k
  |none=>Kj l k
def Nr {α:Type 1}(t:Ty)(y:Sy)(k:El t->Tr α):Tr α:=match t,y,k with
 | .ptr t,.one (.ptr j 0),k=>.res j fun x=>match x with
  | .box _ cs=>Kj cs (FC t cs fun d l=>match l with
   |[]=>k (some d:Option (El t))
   |_=>.fail)
  |_=>jg (.ptr t) (.one (.ptr j 0)) k
 |t,y,k=>jg t y k
def Ns {rs:List Ty}:(ts:List Ty)->List Sy->(iI ts->Tr (ULift.{1} (iI rs)))->Tr (ULift.{1} (iI rs))
 |[],[],k=>k ()
 |t::ts,y::ys,k=>Nr t y fun x=>Ns ts ys fun xs=>k (x,xs)
 |_,_,_=>.fail
def rK (a:Act):ResultVar->Sem Value
 | .tmp t=>pure (a.tmps.getD t undef)
 | .cell b t=>do loadVar t (<-asAddr (a.tmps.getD b undef))
def iA (a:Act)(l:List ResultVar)(acc:Array Value):Sem (Array Value):=l.foldlM (fun(acc:Array Value) (x:ResultVar)=>do let v <-rK a x;pure (acc.push v)) acc
theorem jy {P:Program}{a:Act}{w:World}{x:ResultVar}{v:Value}(h:(rK a x).run P w= .ok v w)(l:List ResultVar)(acc:Array Value):(iA a (x::l) acc).run P w=(iA a l (acc.push v)).run P w:=by
 unfold iA
 rw[List.foldlM_cons,Sem.run_bind,Sem.run_bind,h]
 rfl
def xD {α:Type 1}(P:Program):List ResultVar->(List Sy->Tr α)->Tr α
 |[],k=>k []
 | .tmp t::l,k=>.slot t fun e=>match e.ch with
  |[]=>xD P l fun ys=>k (e.sy::ys)
  |_=>.fail
 | .cell t ty::l,k=>.slot t fun e=>match e.ch,e.sy with
  |[],.one (.ptr j 0)=>.res j fun x=>match x with
   | .box _ cs=>match P.underlying ty with
    |some (.struct _)=>aZ ((P.info? ty).isSome && Nat.beq (cs.take (P.cellsOf ty)).length (P.cellsOf ty)) (xD P l fun ys=>k (.agg (cs.take (P.cellsOf ty))::ys))
    |some (.array _ _)=>.fail
    |some _=>match cs with
     |c::_=>xD P l fun ys=>k (.one c::ys)
     |[]=>.fail
    |none=>.fail
   |_=>.fail
  |_,_=>.fail
def DO (B:Code):List It->Bool
 | .run p::_=>Yq (sub B p)
 |[]=>true
 |_=>false
def Zb (P:Program)(fn:Func)(rs:List Ty)(σ:gH):Option (ULift.{1} (iI rs)):=
 (xD P fn.results.toList fun ys=>Kj (ys.flatMap aJ) (Ns rs ys fun x=>.ret ⟨x⟩)).run (ni σ) (iL σ)
section
variable {P:Program}{o:bD}{n:Nat}{A:bF}{S T':aL}{F:Nat->Prop}{s:Nat->Option E2}{r:Nat->Option R2}{σ:gH}{a:Act}{w:World}{T:List (cE P)}{B:Code}{Q:iu}{st:List It}
theorem oW {α:Type 1}:∀ {l:List Sc} {k:Tr α} {out:α},(Kj l k).run s r=some out->(∀c∈l,∀j,numOf c=some j->∀y,r j=some y->jV y=false)/\k.run s r=some out
 |[],k,out,h=>⟨fun _ q=>(by cases q),h⟩
 |c::l,k,out,h=>by
  simp only[Kj] at h
  split at h
  .rename_i j hc
   obtain⟨x,hx,h⟩:=aY h
   split at h
   .cases h
   rename_i ha
   obtain⟨h1,h2⟩:=oW h
   refine⟨fun c' tJ i hi y hy=>?_,h2⟩
   rcases List.mem_cons.1 tJ with rfl|tJ
   .rw[hc] at hi;cases hi;rw[hx] at hy;cases hy;exact ha
   exact h1 c' tJ i hi y hy
  rename_i hc
  obtain⟨h1,h2⟩:=oW h
  refine⟨fun c' tJ i hi y hy=>?_,h2⟩
  rcases List.mem_cons.1 tJ with rfl|tJ
  .rw[hc] at hi;cases hi
  exact h1 c' tJ i hi y hy
theorem Kk {α:Type 1}(H:cz o n A S F s r a w)(hT:∀k,Bn o w k->T' k){t:Ty}{y:Sy}{k:El t->Tr α}{out:α}(hR:kq T' w A r (aJ y))(h:(Nr t y k).run s r=some out):∃x:El t,Rd T' w (y.den A) x/\(k x).run s r=some out:=by
 unfold Nr at h
 split at h
 .rename_i t j k
  obtain⟨x,hx,h⟩:=aY h
  split at h
  .rename_i bt cs
   obtain⟨h1,h⟩:=oW h
   obtain⟨d,u,rest,hu,hd,h⟩:=kr (T:=T') t _ _ (fun c hc i hi z hz=>(oO H h1 c hc i hi z hz).up hT) h
   split at h
   .rw[List.append_nil] at hu
    subst hu
    have hm:bq A r j=some (Rs.of (.box (A.b j) bt (cs.map (Sc.den A)))):=by simp[bq,hx,R2.den]
    have hb:w.heap[A.b j]?=some (.cells (cs.map (Sc.den A)).toArray bt (0,0)):=H.bB.ok j _ hm
    obtain⟨o1,o2,_⟩:=H.bB.own j _ (A.b j) hm rfl
    refine⟨(some d:Option (El t)),Fx (x:=(some d:Option (El t))) (show kf T' w _ (some d:Option (El t)) from⟨A.b j,_,_,_,_,rfl,hT _ (.inr ⟨o1,o2⟩),hb,hd,fun q _=>?_⟩),h⟩
    rw[List.getElem?_toArray]
   cases h
  exact iz hR h
 exact iz hR h
theorem uc (H:cz o n A S F s r a w)(hT:∀k,Bn o w k->T' k){rs:List Ty}:∀ {ts:List Ty} {ys:List Sy} {k:iI ts->Tr (ULift.{1} (iI rs))} {out:ULift.{1} (iI rs)},kq T' w A r (ys.flatMap aJ)->(Ns ts ys k).run s r=some out->∃x:iI ts,tQ T' w ts (ys.map (Sy.den A)) x/\(k x).run s r=some out
 |[],[],k,out,_,h=>⟨(),tv,h⟩
 |[],_::_,_,_,_,h=>by cases h
 |_::_,[],_,_,_,h=>by cases h
 |t::ts,y::ys,k,out,hR,h=>by
  obtain⟨x,h1,h⟩:=Kk H hT (fun c hc=>hR c (by rw[List.flatMap_cons];exact List.mem_append_left _ hc)) h
  obtain⟨xs,h2,h⟩:=uc H hT (ts:=ts) (ys:=ys) (fun c hc=>hR c (by rw[List.flatMap_cons];exact List.mem_append_right _ hc)) h
  exact⟨(x,xs),⟨h1,h2⟩,h⟩
theorem sH (H:cz o n A S F s r a w){j:Nat}{bt:TypeId}{cs:List Sc}(hj:r j=some (.box bt cs)){ty:TypeId}{v:Value}
  (hv:(∃fs,P.underlying ty=some (.struct fs)/\(P.info? ty).isSome=true/\(cs.take (P.cellsOf ty)).length=P.cellsOf ty/\v= .agg ((cs.take (P.cellsOf ty)).map (Sc.den A)).toArray)\/
   ∃d c l,P.underlying ty=some d/\(∀fs,d≠.struct fs)/\(∀k e,d≠.array k e)/\cs=c::l/\v=c.den A):(loadVar ty ⟨A.b j,0,none⟩).run P w= .ok v w:=by
 have hm:bq A r j=some (Rs.of (.box (A.b j) bt (cs.map (Sc.den A)))):=by simp[bq,hj,R2.den]
 have hb:w.heap[A.b j]?=some (.cells (cs.map (Sc.den A)).toArray bt (0,0)):=H.bB.ok j _ hm
 have jP:∀q,w.cell? ⟨A.b j,q,none⟩=(cs.map (Sc.den A))[q]?:=fun q=>by rw[cell_of_row w _ q _ _ _ hb];simp
 have key:(Instr.loadAt ty (.pointer (some ⟨A.b j,0,none⟩))).run P w= .ok v w:=by
  rcases hv with⟨fs,h1,h2,h3,rfl⟩|⟨d,c,l,h1,h2,h3,rfl,rfl⟩
  .refine CY (C:=(· =w)) w rfl h1 ⟨fs,rfl⟩ h2 ⟨?_,fun w' Bj q hq=>?_⟩
   .rw[List.length_take] at h3;simp;exact h3
   subst Bj
   rw[Nat.zero_add,jP,List.getElem?_toArray,List.map_take,List.getElem?_take,if_pos hq]
  exact CZ w h1 (fun fs q=>h2 fs q) (fun k e q=>h3 k e q) (by rw[jP];rfl)
 simpa[Instr.loadAt,Instr.sureAddr] using key
theorem oZ {α:Type 1}(H:cz o n A S F s r a w):∀ {l:List ResultVar} {k:List Sy->Tr α} {out:α},(xD P l k).run s r=some out->
  ∃ys:List Sy,(∀(acc:Array Value),(iA a l acc).run P w= .ok (acc++(ys.map (Sy.den A)).toArray) w)/\(k ys).run s r=some out
 |[],k,out,h=>⟨[],fun acc=>by simp[iA],h⟩
 | .tmp t::l,k,out,h=>by
  simp only[xD,Tr.run] at h
  split at h
  .rename_i e he
   split at h
   .rename_i jR
    obtain⟨ys,h1,h2⟩:=oZ H h
    have hv:=(H.env t e he).1 (by rw[jR];exact fun l hl=>by cases hl)
    have hv:a.tmps.getD t undef=e.sy.den A:=by
     rw[Array.getD_eq_getD_getElem?,show a.tmps[t]?=some (e.sy.den A) from hv];rfl
    refine⟨e.sy::ys,fun acc=>?_,h2⟩
    rw[jy (v:=e.sy.den A) (by simp only[rK,hv,Sem.run_pure]),h1]
    simp
   cases h
  cases h
 | .cell t ty::l,k,out,h=>by
  simp only[xD,Tr.run] at h
  split at h
  .rename_i e he
   split at h
   .rename_i j jR Ff
    have hv:=(H.env t e he).1 (by rw[jR];exact fun l hl=>by cases hl)
    rw[show(⟨t,e.ch,e.sy.den A⟩:Lq).val=e.sy.den A from rfl,Ff] at hv
    have hv:a.tmps.getD t undef= .pointer (some ⟨A.b j,0,none⟩):=by
     rw[Array.getD_eq_getD_getElem?,show a.tmps[t]?=some (.pointer (some ⟨A.b j,0,none⟩)) from hv];rfl
    obtain⟨x,hx,h⟩:=aY h
    have fin:∀(y:Sy) (ys:List Sy),(loadVar ty ⟨A.b j,0,none⟩).run P w= .ok (y.den A) w->(∀(acc:Array Value),(iA a l acc).run P w= .ok (acc++(ys.map (Sy.den A)).toArray) w)->
      ∀(acc:Array Value),(iA a (.cell t ty::l) acc).run P w= .ok (acc++((y::ys).map (Sy.den A)).toArray) w:=by
     intro y ys hl h1 acc
     rw[jy (v:=y.den A) (by simp only[rK,Sem.run_bind,hv,asAddr,Sem.run_pure,Result.andThen_ok,hl]),h1]
     simp
    split at h
    .rename_i bt cs
     split at h
     .rename_i fs hu
      obtain⟨hg,h⟩:=an h
      rw[Bool.and_eq_true] at hg
      obtain⟨ys,h1,h2⟩:=oZ H h
      exact⟨_,fin _ ys (sH H hx (.inl ⟨fs,hu,hg.1,cr hg.2,rfl⟩)) h1,h2⟩
     .cases h
     .rename_i d zB CQ hu
      split at h
      .rename_i c sk
       obtain⟨ys,h1,h2⟩:=oZ H h
       exact⟨_,fin (.one c) ys (sH H hx (.inr ⟨d,c,sk,hu,fun fs q=>zB fs q,fun k e q=>CQ k e q,rfl,rfl⟩)) h1,h2⟩
      cases h
     cases h
    cases h
   cases h
  cases h
end
def Nt (p:Bool)(cs:List Sc):Sy:=match p,cs with
 |false,[c]=>.one c
 |_,cs=>.agg cs
def cZ:(de:List (Bool×Ty))->ji de->Nat->List Sy×List (Nat×Option R2)
 |[],_,_=>([],[])
 |p::de,x,b=>let c:=bu p.1 b (bg p.2 x.1);let r:=cZ de x.2 (b+c.2.length);(Nt (cI p.2) c.1::r.1,c.2++r.2)
def qX:Nat->List Sy->List (Nat×Option E2)
 |_,[]=>[]
 |i,y::l=>(i,some ⟨[],y⟩)::qX (i+1) l
def X7 (de:List (Bool×Ty))(x:ji de):gH:=⟨qX 0 (cZ de x 0).1,(cZ de x 0).2,(cZ de x 0).2.length⟩
def F7:List Value->Value
 |[y]=>y
 |ys=>.tuple ys.toArray
section
variable {mo:Mode}{P:Program}{o:bD}{n:Nat}{A:bF}{S:aL}{F:Nat->Prop}{s:Nat->Option E2}{r:Nat->Option R2}{σ:gH}{a:Act}{w:World}{T:List (cE P)}{B:Code}{Q:iu}{st:List It}
theorem lF {fn:Func}{ys:List Value}(h:∀acc:Array Value,(iA a fn.results.toList acc).run P w= .ok (acc++ys.toArray) w):(results fn a.tmps).run P w= .ok (F7 ys) w:=by
 have e:(fn.results.mapM (fun x=>match x with
   | .tmp t=>pure (a.tmps.getD t undef)
   | .cell b t=>do loadVar t (<-asAddr (a.tmps.getD b undef)):ResultVar->Sem Value)).run P w= .ok ys.toArray w:=by
  rw[Array.mapM_eq_foldlM,<-Array.foldlM_toList]
  have:=h #[]
  simp only[Array.empty_append] at this
  rw[<-this]
  unfold iA
  congr 2
  all_goals (funext acc x;cases x<;>rfl)
 have hb:(results fn a.tmps).run P w=((fn.results.mapM (fun x=>match x with
   | .tmp t=>pure (a.tmps.getD t undef)
   | .cell b t=>do loadVar t (<-asAddr (a.tmps.getD b undef)):ResultVar->Sem Value)).run P w).andThen (fun vs w=>(pure (if h:vs.size=1 then vs[0] else .tuple vs):Sem Value).run P w):=by
  unfold results
  rw[Sem.run_bind]
  rfl
 rw[hb,e]
 match ys with
 |[]=>rfl
 |[y]=>rfl
 |y::z::l=>simp[F7]
theorem F8:∀ {rs:List Ty} {vs:List Value} {x:iI rs},tQ S w rs vs x->jS S w rs (F7 vs) x
 |[],[],_,h=>⟨[],rfl,h⟩
 |[t],[y],_,h=>h.1
 |_::_::_,y::z::l,_,h=>⟨y::z::l,rfl,h⟩
 |[_],_::_::_,_,h=>h.2.elim
 |[],_::_,_,h=>h.elim
 |_::_,[],_,h=>h.elim
 |_::_::_,[_],_,h=>h.2.elim
theorem sI {o:Orig}{k:Nat}(h:Bn (bD.of o) w k):qN o w k:=h.imp id fun⟨h1,h2⟩=>⟨h1.elim id fun q=>q.elim,h2⟩
theorem xE {o:Orig}(h:jH o.w w (bD.of o).G):Below o.w.heap.size o.w w:=⟨h.os,h.tape,h.output,h.size,fun k hk=>h.block k hk fun q=>q⟩
theorem out {o:Orig}{fn:Func}{rs:List Ty}{fx:iI rs}(y:iI rs)(h:iK (bD.of o) n σ a w)(e:y=fx)(ht:DO B st=true:=by kernel_rfl)(hy:Zb P fn rs σ=some ⟨y⟩:=by kernel_rfl):At mo P T B (bodyPost P fn (Hy o fun S v w'=>jS S w' rs v fx)) st a w:=by
 obtain⟨⟨A,S,H⟩,h0⟩:=h
 subst e
 obtain⟨ys,h1,hy⟩:=oZ H hy
 obtain⟨h2,hy⟩:=oW hy
 obtain⟨x,h3,hy⟩:=uc H (T':=qN o w) (fun k hk=>sI hk) (fun c hc j hj z hz=>(oO H h2 c hc j hj z hz).up fun k hk=>sI hk) hy
 have hx:x=y:=by have:=Option.some.inj hy;exact congrArg ULift.down this
 subst hx
 have nt:=lF (ys:=ys.map (Sy.den A)) h1
 unfold DO at ht
 split at ht
 .rename_i p r
  refine⟨?_⟩
  show(sub B p).jK mo P (post mo P B _ r) a w
  have hc:sub B p= .ret:=by
   cases hc:sub B p<;>rw[hc] at ht<;>first|rfl|cases ht
  rw[hc]
  refine vO (kF ?_)
  refine bodyPost_ret nt H.eY ⟨_,rfl,?_,xE H.bB.oK⟩
  exact F8 h3
 .exact⟨bodyPost_end nt H.eY ⟨_,rfl,F8 h3,xE H.bB.oK⟩⟩
 cases ht
theorem Kl {k:Bool}{t:Ty}(h:cI t=false)(b:Nat)(x:El t):∃c,(bu k b (bg t x)).1=[c]:=by
 cases t<;>first|exact⟨_,rfl⟩|cases h
theorem p6:∀(de:List (Bool×Ty)) (x:ji de) (vs:List Value) (b:Nat) (A:bF) (F:Nat->Prop),uO o.S o.old o.w de vs x->(∀j,b<=j->¬F j)->
  ∃A',cV F A A'/\(cZ de x b).1.map (Sy.den A')=vs/\jv o o.S o.w A' b (cZ de x b).2/\(∀p∈(cZ de x b).2,p.1<b+(cZ de x b).2.length)/\∀y∈(cZ de x b).1,y.all (FU F (cZ de x b).2)/\y.b9 A'
 |[],_,[],b,A,F,_,_=>⟨A,cV.refl _ _,rfl,tv,fun _ h=>(by cases h),fun _ h=>(by cases h)⟩
 |[],_,_::_,_,_,_,h,_=>h.elim
 |_::_,_,[],_,_,_,h,_=>by cases h
 |(k,t)::de,x,v::vs,b,A,F,h,hF=>by
  have xh:∃cs,vG o o.S o.w k cs (bg t x.1)/\v=(if cI t then .agg cs.toArray else cs.headD undef):=by
   cases k with
   |true=>exact jx (S:=o.S) (w:=o.w) h.1
   |false=>exact jx (S:=o.old) (w:=o.w) h.1
  obtain⟨cs,cH,hv⟩:=xh
  have oe:=fM (k:=k) (bg t x.1) b
  obtain⟨A1,h1,h2,h3,h4⟩:=fq (B:=b+(bu k b (bg t x.1)).2.length) _ cs b A F cH (fun j hj _=>hF j hj) fun p hp=>(oe p hp).2
  obtain⟨A2,k1,k2,k3,k5,k4⟩:=p6 de x.2 vs (b+(bu k b (bg t x.1)).2.length) A1 (FU F (bu k b (bg t x.1)).2) h.2 fun j hj hn=>by
   rcases hn with hn|⟨z,hz⟩
   .exact hF j (by omega) hn
   have:=oe _ hz
   omega
  have ec:∀c∈(bu k b (bg t x.1)).1,c.all (FU F (bu k b (bg t x.1)).2):=fun c hc=>(h4 c hc).1
  have Q5:∀j,FU F (bu k b (bg t x.1)).2 j->FU F (cZ ((k,t)::de) x b).2 j:=fun j hj=>by
   rcases hj with hj|⟨x,hx⟩
   .exact .inl hj
   exact .inr ⟨x,List.mem_append_left _ hx⟩
  have HK:(cI t=true/\Nt (cI t) (bu k b (bg t x.1)).1= .agg (bu k b (bg t x.1)).1)\/∃c,cI t=false/\(bu k b (bg t x.1)).1=[c]/\Nt (cI t) (bu k b (bg t x.1)).1= .one c:=by
   cases hp:cI t with
   |true=>exact .inl ⟨rfl,rfl⟩
   |false=>
    obtain⟨c,hc⟩:=Kl hp b x.1 (k:=k)
    exact .inr ⟨c,rfl,hc,by rw[hc];rfl⟩
  refine⟨A2,h1.trans (k1.mono fun j hj=>.inl hj),?_,?_,fun p hp=>?_,fun y hy=>?_⟩
  .show Sy.den A2 (Nt (cI t) (bu k b (bg t x.1)).1)::(cZ de x.2 _).1.map (Sy.den A2)=_
   rw[k2]
   congr 1
   rcases HK with⟨hp,e⟩|⟨c,hp,hc,e⟩
   .rw[e,hv,hp]
    simp only[Sy.den]
    rw[<-jf k1 ec,h2];rfl
   rw[e,hv,hp]
   rw[hc] at h2 ec
   simp only[Sy.den]
   rw[<-Sc.congr k1 (ec c (List.mem_singleton.2 rfl))]
   have:[Sc.den A1 c]=cs:=h2
   rw[<-this];rfl
  .exact jv.append (jv.agree k1 (fun p hp=>.inr ⟨p.2,hp⟩) h3) (fun p hp=>(oe p hp).2) (by omega) k3
  .show p.1<b+((bu k b (bg t x.1)).2++(cZ de x.2 (b+(bu k b (bg t x.1)).2.length)).2).length
   rw[List.length_append]
   have hp:p∈(bu k b (bg t x.1)).2++(cZ de x.2 (b+(bu k b (bg t x.1)).2.length)).2:=hp
   rcases List.mem_append.1 hp with hp|hp
   .have:=(oe p hp).2;omega
   have:=k5 p hp;omega
  have hy:y=Nt (cI t) (bu k b (bg t x.1)).1\/y∈(cZ de x.2 (b+(bu k b (bg t x.1)).2.length)).1:=List.mem_cons.1 hy
  rcases hy with rfl|hy
  .rcases HK with⟨hp,e⟩|⟨c,hp,hc,e⟩
   .rw[e];exact⟨fun c hc=>Sc.mono Q5 (ec c hc),fun c hc=>Sc.dG k1 (ec c hc) (h4 c hc).2⟩
   rw[e]
   have hm:c∈(bu k b (bg t x.1)).1:=by rw[hc];exact List.mem_singleton.2 rfl
   exact⟨Sc.mono Q5 (ec c hm),Sc.dG k1 (ec c hm) (h4 c hm).2⟩
  refine⟨Sy.mono (fun j hj=>?_) (k4 y hy).1,(k4 y hy).2⟩
  rcases hj with hj|⟨z,hz⟩
  .exact Q5 j hj
  exact .inr ⟨z,List.mem_append_right _ hz⟩
theorem j7:∀ {l:List Sy} {i t:Nat} {e:E2},eF (fun _=>none) (qX i l) t=some e->i<=t/\∃y,l[t-i]?=some y/\e=⟨[],y⟩
 |[],i,t,e,h=>by cases h
 |y::l,i,t,e,h=>by
  have h:k8 (eF (fun _=>none) (qX (i+1) l)) i (some ⟨[],y⟩) t=some e:=h
  by_cases q:i=t
  .subst q;rw[eS] at h;cases h;exact⟨Nat.le_refl _,y,by rw[Nat.sub_self];rfl,rfl⟩
  rw[lD q] at h
  obtain⟨h1,z,h2,h3⟩:=j7 h
  exact⟨by omega,z,by rw[show t-i=t-(i+1)+1 by omega];exact h2,h3⟩
theorem p7:∀ {de:List (Bool×Ty)} {vs:List Value} {x:ji de} {S T:aL},uO S T w de vs x->vs.length=de.length
 |[],[],_,_,_,_=>rfl
 |[],_::_,_,_,_,h=>h.elim
 |_::_,[],_,_,_,h=>by cases h
 |(k,t)::de,v::vs,x,S,T,h=>by simp[p7 h.2]
theorem o5 {S T T':aL}(hT:∀k,T k->T' k):∀ {de:List (Bool×Ty)} {vs:List Value} {x:ji de},uO S T w de vs x->uO S T' w de vs x
 |[],[],_,_=>trivial
 |[],_::_,_,h=>h.elim
 |_::_,[],_,h=>by cases h
 |(true,t)::de,v::vs,x,h=>⟨h.1,o5 hT h.2⟩
 |(false,t)::de,v::vs,x,h=>⟨Rd.up hT h.1,o5 hT h.2⟩
theorem aF {f:FuncId}(fn:Func)(n:Nat)(T:List (cE P)){de:List (Bool×Ty)}{rs:List Ty}{oQ:ji de->Prop}{fx:ji de->iI rs}(hf:P.funcs[f]?=some fn)
  (k:∀(o:Orig) (x:ji de),oQ x->∀a w,iK (bD.of o) n (X7 de x) a w->At pl P T (fn.body.getD .skip) (bodyPost P fn (Hy o fun S v w'=>jS S w' rs v (fx x))) [.run []] a w)
  (hb:fn.body.isSome=true:=by kernel_rfl) (hn:fn.ntmps=n:=by kernel_rfl) (hl:decide (de.length<=n)=true:=by kernel_rfl):aS P f de rs oQ fx:=by
 intro o vs x hx Bw
 have hlen:=p7 hx
 refine enter fn n hf (fun a ha=>?_) hb hn (by rw[hlen];exact hl)
 obtain⟨A,h1,h2,h3,h5,h4⟩:=p6 (o:=bD.of o) de x vs 0 L3 (fun _=>False) (o5 (fun k hk=>⟨hk,fun q=>q⟩) hx) fun _ _ q=>q
 have iP:∀t e,ni (X7 de x) t=some e->e.ch=[]/\∃y,(cZ de x 0).1[t]?=some y/\e=⟨[],y⟩:=fun t e he=>by
  obtain⟨_,y,q1,q2⟩:=j7 he
  exact⟨by rw[q2],y,by simpa using q1,q2⟩
 have H0:cz (bD.of o) n A o.S (fun _=>False) (fun _=>none) (fun _=>none) a o.w:=⟨ha.1,ha.2.1,fun _ _ q=>(by cases q),fun _ _ q=>(by cases q),fun _ _ q=>(by cases q),fZ.start (bD.of o),fun _ _ q=>(by cases q),⟨fun _ q=>q.elim,fun _ q=>q.elim⟩⟩
 have H1:=H0.ro (cV.refl _ _) h3
 have hle:∀j,FU (fun _=>False) (cZ de x 0).2 j->j<(cZ de x 0).2.length:=fun j hj=>by
  rcases hj with hj|⟨z,hz⟩
  .exact hj.elim
  have:=h5 _ hz;simpa using this
 have sJ:iK (bD.of o) n (X7 de x) a o.w:=by
  refine⟨⟨A,o.S,H1.size,H1.eY,fun t e he=>?_,fun t e he _=>?_,fun j y hj=>?_,H1.bB,H1.args,⟨fun _ q=>q.elim,fun _ q=>q.elim⟩⟩,fun t e he=>(iP t e he).1,fun _ q=>q.elim⟩
  .obtain⟨_,y,q1,rfl⟩:=iP t e he
   have hv:vs[t]?=some (y.den A):=by rw[<-h2,List.getElem?_map,q1];rfl
   have Km:=(List.getElem?_eq_some_iff.1 hv).1
   refine ha.2.2 ⟨t,[],y.den A⟩ (List.mem_map.2 ⟨(t,y.den A),?_,rfl⟩)
   refine List.mem_iff_getElem?.2 ⟨t,?_⟩
   rw[List.getElem?_zip_eq_some]
   exact⟨by simp[Km],hv⟩
  .obtain⟨_,y,q1,rfl⟩:=iP t e he
   have:=h4 y (List.mem_of_getElem? q1)
   exact⟨Sy.mono hle this.1,this.2⟩
  have:=H1.dD j y hj
  exact⟨hle j this.1,R2.mono hle this.2.1,this.2.2⟩
 have:=k o x Bw a o.w sJ
 have this:(sub (fn.body.getD .skip) []).jK pl P (post pl P (fn.body.getD .skip) (bodyPost P fn (Hy o fun S v w'=>jS S w' rs v (fx x))) []) a o.w:=this.get
 have this:=xq.1 this
 exact this
end
abbrev fA:Ty:=.pair .int .int
abbrev gX:Ty:=.pair .int (.list fA)
abbrev fR:Ty:=.pair (.list .int) (.list .int)
abbrev eo (j:Nat):Option E2:=some ⟨[],.one (.own j)⟩
abbrev em (j:Nat):Option E2:=some ⟨[],.one (.mp j)⟩
abbrev ep (j:Nat):Option E2:=some ⟨[],.one (.ptr j 0)⟩
abbrev en (n:Int):Option E2:=some ⟨[],.one (.v (.int .i64 n))⟩
theorem ct {p:Prop}(h:p:=by first|omega|(simp only[List.length_append,List.length_cons,List.length_nil,List.length_replicate,List.length_drop,List.length_take,List.length_set];omega)):p:=h
theorem bx {i:Int}{n:Nat}(h:0<=i/\i<(n:Int):=by first|omega|(simp only[List.length_append,List.length_cons,List.length_nil,List.length_replicate,List.length_drop,List.length_take,List.length_set];omega)):aV i n:=h
theorem ln {m n:Nat}(h:m<=n:=by first|omega|(simp only[List.length_append,List.length_cons,List.length_nil,List.length_replicate,List.length_drop,List.length_take,List.length_set];omega)):m<=n:=h
theorem wk {x:Int}(h: -9223372036854775808<=x/\x<=9223372036854775807:=by omega):dc .int x:=h
theorem QI {m n:Nat}(h:m<n:=by first|omega|(simp only[List.length_append,List.length_cons,List.length_nil,List.length_replicate,List.length_drop,List.length_take,List.length_set];omega)):m<n:=h
def ir (n:Nat):List (Nat×Option Nat):=(List.range n).map fun i=>(i,some i)
def rk (l:List Nat):List (Nat×Option Nat):=(List.range l.length).zip (l.map some)
abbrev I_ (x:Int):Int:=x
abbrev J_ (x:List Int):List Int:=x
abbrev K_ (x:List (List Int)):List (List Int):=x
abbrev E_ (x:List (Int×Int)):List (Int×Int):=x
section
variable {mo:Mode}{P:Program}{o:bD}{n:Nat}{σ:gH}{a:Act}{w:World}{T:List (cE P)}{B:Code}{Q:iu}{st:List It}
theorem cg (h:iK o n σ a w)(j:Nat)(l:List Int)(hj:(iL σ j).bind gP=some ⟨.int,l⟩:=by kernel_rfl):(l.length:Int)<=9223372036854775807:=xB h j hj
theorem gL (h:iK o n σ a w)(j:Nat)(l:List (Int×Int))(hj:(iL σ j).bind gP=some ⟨fA,l⟩:=by kernel_rfl):(l.length:Int)<=9223372036854775807:=xB h j hj
theorem eP (h:iK o n σ a w)(j:Nat)(l:List (List Int))(hj:(iL σ j).bind gP=some ⟨.list .int,l⟩:=by kernel_rfl):(l.length:Int)<=9223372036854775807:=xB h j hj
theorem aK (X0:Type)(X1:Type)(σ':X0->X1->gH)(I:X0->X1->Prop)(μ:X0->X1->Nat)(x0:X0)(x1:X1)(ρ:List (Nat×Option Nat))(h:iK o n σ a w)(h0:I x0 x1)
  (round:∀(x0:X0) (x1:X1) (a:Act) (w:World) (K:Act->World->Prop),(∀(y0:X0) (y1:X1) (ρ:List (Nat×Option Nat)) {BT:gH} {a:Act} {w:World},iK o n BT a w->I y0 y1->μ y0 y1<μ x0 x1->
    (h1:ey ρ BT (σ' y0 y1):=by delta ey;kernel_rfl)->(h2:fU ρ BT (σ' y0 y1):=by delta fU;kernel_rfl)->(h3:iO ρ (σ' y0 y1)=true:=by kernel_rfl)->(h4:qI ρ o.kp=true:=by kernel_rfl)->K a w)->
   I x0 x1->iK o n (σ' x0 x1) a w->At mo P T B Q (.run (lP (tY B st)++[0]):: .lp K::lR (tY B st)) a w)
  (ht:(tY B st).isSome=true:=by kernel_rfl) (h1:ey ρ σ (σ' x0 x1):=by delta ey;kernel_rfl) (h2:fU ρ σ (σ' x0 x1):=by delta fU;kernel_rfl) (h3:iO ρ (σ' x0 x1)=true:=by kernel_rfl) (h4:qI ρ o.kp=true:=by kernel_rfl):At mo P T B Q st a w:=
 go_loop (X0×X1) (fun z=>σ' z.1 z.2) (fun z=>I z.1 z.2) (fun z=>μ z.1 z.2) (x0,x1) ρ h h0 (fun z a w K hK=>round z.1 z.2 a w K fun y0 y1 ρ _ _ _ k1 k2 k3 k4 k5 k6 k7=>hK (y0,y1) ρ k1 k2 k3 k4 k5 k6 k7) ht h1 h2 h3 h4
theorem fB (X0:Type)(X1:Type)(X2:Type)(σ':X0->X1->X2->gH)(I:X0->X1->X2->Prop)(μ:X0->X1->X2->Nat)(x0:X0)(x1:X1)(x2:X2)(ρ:List (Nat×Option Nat))(h:iK o n σ a w)(h0:I x0 x1 x2)
  (round:∀(x0:X0) (x1:X1) (x2:X2) (a:Act) (w:World) (K:Act->World->Prop),(∀(y0:X0) (y1:X1) (y2:X2) (ρ:List (Nat×Option Nat)) {BT:gH} {a:Act} {w:World},iK o n BT a w->I y0 y1 y2->μ y0 y1 y2<μ x0 x1 x2->
    (h1:ey ρ BT (σ' y0 y1 y2):=by delta ey;kernel_rfl)->(h2:fU ρ BT (σ' y0 y1 y2):=by delta fU;kernel_rfl)->(h3:iO ρ (σ' y0 y1 y2)=true:=by kernel_rfl)->(h4:qI ρ o.kp=true:=by kernel_rfl)->K a w)->
   I x0 x1 x2->iK o n (σ' x0 x1 x2) a w->At mo P T B Q (.run (lP (tY B st)++[0]):: .lp K::lR (tY B st)) a w)
  (ht:(tY B st).isSome=true:=by kernel_rfl) (h1:ey ρ σ (σ' x0 x1 x2):=by delta ey;kernel_rfl) (h2:fU ρ σ (σ' x0 x1 x2):=by delta fU;kernel_rfl) (h3:iO ρ (σ' x0 x1 x2)=true:=by kernel_rfl) (h4:qI ρ o.kp=true:=by kernel_rfl):At mo P T B Q st a w:=
 go_loop (X0×X1×X2) (fun z=>σ' z.1 z.2.1 z.2.2) (fun z=>I z.1 z.2.1 z.2.2) (fun z=>μ z.1 z.2.1 z.2.2) (x0,x1,x2) ρ h h0 (fun z a w K hK=>round z.1 z.2.1 z.2.2 a w K fun y0 y1 y2 ρ _ _ _ k1 k2 k3 k4 k5 k6 k7=>hK (y0,y1,y2) ρ k1 k2 k3 k4 k5 k6 k7) ht h1 h2 h3 h4
theorem sK (X0:Type)(X1:Type)(X2:Type)(X3:Type)(σ':X0->X1->X2->X3->gH)(I:X0->X1->X2->X3->Prop)(μ:X0->X1->X2->X3->Nat)(x0:X0)(x1:X1)(x2:X2)(x3:X3)(ρ:List (Nat×Option Nat))(h:iK o n σ a w)(h0:I x0 x1 x2 x3)
  (round:∀(x0:X0) (x1:X1) (x2:X2) (x3:X3) (a:Act) (w:World) (K:Act->World->Prop),(∀(y0:X0) (y1:X1) (y2:X2) (y3:X3) (ρ:List (Nat×Option Nat)) {BT:gH} {a:Act} {w:World},iK o n BT a w->I y0 y1 y2 y3->μ y0 y1 y2 y3<μ x0 x1 x2 x3->
    (h1:ey ρ BT (σ' y0 y1 y2 y3):=by delta ey;kernel_rfl)->(h2:fU ρ BT (σ' y0 y1 y2 y3):=by delta fU;kernel_rfl)->(h3:iO ρ (σ' y0 y1 y2 y3)=true:=by kernel_rfl)->(h4:qI ρ o.kp=true:=by kernel_rfl)->K a w)->
   I x0 x1 x2 x3->iK o n (σ' x0 x1 x2 x3) a w->At mo P T B Q (.run (lP (tY B st)++[0]):: .lp K::lR (tY B st)) a w)
  (ht:(tY B st).isSome=true:=by kernel_rfl) (h1:ey ρ σ (σ' x0 x1 x2 x3):=by delta ey;kernel_rfl) (h2:fU ρ σ (σ' x0 x1 x2 x3):=by delta fU;kernel_rfl) (h3:iO ρ (σ' x0 x1 x2 x3)=true:=by kernel_rfl) (h4:qI ρ o.kp=true:=by kernel_rfl):At mo P T B Q st a w:=
 go_loop (X0×X1×X2×X3) (fun z=>σ' z.1 z.2.1 z.2.2.1 z.2.2.2) (fun z=>I z.1 z.2.1 z.2.2.1 z.2.2.2) (fun z=>μ z.1 z.2.1 z.2.2.1 z.2.2.2) (x0,x1,x2,x3) ρ h h0 (fun z a w K hK=>round z.1 z.2.1 z.2.2.1 z.2.2.2 a w K fun y0 y1 y2 y3 ρ _ _ _ k1 k2 k3 k4 k5 k6 k7=>hK (y0,y1,y2,y3) ρ k1 k2 k3 k4 k5 k6 k7) ht h1 h2 h3 h4
end
def Nu:Sc->List Nat
 | .own j=>[j]
 | .mp j=>[j]
 | .ptr j _=>[j]
 | .pd j=>[j]
 | .el j _ _ _=>[j]
 | .nh _ cF=>cF.map (·.1)
 | .hd p _ _=>[p]
 |_=>[]
def xF {α:Type 1}:Nat->List Nat->List (Nat×Option R2)->(List (Nat×Option R2)->Tr α)->Tr α
 |0,_,_,_=>.fail
 |_+1,[],acc,k=>k acc
 |f+1,j::l,acc,k=>match acc.any fun p=>Nat.beq p.1 j with
  |true=>xF f l acc k
  |false=>.res j fun x=>xF f ((match x with| .box _ cs=>cs.flatMap Nu|_=>[])++l) ((j,some x)::acc) k
def partOf:Sy->Bool×List Sc
 | .one c=>(false,[c])
 | .agg cs=>(true,cs)
 | .lY _=>(false,[])
def uW:List Sy->Sy
 |[y]=>y
 |ys=>.lY (ys.map partOf)
def VK (P:Program)(T:List (cE P))(hn:List (Nat×Bool))(fn:Func)(b:Nat)(cF:List (Nat×Nat))(ys:List Sy):Tr Out:=
 xF 300 ((ys.flatMap aJ).flatMap Nu++cF.map (·.1)) [] fun VL=>
  match exec P T 64 false hn fn.ntmps (fn.body.getD .skip) 3000 [.run []] ⟨qX 0 (ys++cF.map fun c=>.one (.ptr c.1 c.2)),VL,b⟩ [] [] with
  |some x=>match DO (fn.body.getD .skip) x.st,(xD P fn.results.toList fun ys=>.ret (ULift.up.{1} ys)).run (ni x.σ) (iL x.σ) with
   |true,some zs=>aZ (fn.body.isSome && (decide ((ys++cF.map fun c=>Sy.one (.ptr c.1 c.2)).length<=fn.ntmps) && (zs.down.all fun y=>match y with| .lY _=>false|_=>true))) (.ret ⟨x.cs,x.hs,uW zs.down,(x.σ.nx,none)::x.σ.rs⟩)
   |_,_=>.fail
  |none=>.fail
section
variable {P:Program}{o:bD}{n:Nat}{A A':bF}{S S':aL}{F:Nat->Prop}{s:Nat->Option E2}{r:Nat->Option R2}{a:Act}{w w':World}{T:List (cE P)}
theorem rL {α:Type 1}:∀ {f:Nat} {l:List Nat} {acc:List (Nat×Option R2)} {k:List (Nat×Option R2)->Tr α} {out:α},(∀p∈acc,r p.1=p.2)->(xF f l acc k).run s r=some out->∃rs,(∀p∈rs,r p.1=p.2)/\(k rs).run s r=some out
 |0,_,_,_,_,_,h=>by cases h
 |_+1,[],acc,k,out,ha,h=>⟨acc,ha,h⟩
 |f+1,j::l,acc,k,out,ha,h=>by
  simp only[xF] at h
  split at h
  .exact rL ha h
  obtain⟨x,hx,h2⟩:=aY h
  refine rL (fun p hp=>?_) h2
  rcases List.mem_cons.1 hp with rfl|hp
  .exact hx
  exact ha p hp
theorem Kn {rs:List (Nat×Option R2)}(h:∀p∈rs,r p.1=p.2):aT r rs=r:=by
 funext j
 induction rs with
 |nil=>rfl
 |cons p rs ih=>
  show jw (aT r rs) p.1 p.2 j=_
  by_cases q:p.1=j
  .subst q;rw[dy];exact(h p List.mem_cons_self).symm
  rw[dR q];exact ih fun p hp=>h p (List.mem_cons_of_mem _ hp)
theorem fZ.pins {f:Nat->Option Rs}(h:fZ o w S f)(F:Nat->Prop)(A:bF):fZ {o with pF:=F,pA:=A} w S f:=⟨h.oK,h.src,h.ig,h.ok,h.own,h.apart⟩
theorem fZ.Nv {f:Nat->Option Rs}{F:Nat->Prop}{A:bF}(h:fZ {o with pF:=F,pA:=A} w S f):fZ o w S f:=⟨h.oK,h.src,h.ig,h.ok,h.own,h.apart⟩
theorem su.pins {F:Nat->Prop}{B:bF}{j:Nat}{x:R2}(h:su o A j x):su {o with pF:=F,pA:=B} A j x:=by
 cases x with
 |ext z=>cases z<;>exact h
 |_=>exact h
theorem su.Nv {F:Nat->Prop}{B:bF}{j:Nat}{x:R2}(h:su {o with pF:=F,pA:=B} A j x):su o A j x:=by
 cases x with
 |ext z=>cases z<;>exact h
 |_=>exact h
theorem sL {α:Type 1}(H:cz o n A S F s r a w):∀ {l:List ResultVar} {k:List Sy->Tr α} {out:α},(xD P l k).run s r=some out->
  ∃ys:List Sy,(∀(acc:Array Value),(iA a l acc).run P w= .ok (acc++(ys.map (Sy.den A)).toArray) w)/\(∀y∈ys,y.all F/\y.b9 A)/\(k ys).run s r=some out
 |[],k,out,h=>⟨[],fun acc=>by simp[iA],fun _ q=>(by cases q),h⟩
 | .tmp t::l,k,out,h=>by
  simp only[xD,Tr.run] at h
  split at h
  .rename_i e he
   split at h
   .rename_i jR
    obtain⟨ys,h1,h3,h2⟩:=sL H h
    have hv:=(H.env t e he).1 (by rw[jR];exact fun l hl=>by cases hl)
    have hv:a.tmps.getD t undef=e.sy.den A:=by
     rw[Array.getD_eq_getD_getElem?,show a.tmps[t]?=some (e.sy.den A) from hv];rfl
    refine⟨e.sy::ys,fun acc=>?_,fun y hy=>?_,h2⟩
    .rw[jy (v:=e.sy.den A) (by simp only[rK,hv,Sem.run_pure]),h1]
     simp
    rcases List.mem_cons.1 hy with rfl|hy
    .exact H.kZ t e he (by rw[jR];exact fun l hl=>by cases hl)
    exact h3 y hy
   cases h
  cases h
 | .cell t ty::l,k,out,h=>by
  simp only[xD,Tr.run] at h
  split at h
  .rename_i e he
   split at h
   .rename_i j jR Ff
    have hv:=(H.env t e he).1 (by rw[jR];exact fun l hl=>by cases hl)
    rw[show(⟨t,e.ch,e.sy.den A⟩:Lq).val=e.sy.den A from rfl,Ff] at hv
    have hv:a.tmps.getD t undef= .pointer (some ⟨A.b j,0,none⟩):=by
     rw[Array.getD_eq_getD_getElem?,show a.tmps[t]?=some (.pointer (some ⟨A.b j,0,none⟩)) from hv];rfl
    obtain⟨x,hx,h⟩:=aY h
    have fin:∀(y:Sy) (ys:List Sy),(loadVar ty ⟨A.b j,0,none⟩).run P w= .ok (y.den A) w->(∀(acc:Array Value),(iA a l acc).run P w= .ok (acc++(ys.map (Sy.den A)).toArray) w)->
      ∀(acc:Array Value),(iA a (.cell t ty::l) acc).run P w= .ok (acc++((y::ys).map (Sy.den A)).toArray) w:=by
     intro y ys hl h1 acc
     rw[jy (v:=y.den A) (by simp only[rK,Sem.run_bind,hv,asAddr,Sem.run_pure,Result.andThen_ok,hl]),h1]
     simp
    split at h
    .rename_i bt cs
     have ec:=(H.dD j _ hx).2
     split at h
     .rename_i fs hu
      obtain⟨hg,h⟩:=an h
      rw[Bool.and_eq_true] at hg
      obtain⟨ys,h1,h3,h2⟩:=sL H h
      refine⟨_,fin _ ys (sH H hx (.inl ⟨fs,hu,hg.1,cr hg.2,rfl⟩)) h1,fun y hy=>?_,h2⟩
      rcases List.mem_cons.1 hy with rfl|hy
      .exact⟨fun c hc=>ec.1 c (List.mem_of_mem_take hc),fun c hc=>ec.2 c (List.mem_of_mem_take hc)⟩
      exact h3 y hy
     .cases h
     .rename_i d zB CQ hu
      split at h
      .rename_i c sk
       obtain⟨ys,h1,h3,h2⟩:=sL H h
       refine⟨_,fin (.one c) ys (sH H hx (.inr ⟨d,c,sk,hu,fun fs q=>zB fs q,fun k e q=>CQ k e q,rfl,rfl⟩)) h1,fun y hy=>?_,h2⟩
       rcases List.mem_cons.1 hy with rfl|hy
       .exact⟨ec.1 c List.mem_cons_self,ec.2 c List.mem_cons_self⟩
       exact h3 y hy
      cases h
     cases h
    cases h
   cases h
  cases h
theorem Ao {ys:List Sy}(h:(ys.all fun y=>match y with| .lY _=>false|_=>true)=true)(A:bF):(uW ys).den A=F7 (ys.map (Sy.den A)):=by
 have hp:∀y∈ys,eX A (partOf y)=y.den A:=fun y hy=>by
  have:=List.all_eq_true.1 h y hy
  cases y with
  |one c=>rfl
  |agg cs=>rfl
  |lY ps=>cases this
 match ys,hp with
 |[],_=>rfl
 |[y],_=>rfl
 |y::z::l,hp=>
  show Value.tuple (((y::z::l).map partOf).map (eX A)).toArray= .tuple ((y::z::l).map (Sy.den A)).toArray
  rw[List.map_map]
  congr 2
  exact List.map_congr_left fun q hq=>hp q hq
theorem ud {ys:List Sy}(h:∀y∈ys,y.all F/\y.b9 A):(uW ys).all F/\(uW ys).b9 A:=by
 have hp:∀y∈ys,∀c∈(partOf y).2,c.all F/\c.b9 A:=fun y hy c hc=>by
  have:=h y hy
  cases y with
  |one c'=>have:=List.mem_singleton.1 hc;subst this;exact h _ hy
  |agg cs=>exact⟨this.1 c hc,this.2 c hc⟩
  |lY ps=>cases hc
 match ys,h,hp with
 |[],_,_=>exact⟨(fun p q=>by cases q),(fun p q=>by cases q)⟩
 |[y],h,_=>exact h y List.mem_cons_self
 |y::z::l,_,hp=>
  refine⟨fun p X8 c hc=>?_,fun p X8 c hc=>?_⟩
  .obtain⟨q,hq,rfl⟩:=List.mem_map.1 X8;exact(hp q hq c hc).1
  obtain⟨q,hq,rfl⟩:=List.mem_map.1 X8;exact(hp q hq c hc).2
theorem VM {f:FuncId}(hn:List (Nat×Bool)){fn:Func}(hf:P.funcs[f]?=some fn):Dm P f (VK P T hn fn):=by
 intro o n A S F s r a w b B cF ys out H hF XS HL h cH mg hB
 unfold VK at h
 obtain⟨VL,hrs,h1⟩:=rL (fun p q=>by cases q) h
 clear h
 split at h1
 .rename_i x hx
  split at h1
  .rename_i zs Nw nt
   obtain⟨hg,h2⟩:=an h1
   clear h1
   simp only[Bool.and_eq_true,decide_eq_true_eq] at hg
   obtain⟨g1,g2,g3⟩:=hg
   have e:=aW h2
   subst e
   clear h2
   have Zc:ys.map (Sy.den A)++cF.map (fun c=>Value.pointer (some ⟨A.b c.1,c.2,none⟩))=(ys++cF.map fun c=>Sy.one (.ptr c.1 c.2)).map (Sy.den A):=by
    rw[List.map_append,List.map_map];rfl
   have hva:∀y∈ys++cF.map fun c=>Sy.one (.ptr c.1 c.2),y.all F/\y.b9 A:=fun y hy=>by
    rcases List.mem_append.1 hy with hy|hy
    .exact XS y hy
    obtain⟨c,hc,rfl⟩:=List.mem_map.1 hy
    exact⟨HL c hc,tv⟩
   generalize hvv:(ys++cF.map fun c=>Sy.one (.ptr c.1 c.2))=vv at*
   rw[Zc]
   have X9:x.σ.nx<B:=hB (x.σ.nx,none) List.mem_cons_self
   refine enter fn fn.ntmps hf (fun a' ha=>?_) g1 rfl (by rw[List.length_map];exact decide_eq_true g2)
   have iP:∀t e,ni ⟨qX 0 vv,VL,b⟩ t=some e->e.ch=[]/\∃y,vv[t]?=some y/\e=⟨[],y⟩:=fun t e he=>by
    obtain⟨_,y,q1,q2⟩:=j7 he
    exact⟨by rw[q2],y,by simpa using q1,q2⟩
   have Zd:aT r VL=r:=Kn hrs
   have H0:cz {o with pF:=F,pA:=A} fn.ntmps A S F (ni ⟨qX 0 vv,VL,b⟩) (aT r VL) a' w:=by
    rw[Zd]
    refine⟨ha.1,ha.2.1,fun t e he=>?_,fun t e he _=>?_,H.dD,H.bB.pins F A,fun j y hy=>(H.args j y hy).pins,⟨fun _ q=>q,cV.refl _ _⟩⟩
    .obtain⟨_,y,q1,rfl⟩:=iP t e he
     have hv:(vv.map (Sy.den A))[t]?=some (y.den A):=by rw[List.getElem?_map,q1];rfl
     have Km:=(List.getElem?_eq_some_iff.1 hv).1
     refine ha.2.2 ⟨t,[],y.den A⟩ (List.mem_map.2 ⟨(t,y.den A),?_,rfl⟩)
     refine List.mem_iff_getElem?.2 ⟨t,?_⟩
     rw[List.getElem?_zip_eq_some]
     exact⟨by rw[List.getElem?_range Km],hv⟩
    obtain⟨_,y,q1,rfl⟩:=iP t e he
    exact hva y (List.mem_of_getElem? q1)
   have hI:Fh {o with pF:=F,pA:=A} fn.ntmps r F (· <B) ⟨qX 0 vv,VL,b⟩ a' w:=⟨⟨A,S,F,H0,hF,fun j hj=>.inl hj⟩,fun t e he=>(iP t e he).1⟩
   refine xq.1 ?_
   refine(HY (mo:=pl) (Q:=bodyPost P fn fun e w'=> ∃v,e= .returned v/\eO o n F s r a ⟨x.cs,x.hs,uW zs.down,(x.σ.nx,none)::x.σ.rs⟩ v w') (r0:=r) (F0:=F) (L:=(· <B)) (fun j hj=>Nat.lt_trans hj X9) (fun q=>by cases q) hx).2 hI cH mg fun a2 w2 h2=>?_
   obtain⟨⟨A2,S2,F2,H2,f1,f2⟩,ch⟩:=h2
   obtain⟨zs',r1,r2,r3⟩:=sL H2 (Tr.mono (fun _ _ q=>q) (Nn r x.σ) _ nt)
   have hz:zs'=zs.down:=by have:=Option.some.inj r3;exact congrArg ULift.down this
   subst hz
   have Uq:=lF (ys:=zs.down.map (Sy.den A2)) r1
   have Ze:eO o n F s r a ⟨x.cs,x.hs,uW zs.down,(x.σ.nx,none)::x.σ.rs⟩ (F7 (zs.down.map (Sy.den A2))) w2:=by
    refine⟨A2,S2,?_,(Ao g3 A2).symm,?_⟩
    .have hFU:∀j,F2 j->FU F ((x.σ.nx,none)::x.σ.rs) j:=fun j hj=>(f2 j hj).imp id fun⟨y,hy⟩=>⟨y,List.mem_cons_of_mem _ hy⟩
     have H1:=H.agree H2.wO.2 (G:=FU F ((x.σ.nx,none)::x.σ.rs)) fun j hj=>.inl hj
     have hle:∀j y,aT r ((x.σ.nx,none)::x.σ.rs) j=some y->aT r x.σ.rs j=some y:=fun j y hy=>by
      have hy:jw (aT r x.σ.rs) x.σ.nx none j=some y:=hy
      by_cases q:x.σ.nx=j
      .subst q;rw[dy] at hy;cases hy
      rwa[dR q] at hy
     refine⟨H1.size,H1.eY,H1.env,H1.kZ,fun j y hy=>?_,H2.bB.Nv.sub fun j rr hj=>?_,fun j y hy=>(H2.args j y (hle j y hy)).Nv,H1.wO⟩
     .have:=H2.dD j y (hle j y hy)
      exact⟨hFU j this.1,R2.mono hFU this.2.1,this.2.2⟩
     obtain⟨y,hy,rfl⟩:=Option.map_eq_some_iff.1 hj
     show(aT r x.σ.rs j).map _=_
     rw[hle j y hy];rfl
    have hFU:∀j,F2 j->FU F ((x.σ.nx,none)::x.σ.rs) j:=fun j hj=>(f2 j hj).imp id fun⟨y,hy⟩=>⟨y,List.mem_cons_of_mem _ hy⟩
    have:=ud r2
    exact⟨Sy.mono hFU this.1,this.2⟩
   unfold DO at Nw
   split at Nw
   .rename_i p rr tI
    rw[tI]
    show(sub _ p).jK pl P (post pl P _ _ rr) a2 w2
    have hc:sub (fn.body.getD .skip) p= .ret:=by
     cases hc:sub (fn.body.getD .skip) p<;>rw[hc] at Nw<;>first|rfl|cases Nw
    rw[hc]
    exact vO (kF (bodyPost_ret Uq H2.eY ⟨_,rfl,Ze⟩))
   .rename_i tI
    rw[tI]
    exact bodyPost_end Uq H2.eY ⟨_,rfl,Ze⟩
   cases Nw
  cases h1
 cases h1
def inl {f:FuncId}(T:List (cE P))(hn:List (Nat×Bool)){fn:Func}(hf:P.funcs[f]?=some fn):cE P:=⟨f,VK P T hn fn,VM (T:=T) hn hf⟩
theorem Ur {mo:Mode}{T:List (cE P)}{B:Code}{Q:iu}{st:List It}(T':List (cE P))(h:At mo P T' B Q st a w):At mo P T B Q st a w:=⟨h.get⟩
def plain {f:FuncId}{de:List (Bool×Ty)}{rs:List Ty}{oQ:ji de->Prop}{fn:ji de->iI rs}(ok:aS P f de rs oQ fn):cE P:=⟨f,Ms oQ fn,JW ok⟩
end
def Zf (P:Program)(k:Kc):Option TypeId:=(List.range 4000).find? fun t=>lC P t k
theorem Rz {P:Program}{k:Kc}{t:TypeId}(h:Zf P k=some t):P.underlying t=some (gU k):=fT (by have:=List.find?_some h;exact this)
structure NX where
 k:Kc
 ty:Ty
 m:bl k (El ty)
 lf:bI k->Bool
 cnt:Nat
 cur:Option (bI k×El ty)
 j:Nat
 d:Nat
def Us (P:Program)(n:Nat)(B:Code)(σ:gH):List It->Option NX
 | .run p::r=>match sub B p with
  | .region _ ops false=>match ops.toList with
   |op::_=>match op.op,op.dst,op.guard with
    | .next (.tmp t) false,some d,none=>match ni σ t with
     |some ⟨[],.one (.ptr j 0)⟩=>match iL σ j with
      |some (.iter k ty m lf cnt cur)=>match DK ops && (Nat.blt d n && (Zf P k).isSome) with
       |true=>some ⟨k,ty,m,lf,cnt,cur,j,d⟩
       |false=>none
      |_=>none
     |_=>none
    |_,_,_=>none
   |_=>none
  |_=>none
 |_=>none
def HZ (P:Program)(T:List (cE P))(n:Nat)(B:Code)(σ:gH)(y:Sy)(re:List (Nat×Option R2))(d:Nat):List It->Option gH
 | .run p::_=>match sub B p with
  | .region _ ops false=>match xo P T 4096 [] n ops (ni σ) (iL σ) (ops.toList.drop 1) (σ.nx+4096) [(d,some ⟨[],y⟩)] re with
   |some us=>match(us.all fun u=>u.cs.isEmpty && u.hs.isEmpty) && (re.all fun q=>Nat.blt q.1 (σ.nx+4096)) with
    |true=>some ⟨vl (Ah us [(d,some ⟨[],y⟩)])++σ.env,uU us re++σ.rs,σ.nx+4096*(ops.toList.drop 1).length+4096⟩
    |false=>none
   |none=>none
  |_=>none
 |_=>none
def tlI:List It->List It
 |_::r=>r
 |[]=>[]
def nx1 (P:Program)(T:List (cE P))(n:Nat)(B:Code)(σ:gH)(st:List It)(x:Option NX):Option gH:=match x with
 |some I=>HZ P T n B σ (.lY [(false,[.b (.lit false)])]) [] I.d st
 |none=>none
def nx2 (P:Program)(T:List (cE P))(n:Nat)(B:Code)(σ:gH)(st:List It)(I:NX)(kx:bI I.k)(v:El I.ty)(jt:Nat):Option gH:=
 HZ P T n B σ (.lY [(false,[.b (.lit true)]),(false,[uQ I.k kx]),(cI I.ty,(bu true σ.nx (bg I.ty v)).1)]) ((I.j,some (.iter I.k I.ty I.m (fun z=>I.lf z && !decide (z=kx)) jt (some (kx,v))))::(bu true σ.nx (bg I.ty v)).2) I.d st
def stG (x:Option gH):gH:=match x with
 |some y=>y
 |none=>⟨[],[],0⟩
section
variable {mo:Mode}{P:Program}{o:bD}{n:Nat}{σ σ':gH}{a:Act}{w:World}{T:List (cE P)}{B:Code}{Q:iu}{st:List It}
theorem H7 {p:List Nat}(r:List It){id:Nat}{ops:Array Oper}{y:Sy}{re:List (Nat×Option R2)}{d:Nat}{A:bF}{S:aL}{a:Act}{w:World}{op0:Oper}{l:List Oper}(jT:sub B p= .region id ops false)(y7:ops.toList=op0::l)
  (h0:∀t e,ni σ t=some e->e.ch=[]) (np:∀j,o.pF j->j<o.kp) (hr:HZ P T n B σ y re d (.run p::r)=some σ')
  (H:cz o n A S (FU (· <σ.nx) re) (k8 (ni σ) d (some ⟨[],y⟩)) (aT (iL σ) re) a w) (k:∀a w,iK o n σ' a w->Q .normal a w):wpList P ops Q l a w:=by
 unfold HZ at hr
 simp only[jT,y7,List.drop_one,List.tail_cons] at hr
 split at hr
 .rename_i us JC
  split at hr
  .rename_i ec
   cases hr
   rw[Bool.and_eq_true] at ec
   have Zg:∀u∈us,u.cs=[]/\u.hs=[]:=fun u hu=>by
    have:=List.all_eq_true.1 ec.1 u hu
    rw[Bool.and_eq_true] at this
    exact⟨List.isEmpty_iff.1 this.1,List.isEmpty_iff.1 this.2⟩
   have yY:∀q∈re,q.1<σ.nx+4096:=fun q hq=>by
    have:=List.all_eq_true.1 ec.2 q hq
    simpa using Nat.blt_eq▸this
   have fin:∀ {A':bF} {S':aL} {F':Nat->Prop} {a':Act} {w':World},cz o n A' S' F' (eF (ni σ) (Ah us [(d,some ⟨[],y⟩)])) (aT (iL σ) (uU us re)) a' w'->(∀j,σ.nx+4096+4096*l.length<=j->True->¬F' j)->iK o n ⟨vl (Ah us [(d,some ⟨[],y⟩)])++σ.env,uU us re++σ.rs,σ.nx+4096*l.length+4096⟩ a' w':=by
    intro A' S' F' a' w' H' QH
    refine⟨⟨A',S',?_⟩,?_,np⟩
    .rw[vP,Rw]
     exact(H'.less fun t e he=>(sD h0 he).1).agree (cV.refl _ _) fun j hj=>Classical.byContradiction fun q=>QH j (by have q:¬j<σ.nx+4096*l.length+4096:=q;omega) tv hj
    rw[vP]
    exact fun t e he=>(sD h0 he).2
   have key:=BM (Q:=Q) (L:=fun _=>True) (rest:=[]) h0 JC H (fun j hj _ hn=>by
    rcases hn with hn|⟨x,hx⟩
    .omega
    have:=yY _ hx;simp only at this;omega) (fun _ _=>trivial) (fun u hu p hp=>by rw[(Zg u hu).1] at hp;cases hp) (fun u hu p hp=>by rw[(Zg u hu).2] at hp;cases hp) fun A' S' F' a' w' H' QH _=>k a' w' (fin H' QH)
   rwa[List.append_nil] at key
  cases hr
 cases hr
theorem BU (I:NX)(h:iK o n σ a w)(k1:(∀x,I.lf x=false)->∀a w,iK o n (stG (nx1 P T n B σ st (some I))) a w->At mo P T B Q (tlI st) a w)
  (k2:∀(x:bI I.k) (v:El I.ty) (jt:Nat),I.lf x=true->dc I.k x->aI (show List (bI I.k×El I.ty) from I.m) x=some v->jt<I.cnt->∀a w,iK o n (stG (nx2 P T n B σ st I x v jt)) a w->At mo P T B Q (tlI st) a w)
  (hI:Us P n B σ st=some I:=by kernel_rfl) (h1:(nx1 P T n B σ st (some I)).isSome=true:=by kernel_rfl) (h2:∀x v jt,(nx2 P T n B σ st I x v jt).isSome=true:=by intro x v jt;kernel_rfl):At mo P T B Q st a w:=by
 obtain⟨⟨A,S,H⟩,h0,np⟩:=h
 have H8:=hI
 unfold Us at hI
 split at hI
 .rename_i p r
  split at hI
  .rename_i id ops jT
   split at hI
   .rename_i op l y7
    split at hI
    .rename_i t d fk iX hg
     split at hI
     .rename_i j he
      split at hI
      .rename_i kc ty m lf cnt cur hR
       split at hI
       .rename_i Nx
        cases hI
        rw[Bool.and_eq_true,Bool.and_eq_true] at Nx
        obtain⟨qF,g1,g2⟩:=Nx
        have g1:d<n:=by simpa using Nat.blt_eq▸g1
        obtain⟨kt,hkt⟩:=Option.isSome_iff_exists.1 g2
        have hu:=Rz hkt
        obtain⟨BT,Zh⟩:=Option.isSome_iff_exists.1 h1
        rw[Zh] at k1
        refine⟨?_⟩
        show(sub B p).jK mo P (post mo P B Q r) a w
        rw[jT]
        refine oo qF ?_
        rw[y7]
        simp only[wpList]
        have hw:Region.wanted op (yielded ops a.tmps)=true:=by unfold Region.wanted;rw[hg]
        rw[if_pos hw]
        have hv:=(H.env t _ he).1 (fun l hl=>by cases hl)
        have hx:a.eval (.tmp t)= .pointer (some ⟨A.b j,0,none⟩):=by
         simp only[Act.eval,Array.getD_eq_getD_getElem?]
         rw[show a.tmps[t]?=some (.pointer (some ⟨A.b j,0,none⟩)) from hv];rfl
        have hm:bq A (iL σ) j=some (Fz (A.b j) m lf cnt cur):=by show(iL σ j).map _=_;rw[hR];rfl
        have jR:∀t e,ni σ t=some e->∀l∈e.ch,l.1≠d:=fun t e he l hl=>by rw[h0 t e he] at hl;cases hl
        have Zi:(∀x,lf x=false)->(Instr.next (.pointer (some ⟨A.b j,0,none⟩)) false op.type).run P w= .ok (.tuple #[.bool false]) w->op.wp P a w (wpList P ops (BP (post mo P B Q r)) l) (BP (post mo P B Q r)):=by
         intro Ut bY
         have e2:(execOp a.eval op).run P w= .ok (.value (.tuple #[.bool false])) w:=by
          simp only[execOp,fk,Sem.run_bind,hx,bY];rfl
         refine bG e2 ?_
         rw[iX]
         have H1:=H.put (C:=[]) (d:=d) (y:=.lY [(false,[.b (.lit false)])]) (u:=.tuple #[.bool false]) g1 jR (fun l hl=>by cases hl) (fun _=>⟨fun q hq c hc=>by have:=List.mem_singleton.1 hq;subst this;have:=List.mem_singleton.1 hc;subst this;trivial,fun q hq c hc=>by have:=List.mem_singleton.1 hq;subst this;have:=List.mem_singleton.1 hc;subst this;trivial⟩) ⟨fun _=>rfl,fun q=>(q fun l hl=>by cases hl).elim⟩
         exact H7 r jT y7 h0 np (re:=[]) Zh (H1.agree (cV.refl _ _) fun c hc=>.inl hc) fun a w h=>(k1 Ut a w h).get
        rcases H.bB.ok j _ hm with⟨mb,zs,cu,s1,s3,s4,s5,s6,s7⟩|⟨s1,s2,s3,since,seen,c0,s4⟩
        .rcases s3.next hu op.type with⟨Ut,bY⟩|⟨x,v,w',jt,n1,n2,n3,n4,n5,n6,n7,n8⟩
         .exact .inl (Zi Ut bY)
         have qG:∃z,aI zs x=some z/\z.1=v:=by
          have e1:aI (zs.map fun q=>(q.1,q.2.1)) x=(aI zs x).map (·.1):=eR (fun y:Value×El ty=>y.1) zs x
          rw[e1] at n3
          obtain⟨z,hz,rfl⟩:=Option.map_eq_some_iff.1 n3
          exact⟨z,hz,rfl⟩
         obtain⟨z,hz,rfl⟩:=qG
         have hlm:aI (show List (bI kc×El ty) from m) x=some z.2:=by
          have e2:aI (show List (bI kc×El ty) from m) x=(aI zs x).map (·.2):=by rw[s4];exact eR (fun y:Value×El ty=>y.2) zs x
          rw[e2,hz];rfl
         obtain⟨σ2,Zj⟩:=Option.isSome_iff_exists.1 (h2 x z.2 jt)
         have k2':=k2 x z.2 jt n1 n2 hlm n4
         rw[Zj] at k2'
         refine .inl ?_
         have bY:=n5
         have e2:(execOp a.eval op).run P w= .ok (.value (.tuple #[.bool true,fJ kc x,z.1])) w':=by
          simp only[execOp,fk,Sem.run_bind,hx,bY];rfl
         refine bG e2 ?_
         rw[iX]
         have hj:=(H.dD j _ hR).1
         have Um:cN S w w':=fun c hc=>n7.block c (H.bB.ig c hc) fun q=>by cases q;exact(H.bB.own j _ _ hm rfl).2.2 hc
         have hbn:(A.b j)<w.heap.size:=(H.bB.own j _ _ hm rfl).2.1
         have H1:=H.swap (cV.refl _ _) (w':=w') (S':=S) (re:=[(j,some (.iter kc ty m (fun z=>lf z && !decide (z=x)) jt (some (x,z.2))))]) (fun c=>c=j) (fun c hc=>by rw[show c=j from hc];exact⟨_,List.mem_singleton.2 rfl⟩)
          ((jH.of n7).mono fun c hc=>⟨j,_,rfl,hR,by cases hc;rfl⟩) (fun _ q=>q) (fun _ q=>.inl q) (fun c y hy=>by
           cases List.mem_singleton.1 hy
           refine⟨tv,tv,rfl,.inl ⟨mb,zs,some (x,z),s1,n6,s4,fun z hz=>(s5 z hz).keep Um,rfl,fun q hq=>?_⟩,fun c hc=>?_⟩
           .cases hq
            exact(s5 _ (je hz)).keep Um
           have hc:c=A.b j:=hc
           subst hc
           exact⟨.inl ⟨j,_,rfl,hR,rfl⟩,by rw[n8];exact hbn⟩) (fun c c' y y' bb q1 q2 _ _=>by cases List.mem_singleton.1 q1;cases List.mem_singleton.1 q2;rfl)
         have gz:Rd S w' z.1 z.2:=(s5 _ (je hz)).keep Um
         obtain⟨vs,LO,hv⟩:=jx gz
         have oe:=fM (k:=true) (bg ty z.2) σ.nx
         have hF:∀i,σ.nx<=i->¬FU (· <σ.nx) [(j,some (R2.iter kc ty m (fun z=>lf z && !decide (z=x)) jt (some (x,z.2))))] i:=fun i hi hn=>by
          rcases hn with hn|⟨q,hq⟩
          .omega
          cases List.mem_singleton.1 hq;omega
         obtain⟨A',c1,c2,c3,c4⟩:=fq (o:=o) (S:=S) (w:=w') (k:=true) (B:=σ.nx+(bu true σ.nx (bg ty z.2)).2.length) _ vs σ.nx A _ LO (fun i hi _=>hF i hi) fun q hq=>(oe q hq).2
         have H2:=H1.ro c1 c3
         have Q5:∀i,FU (FU (· <σ.nx) [(j,some (R2.iter kc ty m (fun z=>lf z && !decide (z=x)) jt (some (x,z.2))))]) (bu true σ.nx (bg ty z.2)).2 i->FU (· <σ.nx) ((j,some (R2.iter kc ty m (fun z=>lf z && !decide (z=x)) jt (some (x,z.2))))::(bu true σ.nx (bg ty z.2)).2) i:=fun i hi=>by
          rcases hi with(hi|⟨q,hq⟩)|⟨q,hq⟩
          .exact .inl hi
          .exact .inr ⟨q,by rw[List.mem_singleton.1 hq];exact List.mem_cons_self⟩
          exact .inr ⟨q,List.mem_cons_of_mem _ hq⟩
         have Dq:aT (aT (iL σ) [(j,some (R2.iter kc ty m (fun z=>lf z && !decide (z=x)) jt (some (x,z.2))))]) (bu true σ.nx (bg ty z.2)).2=aT (iL σ) ((j,some (R2.iter kc ty m (fun z=>lf z && !decide (z=x)) jt (some (x,z.2))))::(bu true σ.nx (bg ty z.2)).2):=by
          funext i
          show aT (jw (iL σ) j _) _ i=jw (aT (iL σ) _) j _ i
          by_cases q:j=i
          .subst q
           rw[dy,gW,dy]
           rintro⟨y,hy⟩
           have:=(oe _ hy).1
           omega
          rw[dR q]
          by_cases q2:∃y,(i,y)∈(bu true σ.nx (bg ty z.2)).2
          .exact BB q2 _ _
          rw[gW q2,gW q2,dR q]
         rw[Dq] at H2
         have H3:=H2.agree (cV.refl _ _) Q5
         have H4:=H3.put (C:=[]) (d:=d) (y:=.lY [(false,[.b (.lit true)]),(false,[uQ kc x]),(cI ty,(bu true σ.nx (bg ty z.2)).1)]) (u:=.tuple #[.bool true,fJ kc x,z.1]) g1 jR (fun l hl=>by cases hl) (fun _=>by
          refine⟨fun q hq c hc=>?_,fun q hq c hc=>?_⟩
          .rcases List.mem_cons.1 hq with rfl|hq
           .have:=List.mem_singleton.1 hc;subst this;trivial
           rcases List.mem_cons.1 hq with rfl|hq
           .have:=List.mem_singleton.1 hc;subst this;exact(pV (A:=A) x).1
           have:=List.mem_singleton.1 hq;subst this
           exact Sc.mono Q5 (c4 c hc).1
          rcases List.mem_cons.1 hq with rfl|hq
          .have:=List.mem_singleton.1 hc;subst this;trivial
          .rcases List.mem_cons.1 hq with rfl|hq
           .have:=List.mem_singleton.1 hc;subst this;exact(pV (F:=fun _=>True) x).2
           have:=List.mem_singleton.1 hq;subst this
           exact(c4 c hc).2) ⟨fun _=>by
          show Value.tuple #[_,_,_]=Value.tuple #[eX A' (false,[.b (.lit true)]),eX A' (false,[uQ kc x]),eX A' (cI ty,(bu true σ.nx (bg ty z.2)).1)]
          unfold eX
          simp only[List.map_cons,List.map_nil,Ae,c2,Bool.false_eq_true,if_false,List.headD_cons]
          rw[hv];rfl,fun q=>(q fun l hl=>by cases hl).elim⟩
         exact H7 r jT y7 h0 np Zj H4 fun a w h=>(k2' a w h).get
        refine .inl (Zi s3 (LY s4 op.type))
       cases hI
      cases hI
     cases hI
    cases hI
   cases hI
  cases hI
 cases hI
end
def Ko (n:Int)(e:Int×Int):Prop:=0<=e.1/\e.1<n/\0<=e.2/\e.2<n
instance (n:Int) (e:Int×Int):Decidable (Ko n e):=by unfold Ko;infer_instance
def Kq (n:Int)(E:List (Int×Int)):Prop:=∀j,j<E.length->Ko n (E.getD j (0,0))
instance (n:Int) (E:List (Int×Int)):Decidable (Kq n E):=by unfold Kq;infer_instance
def bh (n:Int)(E:List (Int×Int)):Int:=if n<0 then 3 else if 1024<n\/1024-n<(E.length:Int) then 2 else if Kq n E then 0 else 3
theorem xG {n:Int}{E:List (Int×Int)}(h0:0<=n)(h1:n<=1024)(h2:(E.length:Int)<=1024-n){i:Int}(hi:0<=i)(hl:i<(E.length:Int))(h:¬Ko n (E.getD i.toNat (0,0))):bh n E=3:=by
 unfold bh
 rw[if_neg (by omega),if_neg (by omega),if_neg (fun q:Kq n E=>h (q i.toNat (by omega)))]
theorem Ap {n:Int}{E:List (Int×Int)}(h0:0<=n)(h1:n<=1024)(h2:(E.length:Int)<=1024-n){i:Int}(hl:¬i<(E.length:Int))(h:∀j:Nat,(j:Int)<i->Ko n (E.getD j (0,0))):bh n E=0:=by
 unfold bh
 rw[if_neg (by omega),if_neg (by omega),if_pos (show Kq n E from fun j hj=>h j (by omega))]
def bP (l:List Int)(n:Int):Prop:=∀j,j<l.length->0<=l.getD j 0/\l.getD j 0<n/\(0<j->l.getD (j-1) 0<l.getD j 0)
instance (l:List Int) (n:Int):Decidable (bP l n):=by unfold bP;infer_instance
def xJ (l:List Int)(x:Int):Nat->Int->Int->Int
 |0,lo,_=>lo
 |f+1,lo,hi=>if lo<hi then(if l.getD ((lo+hi)/2).toNat 0<x then xJ l x f ((lo+hi)/2+1) hi else xJ l x f lo ((lo+hi)/2)) else lo
def Ny (l:List Int)(x:Int):Int:=xJ l x l.length 0 (l.length:Int)
def hasB (l:List Int)(x:Int):Bool:=decide (Ny l x<(l.length:Int)) && decide (l.getD (Ny l x).toNat 0=x)
theorem o6 {l:List Int}{x lo hi:Int}(h:¬lo<hi):∀f,xJ l x f lo hi=lo
 |0=>rfl
 |f+1=>by unfold xJ;rw[if_neg h]
theorem p8 {l:List Int}{x:Int}:∀(f g:Nat) (lo hi:Int),(hi-lo).toNat<=f->(hi-lo).toNat<=g->xJ l x f lo hi=xJ l x g lo hi
 |0,g,lo,hi,h1,h2=>by rw[o6 (by omega),o6 (by omega)]
 |f+1,0,lo,hi,h1,h2=>by rw[o6 (by omega),o6 (by omega)]
 |f+1,g+1,lo,hi,h1,h2=>by
  unfold xJ
  by_cases h:lo<hi
  .rw[if_pos h,if_pos h]
   split
   .exact p8 f g _ _ (by omega) (by omega)
   exact p8 f g _ _ (by omega) (by omega)
  rw[if_neg h,if_neg h]
def H9 (l:List Int)(x lo hi:Int):Int:=xJ l x (hi-lo).toNat lo hi
theorem Uu {l:List Int}{x lo hi:Int}(h:lo<hi)(hx:l.getD ((lo+hi)/2).toNat 0<x):H9 l x lo hi=H9 l x ((lo+hi)/2+1) hi:=by
 unfold H9
 obtain⟨f,hf⟩:∃f,(hi-lo).toNat=f+1:=⟨(hi-lo).toNat-1,by omega⟩
 rw[hf]
 conv=>lhs;unfold xJ
 rw[if_pos h,if_pos hx]
 exact p8 _ _ _ _ (by omega) (by omega)
theorem Uv {l:List Int}{x lo hi:Int}(h:lo<hi)(hx:¬l.getD ((lo+hi)/2).toNat 0<x):H9 l x lo hi=H9 l x lo ((lo+hi)/2):=by
 unfold H9
 obtain⟨f,hf⟩:∃f,(hi-lo).toNat=f+1:=⟨(hi-lo).toNat-1,by omega⟩
 rw[hf]
 conv=>lhs;unfold xJ
 rw[if_pos h,if_neg hx]
 exact p8 _ _ _ _ (by omega) (by omega)
theorem BV {l:List Int}{x lo hi:Int}(h:¬lo<hi):H9 l x lo hi=lo:=o6 h _
theorem Uw (l:List Int)(x:Int):H9 l x 0 (l.length:Int)=Ny l x:=by unfold H9 Ny;congr 1
theorem uX {l:List Int}{n:Int}(h:bP l n):∀j,j<l.length->(j:Int)<=l.getD j 0
 |0,hj=>by have:=h 0 hj;omega
 |j+1,hj=>by
  have ih:=uX h j (by omega)
  have:=(h (j+1) hj).2.2 (by omega)
  rw[show j+1-1=j by omega] at this
  omega
theorem ay {l:List Int}{n:Int}(h:bP l n)(hn:0<=n):(l.length:Int)<=n:=by
 cases hl:l.length with
 |zero=>omega
 |succ m=>
  have h1:=uX h m (by omega)
  have h2:=h m (by omega)
  omega
def o7 (E:List (Int×Int))(V L:List Int):Prop:=∀j,j<L.length->hasB V (E.getD (L.getD j 0).toNat (0,0)).1=true/\hasB V (E.getD (L.getD j 0).toNat (0,0)).2=true
instance (E:List (Int×Int)) (V L:List Int):Decidable (o7 E V L):=by unfold o7;infer_instance
def aA (n:Int)(E:List (Int×Int))(V L:List Int):Int:=
 if bh n E≠0 then bh n E else if ¬bP V n\/¬bP L (E.length:Int) then 4 else if o7 E V L then 0 else 4
theorem aN {n:Int}{E:List (Int×Int)}(h:bh n E=0):0<=n/\n<=1024/\(E.length:Int)<=1024-n/\Kq n E:=by
 unfold bh at h
 split at h
 .omega
 split at h
 .omega
 split at h
 .rename_i q;exact⟨by omega,by omega,by omega,q⟩
 omega
def p9:Nat->List Int->List Int->Int->List Int
 |0,_,_,_=>[]
 |f+1,a,b,n=>if a=[]/\b=[] then[] else
  if b=[]\/(a≠[]/\a.getD 0 0<b.getD 0 0) then(if n=1 then[a.getD 0 0] else[])++p9 f (a.drop 1) b n
  else if a=[]\/b.getD 0 0<a.getD 0 0 then(if n=1 then[b.getD 0 0] else[])++p9 f a (b.drop 1) n
  else[a.getD 0 0]++p9 f (a.drop 1) (b.drop 1) n
def gd (a b:List Int)(n:Int):List Int:=p9 (a.length+b.length) a b n
theorem vQ (f:Nat)(n:Int):p9 f [] [] n=[]:=by cases f<;>simp[p9]
theorem mA (n:Int):∀(f g:Nat) (a b:List Int),a.length+b.length<=f->a.length+b.length<=g->p9 f a b n=p9 g a b n
 |0,g,a,b,h1,h2=>by
  rw[List.eq_nil_of_length_eq_zero (show a.length=0 by omega),List.eq_nil_of_length_eq_zero (show b.length=0 by omega),vQ,vQ]
 |f+1,0,a,b,h1,h2=>by
  rw[List.eq_nil_of_length_eq_zero (show a.length=0 by omega),List.eq_nil_of_length_eq_zero (show b.length=0 by omega),vQ,vQ]
 |f+1,g+1,a,b,h1,h2=>by
  unfold p9
  have ha:a≠[]->0<a.length:=List.length_pos_iff.2
  have hb:b≠[]->0<b.length:=List.length_pos_iff.2
  by_cases c0:a=[]/\b=[]
  .rw[if_pos c0,if_pos c0]
  rw[if_neg c0,if_neg c0]
  by_cases c1:b=[]\/(a≠[]/\a.getD 0 0<b.getD 0 0)
  .have:a≠[]:=by rcases c1 with c|c;exact fun q=>c0 ⟨q,c⟩;exact c.1
   have:=ha this
   rw[if_pos c1,if_pos c1,mA n f g _ _ (by rw[List.length_drop];omega) (by rw[List.length_drop];omega)]
  have ng:=hb (fun q=>c1 (.inl q))
  rw[if_neg c1,if_neg c1]
  by_cases c2:a=[]\/b.getD 0 0<a.getD 0 0
  .rw[if_pos c2,if_pos c2,mA n f g _ _ (by rw[List.length_drop];omega) (by rw[List.length_drop];omega)]
  rw[if_neg c2,if_neg c2,mA n f g _ _ (by simp only[List.length_drop];omega) (by simp only[List.length_drop];omega)]
theorem F9 {a b:List Int}{n:Int}(h:¬0<(a.length:Int)/\¬0<(b.length:Int)):gd a b n=[]:=by
 rw[List.eq_nil_of_length_eq_zero (show a.length=0 by omega),List.eq_nil_of_length_eq_zero (show b.length=0 by omega)];rfl
theorem DP {a b:List Int}{n:Int}(h:0<(a.length:Int)\/0<(b.length:Int)):gd a b n=
  if(b.length:Int)=0\/(0<(a.length:Int)/\a.getD 0 0<b.getD 0 0) then(if n=1 then[a.getD 0 0] else[])++gd (a.drop 1) b n
  else if(a.length:Int)=0\/b.getD 0 0<a.getD 0 0 then(if n=1 then[b.getD 0 0] else[])++gd a (b.drop 1) n
  else[a.getD 0 0]++gd (a.drop 1) (b.drop 1) n:=by
 unfold gd
 obtain⟨f,hf⟩:∃f,a.length+b.length=f+1:=⟨a.length+b.length-1,by omega⟩
 have ea:a=[]↔(a.length:Int)=0:=by rw[<-List.length_eq_zero_iff];omega
 have eb:b=[]↔(b.length:Int)=0:=by rw[<-List.length_eq_zero_iff];omega
 rw[hf]
 conv=>lhs;unfold p9
 rw[if_neg (by rw[ea,eb];omega)]
 by_cases c1:(b.length:Int)=0\/(0<(a.length:Int)/\a.getD 0 0<b.getD 0 0)
 .rw[if_pos c1,if_pos (by rw[eb];rcases c1 with c|c;exact .inl c;exact .inr ⟨by rw[ne_eq,ea];omega,c.2⟩),mA n f _ _ _ (by rw[List.length_drop];omega) (Nat.le_refl _)]
 rw[if_neg c1,if_neg (by rw[eb,ne_eq,ea];rintro(c|⟨c,c'⟩);exact c1 (.inl c);exact c1 (.inr ⟨by omega,c'⟩))]
 by_cases c2:(a.length:Int)=0\/b.getD 0 0<a.getD 0 0
 .rw[if_pos c2,if_pos (by rw[ea];exact c2),mA n f _ _ _ (by rw[List.length_drop];omega) (Nat.le_refl _)]
 rw[if_neg c2,if_neg (by rw[ea];exact c2),mA n f _ _ _ (by simp only[List.length_drop];omega) (Nat.le_refl _)]
theorem Ga {l m:List Int}(hl:(l.length:Int)=(m.length:Int))(h:∀j:Nat,j<l.length->l.getD j 0=m.getD j 0):l=m:=by
 apply List.ext_getElem (by omega)
 intro i h1 h2
 have:=h i h1
 simpa[List.getD_eq_getElem?_getD,List.getElem?_eq_getElem h1,List.getElem?_eq_getElem h2] using this
theorem fC {l:List Int}{x:Int}:x∈l↔∃j,j<l.length/\l.getD j 0=x:=by
 constructor
 .intro h
  obtain⟨j,hj,e⟩:=List.getElem_of_mem h
  exact⟨j,hj,by rw[List.getD_eq_getElem?_getD,List.getElem?_eq_getElem hj];exact e⟩
 rintro⟨j,hj,e⟩
 rw[List.getD_eq_getElem?_getD,List.getElem?_eq_getElem hj] at e
 exact e▸List.getElem_mem hj
theorem Gb {l:List Int}{i:Int}(h0:0<=i)(h:i<(l.length:Int)):l.drop i.toNat=l.getD i.toNat 0::l.drop (i+1).toNat:=by
 have hi:i.toNat<l.length:=by omega
 rw[List.drop_eq_getElem_cons hi,List.getD_eq_getElem?_getD,List.getElem?_eq_getElem hi,show(i+1).toNat=i.toNat+1 by omega]
 rfl
theorem Nz {l:List Int}{i:Int}(h:¬i<(l.length:Int)):l.drop i.toNat=[]:=List.drop_of_length_le (by omega)
def Zk (a b:List Int):Prop:=∀j,j<a.length->hasB b (a.getD j 0)=true
instance (a b:List Int):Decidable (Zk a b):=by unfold Zk;infer_instance
theorem aD {n:Int}{E:List (Int×Int)}{V L:List Int}(h:aA n E V L=0):bh n E=0/\bP V n/\bP L (E.length:Int)/\o7 E V L:=by
 unfold aA at h
 split at h
 .rename_i q;exact(q h).elim
 rename_i q
 split at h
 .omega
 rename_i q2
 split at h
 .rename_i q3
  exact⟨by omega,by have:=not_or.1 q2;exact Classical.not_not.1 this.1,by have:=not_or.1 q2;exact Classical.not_not.1 this.2,q3⟩
 omega
def ak (E:List (Int×Int))(d:Int):Int:=if d%2=0 then(E.getD (d/2).toNat (0,0)).1 else(E.getD (d/2).toNat (0,0)).2
def aq (d:Int):Int:=if d%2=0 then d+1 else d-1
def cG (E:List (Int×Int))(e v s:Int):List Int:=
 (if s<=0/\ak E (2*e+0)=v then[2*e+0] else[])++(if s<=1/\ak E (2*e+1)=v then[2*e+1] else[])
theorem oq {E:List (Int×Int)}{e v s:Int}(h0:0<=s)(h:s<2):cG E e v s=(if ak E (2*e+s)=v then[2*e+s] else[])++cG E e v (s+1):=by
 rcases(show s=0\/s=1 by omega) with rfl|rfl
 .simp[cG]
 simp[cG]
theorem y9 {E:List (Int×Int)}{e v s:Int}(h:¬s<2):cG E e v s=[]:=by
 unfold cG;rw[if_neg (by omega),if_neg (by omega)];rfl
def aR (E:List (Int×Int))(L:List Int)(v:Int):List Int:=L.flatMap fun e=>cG E e v 0
theorem BW {E:List (Int×Int)}{L:List Int}{v i:Int}(h0:0<=i)(h:i<(L.length:Int)):aR E (L.drop i.toNat) v=cG E (L.getD i.toNat 0) v 0++aR E (L.drop (i+1).toNat) v:=by
 rw[Gb h0 h];rfl
theorem Gc {E:List (Int×Int)}{L:List Int}{v i:Int}(h:¬i<(L.length:Int)):aR E (L.drop i.toNat) v=[]:=by rw[Nz h];rfl
theorem RA {E:List (Int×Int)}{e:Int}:ak E (2*e+0)=(E.getD e.toNat (0,0)).1:=by
 unfold ak;rw[if_pos (by omega),show(2*e+0)/2=e by omega]
theorem RB {E:List (Int×Int)}{e:Int}:ak E (2*e+1)=(E.getD e.toNat (0,0)).2:=by
 unfold ak;rw[if_neg (by omega),show(2*e+1)/2=e by omega]
def upto (n:Int):List Int:=(List.range n.toNat).map fun j:Nat=>(j:Int)
theorem sM (n:Int):(upto n).length=n.toNat:=by simp[upto]
theorem qc {i:Int}(h:0<=i):upto (i+1)=upto i++[i]:=by
 unfold upto
 rw[show(i+1).toNat=i.toNat+1 by omega,List.range_succ,List.map_append]
 simp[Int.toNat_of_nonneg h]
theorem Ia {i n:Int}(h1:¬i<n)(h2:i<=n\/i=0):upto i=upto n:=by unfold upto;rw[show i.toNat=n.toNat by omega]
theorem DQ {n x:Int}:x∈upto n↔0<=x/\x<n:=by
 unfold upto
 rw[List.mem_map]
 constructor
 .rintro⟨j,hj,rfl⟩;have:=List.mem_range.1 hj;omega
 intro h;exact⟨x.toNat,List.mem_range.2 (by omega),by omega⟩
def fD (n:Int)(E:List (Int×Int)):List Int×List Int:=if bh n E≠0 then([],[]) else(upto n,upto (E.length:Int))
def kG (E:List (Int×Int))(L:List Int):List Int:=L.flatMap fun e=>[(E.getD e.toNat (0,0)).1,(E.getD e.toNat (0,0)).2]
abbrev DR (l:List Int):List Int:=l.mergeSort fun x y=>decide (x<=y)
def BX (E:List (Int×Int))(e v:Int):Prop:=(E.getD e.toNat (0,0)).1=v\/(E.getD e.toNat (0,0)).2=v
instance (E:List (Int×Int)) (e v:Int):Decidable (BX E e v):=by unfold BX;infer_instance
theorem sN {l:List Int}{n:Int}(h:bP l n):∀ {i j:Nat},i<j->j<l.length->l.getD i 0<l.getD j 0:=by
 intro i j Db hj
 induction j with
 |zero=>omega
 |succ j ih=>
  have h1:=(h (j+1) hj).2.2 (by omega)
  rw[show j+1-1=j by omega] at h1
  by_cases e:i=j
  .subst e;exact h1
  have:=ih (by omega) (by omega);omega
theorem xK {l:List Int}{n x:Int}(h:bP l n):∀(f:Nat) (lo hi:Int),(hi-lo).toNat<=f->0<=lo->lo<=hi->hi<=(l.length:Int)->(∀j:Nat,(j:Int)<lo->l.getD j 0<x)->(∀j:Nat,hi<=(j:Int)->j<l.length->x<=l.getD j 0)->
  0<=H9 l x lo hi/\H9 l x lo hi<=(l.length:Int)/\(∀j:Nat,(j:Int)<H9 l x lo hi->l.getD j 0<x)/\(∀j:Nat,H9 l x lo hi<=(j:Int)->j<l.length->x<=l.getD j 0)
 |0,lo,hi,hf,h0,h1,h2,ha,hb=>by
  rw[BV (by omega)]
  exact⟨h0,by omega,ha,fun j hj=>hb j (by omega)⟩
 |f+1,lo,hi,hf,h0,h1,h2,ha,hb=>by
  by_cases iH:lo<hi
  .by_cases hx:l.getD ((lo+hi)/2).toNat 0<x
   .rw[Uu iH hx]
    refine xK h f _ _ (by omega) (by omega) (by omega) h2 (fun j hj=>?_) hb
    by_cases e:j=((lo+hi)/2).toNat
    .rw[e];exact hx
    have:=sN h (i:=j) (j:=((lo+hi)/2).toNat) (by omega) (by omega);omega
   rw[Uv iH hx]
   refine xK h f _ _ (by omega) h0 (by omega) (by omega) ha (fun j hj hl=>?_)
   by_cases e:j=((lo+hi)/2).toNat
   .rw[e];omega
   have:=sN h (i:=((lo+hi)/2).toNat) (j:=j) (by omega) hl;omega
  rw[BV iH]
  exact⟨h0,by omega,ha,fun j hj=>hb j (by omega)⟩
theorem eC {l:List Int}{n x:Int}(h:bP l n):hasB l x=decide (x∈l):=by
 obtain⟨h0,h1,h2,h3⟩:=xK (x:=x) h l.length 0 (l.length:Int) (by omega) (by omega) (by omega) (Int.le_refl _) (fun j hj=>by omega) (fun j hj hl=>by omega)
 rw[Uw] at h0 h1 h2 h3
 unfold hasB
 rw[<-Bool.decide_and]
 refine decide_eq_decide.2 ⟨fun⟨a,b⟩=>fC.2 ⟨_,by omega,b⟩,fun hm=>?_⟩
 obtain⟨j,hj,e⟩:=fC.1 hm
 have h4:¬(j:Int)<Ny l x:=fun q=>by have:=h2 j q;omega
 have h5:=h3 (Ny l x).toNat (by omega) (by omega)
 refine⟨by omega,?_⟩
 by_cases e2:(Ny l x).toNat=j
 .rw[e2];exact e
 have:=sN h (i:=(Ny l x).toNat) (j:=j) (by omega) hj;omega
def VN (a b:List Int)(i k:Int):List Int:=gd (a.drop i.toNat) (b.drop k.toNat) 1
theorem Aq {l:List Int}{i:Int}(h:0<=i)(q:Nat):(l.drop i.toNat).getD q 0=l.getD (i.toNat+q) 0:=by
 simp[List.getD_eq_getElem?_getD]
theorem ue {a b:List Int}{i k:Int}(h0:0<=i)(h1:0<=k)(h:i<(a.length:Int)\/k<(b.length:Int)):VN a b i k=
  if ¬k<(b.length:Int)\/(i<(a.length:Int)/\a.getD i.toNat 0<b.getD k.toNat 0) then[a.getD i.toNat 0]++VN a b (i+1) k
  else if ¬i<(a.length:Int)\/b.getD k.toNat 0<a.getD i.toNat 0 then[b.getD k.toNat 0]++VN a b i (k+1)
  else[a.getD i.toNat 0]++VN a b (i+1) (k+1):=by
 unfold VN
 rw[DP (by simp only[List.length_drop];omega)]
 have e1:(a.drop i.toNat).getD 0 0=a.getD i.toNat 0:=Aq h0 0
 have e2:(b.drop k.toNat).getD 0 0=b.getD k.toNat 0:=Aq h1 0
 have d1:(a.drop i.toNat).drop 1=a.drop (i+1).toNat:=by rw[List.drop_drop,show(i+1).toNat=i.toNat+1 by omega]
 have d2:(b.drop k.toNat).drop 1=b.drop (k+1).toNat:=by rw[List.drop_drop,show(k+1).toNat=k.toNat+1 by omega]
 rw[e1,e2,d1,d2]
 simp only[List.length_drop,if_true]
 by_cases c1:¬k<(b.length:Int)\/(i<(a.length:Int)/\a.getD i.toNat 0<b.getD k.toNat 0)
 .rw[if_pos c1,if_pos (by omega)]
 rw[if_neg c1,if_neg (by omega)]
 by_cases c2:¬i<(a.length:Int)\/b.getD k.toNat 0<a.getD i.toNat 0
 .rw[if_pos c2,if_pos (by omega)]
 rw[if_neg c2,if_neg (by omega)]
theorem RC {a b:List Int}{i k:Int}(h:¬i<(a.length:Int)/\¬k<(b.length:Int)):VN a b i k=[]:=
 F9 (by simp only[List.length_drop];omega)
end Go.Proofs.YtnfdimfepbbbpaaGreat
