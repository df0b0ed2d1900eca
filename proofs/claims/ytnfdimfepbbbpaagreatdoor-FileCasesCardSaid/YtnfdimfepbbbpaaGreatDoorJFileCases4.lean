/-
  Texts joined by program: VK, VL, VM, VN, VO, VPM, VP, VQ, VR, VS, VU, VW, VX, VZ.
-/
import Derived.Test.YtnfdimfepbbbpaaGreatDoorJFileCases3
import Derived.RangeFuncNested
import Derived.RangeFuncLeaves
import Derived.RangeFuncCalls
import Derived.OrdersIn
import Derived.TacticsIn
set_option linter.unusedSimpArgs false
set_option linter.unusedVariables false
set_option maxRecDepth 100000
set_option maxHeartbeats 8000000
namespace Go.Proofs.YtnfdimfepbbbpaaGreatDoor
open Go.RowKit
section
variable {P:Program}{o:OrgG}{n:Nat}{A A':Asg}{S S':Stab}{F G:Nat->Prop}{s:Nat->Option E2}{r:Nat->Option R2}{a:Act}{w w':World}{C:List (Nat×Bool)}{b:Nat}
theorem appP_step {B:Nat}(H:OkF o n A S F s r a w)(hF:∀j,b<=j->j<B->¬F j){op:Oper}{c:Call}{t:TypeId}{x y:Operand}{q:Sy}{ty:Ty}{e:TypeId}{l:List (El ty)}{ps:List Prop}{old:Option (Nat×Option R2)}{v:Value}{out:Out}(ho:op.op= .call c)(hcal:c.callee= .builtin .append)(hargs:c.args.toList=[x,y])(hat:c.argTypes.toList=[t,t])
  (hx:a.eval x=v) (hy:a.eval y=q.den A) (hv:(∀p∈ps,p)->(∃xs,HdAt w e (Data.size (El ty)) v l.length xs/\RowRd S w xs l)/\OldOk A S F w r v old) (h:(appP P b t ty e l ps old.toList q).run s r=some out) (hcs:∀p∈out.cs,p) (hB:∀p∈out.re,p.1<B)
  {K:Act->World->Prop} {Q:Exit->Act->World->Prop} (k:∀v w',After o n F s r a out v w'->K (a.put op.dst v) w'):op.wp P a w K Q:=by
 have ha:c.args= #[x,y]:=by apply Array.ext';exact hargs
 have hb:c.argTypes= #[t,t]:=by apply Array.ext';exact hat
 unfold appP at h
 cases hu:P.underlying t with
 |none=>
  exfalso
  have key:∀ {q:Sy} {out:Out},(srcT ty (fun qs m=>guardT (elemB P t e (tsz ty)) (.ret ⟨(l.length+m.length<=2147483647)::(ps++qs),[],.one (.own b),(b,some (.row e ty (l++m)))::old.toList⟩)) q).run s r=some out->False:=by
   intro q out h
   have hg:elemB P t e (tsz ty)=false:=by unfold elemB;rw[hu]
   rw[hg] at h
   unfold srcT at h
   split at h
   .obtain⟨Y,hY,h⟩:=res_run h
    split at h
    .split at h
     .obtain⟨_,h⟩:=guardT_run h;cases h
     cases h
    cases h
   .obtain⟨Y,hY,h⟩:=res_run h
    split at h
    .split at h
     .obtain⟨_,h⟩:=guardT_run h;cases h
     cases h
    cases h
   .cases h
   cases h
  exact key h
 |some d=>
  have main:∀ {e':TypeId},d= .slice e'->op.wp P a w K Q:=by
   intro e' hd
   subst hd
   obtain⟨qs,m,h1,h2⟩:=srcT_run H hu h
   clear h
   obtain⟨hg,h3⟩:=guardT_run h1
   clear h1
   have e0:=ret_run h3
   subst e0
   obtain⟨bytes,hby,E⟩:=elemB_ok hg
   rw[tsz_eq] at E
   have hps:∀p∈ps,p:=fun p hp=>hcs p (List.mem_cons_of_mem _ (List.mem_append_left _ hp))
   have hqs:∀p∈qs,p:=fun p hp=>hcs p (List.mem_cons_of_mem _ (List.mem_append_right _ hp))
   obtain⟨k1,k2⟩:=hv hps
   obtain⟨v',w',r1,A',r2,r3⟩:=app_gen H (hF b (Nat.le_refl _) (hB _ List.mem_cons_self)) E hby k1 k2 (h2 hqs) (hcs _ List.mem_cons_self) op.type
   have e2:(execOp a.eval op).run P w= .ok (.value v') w':=by
    unfold execOp
    simp only[ho,resolve,hcal,ha,hb,invoke,builtin,Sem.run_bind,Sem.run_pure,Result.andThen_ok,List.map_toArray,List.map_cons,List.map_nil,hx,hy,r1]
   exact wp_value e2 (k _ _ ⟨A',S,r2,r3,.inr ⟨_,List.mem_cons_self⟩,tv⟩)
  cases d with
  |slice e'=>exact main rfl
  |_=>
   exfalso
   have hg:elemB P t e (tsz ty)=false:=by unfold elemB;rw[hu]
   rw[hg] at h
   unfold srcT at h
   split at h
   .obtain⟨Y,hY,h⟩:=res_run h
    split at h
    .split at h
     .obtain⟨_,h⟩:=guardT_run h;cases h
     cases h
    cases h
   .obtain⟨Y,hY,h⟩:=res_run h
    split at h
    .split at h
     .obtain⟨_,h⟩:=guardT_run h;cases h
     cases h
    cases h
   .cases h
   cases h
theorem srcTy_run {k:Ty->Tr Out}{q:Sy}{out:Out}(h:(srcTy k q).run s r=some out):∃ty,(k ty).run s r=some out:=by
 unfold srcTy at h
 split at h
 .obtain⟨Y,hY,h⟩:=res_run h
  split at h
  .exact⟨_,h⟩
  cases h
 .obtain⟨Y,hY,h⟩:=res_run h
  split at h
  .exact⟨_,h⟩
  cases h
 cases h
theorem app_step {B:Nat}(H:OkF o n A S F s r a w)(hF:∀j,b<=j->j<B->¬F j){op:Oper}{c:Call}{t:TypeId}{x y:Operand}{p q:Sy}{out:Out}(ho:op.op= .call c)(hcal:c.callee= .builtin .append)(hargs:c.args.toList=[x,y])(hat:c.argTypes.toList=[t,t])
  (hx:a.eval x=p.den A) (hy:a.eval y=q.den A) (h:(appT P b t p q).run s r=some out) (hcs:∀p∈out.cs,p) (hB:∀p∈out.re,p.1<B)
  {K:Act->World->Prop} {Q:Exit->Act->World->Prop} (k:∀v w',After o n F s r a out v w'->K (a.put op.dst v) w'):op.wp P a w K Q:=by
 have ha:c.args= #[x,y]:=by apply Array.ext';exact hargs
 have hb:c.argTypes= #[t,t]:=by apply Array.ext';exact hat
 have nilP:∀ {ty:Ty} {q:Sy},p= .one (.v (.slice none 0 0))->a.eval y=q.den A->(appP P b t ty (P.elem t) [] [] [] q).run s r=some out->op.wp P a w K Q:=fun {ty q'} e hy' h'=>by
  subst e
  exact appP_step (q:=q') (old:=none) H hF ho hcal hargs hat hx hy' (fun _=>⟨⟨[],HdAt.nil w _ _,RowRd.nil _ _⟩,rfl⟩) h' hcs hB k
 have nest:∀ {v:Value} {old:Option Nat} {i qi:Nat} {e e' ie:TypeId} {ty:Ty} {l m:List (El ty)},a.eval x=v->a.eval y=A.v i->elemB P t e (tsz ty)=true->
   (match old with
   |some j=>v=A.v j/\∃qf,r j=some (.ext (.nest qf none e ty ie l))
   |none=>v= .slice none 0 0/\l=[])->r i=some (.ext (.nest qi none e' ty ie m))->old≠some i->l.length+m.length<=2147483647->∀cs hs,out=⟨cs,hs,.one (.own b),(b,some (.ext (.nest b none e ty ie (l++m))))::(old.toList.map (fun j=>(j,none))++[(i,none)])⟩->op.wp P a w K Q:=by
  intro v old i qi e e' ie ty l m hx hy hg hold hi hne hlen cs hs e0
  subst e0
  obtain⟨bytes,hby,E⟩:=elemB_ok hg
  obtain⟨v',w',r1,A',r2,r3⟩:=nestApp H (hF b (Nat.le_refl _) (hB _ List.mem_cons_self)) E hby hold hi hne hlen op.type
  have e2:(execOp a.eval op).run P w= .ok (.value v') w':=by
   unfold execOp
   simp only[ho,resolve,hcal,ha,hb,invoke,builtin,Sem.run_bind,Sem.run_pure,Result.andThen_ok,List.map_toArray,List.map_cons,List.map_nil,hx,hy,r1]
  exact wp_value e2 (k _ _ ⟨A',S,r2,r3,.inr ⟨_,List.mem_cons_self⟩,tv⟩)
 unfold appT at h
 split at h
 .split at h
  .rename_i i
   obtain⟨Y,hY,h2⟩:=res_run h
   clear h
   split at h2
   .rename_i qi e ty ie m
    obtain⟨hg,h3⟩:=guardT_run h2
    have e0:=ret_run h3
    have hlen:m.length<=2147483647:=hcs _ (by rw[e0];exact List.mem_singleton.2 rfl)
    exact nest (old:=none) (l:=[]) hx hy hg ⟨rfl,rfl⟩ hY (by simp) (by simpa using hlen) _ _ e0
   obtain⟨ty,h3⟩:=srcTy_run h2
   exact nilP rfl hy h3
  obtain⟨ty,h3⟩:=srcTy_run h
  exact nilP rfl hy h3
 .rename_i j
  obtain⟨X,hX,h2⟩:=res_run h
  clear h
  split at h2
  .rename_i e ty l
   refine appP_step (old:=some (j,none)) (v:=A.v j) H hF ho hcal hargs hat hx hy (fun _=>⟨H.frm.ok j (rowRs e (A.v j) l) (by show(r j).map _=_;rw[hX];rfl),⟨_,hX,fun c hc=>hc,fun z q=>by cases q⟩⟩) h2 hcs hB k
  .rename_i qf e ty ie l
   split at h2
   .rename_i i
    obtain⟨Y,hY,h3⟩:=res_run h2
    clear h2
    split at h3
    .rename_i qi e' ty' ie' m
     split at h3
     .rename_i m' hm'
      obtain⟨hg,h4⟩:=guardT_run h3
      clear h3
      obtain⟨et,hm2⟩:=castEl_ok hm'
      have et:ty'=ty:=by injection et
      subst et
      have hm2:m=m':=hm2
      subst hm2
      simp only[Bool.and_eq_true] at hg
      obtain⟨g1,g2,g3⟩:=hg
      have g2:=beq_t g2
      subst g2
      have e0:=ret_run h4
      have hlen:l.length+m.length<=2147483647:=hcs _ (by rw[e0];exact List.mem_singleton.2 rfl)
      exact nest (old:=some j) hx hy g1 ⟨rfl,qf,hX⟩ hY (fun q=>by cases q;simp at g3) hlen _ _ e0
     cases h3
    cases h3
   cases h2
  cases h2
 .rename_i j qf hx'
  obtain⟨Y,hY,h2⟩:=res_run h
  clear h
  split at h2
  .rename_i I hI
   refine appP_step (old:=some (j,some I.z)) (v:=A.f qf hx'.lit) H hF ho hcal hargs hat hx hy (fun hp=>?_) h2 hcs hB k
   obtain⟨q1,q2,q3,q4,q5,q6,q7⟩:=hd_at H hY hI hp
   exact⟨q1,_,hY,q2,fun z e=>by cases e;exact⟨q3,q4,q5,q6,q7⟩⟩
  cases h2
 cases h
theorem place_in {R:Sc->Prop}{fs:Array Field}:∀ {l:List (Nat×Sy)} {cs cs':List Sc},(∀p∈l,∀c∈syCells p.2,R c)->(∀c∈cs,R c)->placeC fs l cs=some cs'->∀c∈cs',R c
 |[],cs,cs',_,h,e=>by cases e;exact h
 |(i,y)::l,cs,cs',hl,h,e=>by
  simp only[placeC] at e
  split at e
  .rename_i fd _
   refine place_in (fun p hp=>hl p (List.mem_cons_of_mem _ hp)) (fun c hc=>?_) e
   rcases List.mem_append.1 hc with hc|hc
   .rcases List.mem_append.1 hc with hc|hc
    .exact h c (List.mem_of_mem_take hc)
    exact hl (i,y) (by simp) c hc
   exact h c (List.mem_of_mem_drop hc)
  cases e
theorem opT_ok {B:Nat}{T:List (Con P)}{md:Bool}(H:OkF o n A S F s r a w)(hC:chOk a C)(hF:∀j,b<=j->j<B->¬F j){op:Oper}{out:Out}(h:(opT P T C md b op.op).run s r=some out)(hcs:∀p∈out.cs,p)(hhs:∀h∈out.hs,∀A w,h.lhs A w=h.rhs A w)(hB:∀p∈out.re,p.1<B)
  {K:Act->World->Prop} {Q:Exit->Act->World->Prop} (k:∀v w',After o n F s r a out v w'->K (a.put op.dst v) w'):op.wp P a w K Q:=by
 have quiet:(quiet2 P C b op.op).run s r=some out->op.wp P a w K Q:=by
  intro h
  obtain⟨⟨A',h1,h2,h3,h4,h5⟩,_⟩:=quiet2_ok H hC hF h hcs hB
  exact wp_quiet (h2 op rfl) (k _ _ ⟨A',S,H.ro h1 h5,rfl,h3,h4⟩)
 cases hop:op.op
 case box t x=>
  rw[hop] at h
  obtain⟨y,e1,e2,e3,h⟩:=opd_run H hC h
  have e:=ret_run h
  subst e
  have hrun:=hhs _ (List.mem_singleton.2 rfl) A w
  have e4:(execOp a.eval op).run P w= .ok (.value (.pointer (some ⟨w.heap.size,0,none⟩))) (w.alloc (.cells ((syCells y).map (Sc.den A)).toArray t)):=by
   simp only[boxHid] at hrun
   simp only[execOp,hop,Sem.run_bind,e1,hrun]
   rfl
  have hin:∀c∈syCells y,c.all F/\c.good A:=by
   intro c hc
   cases y with
   |one c'=>have:=List.mem_singleton.1 hc;subst this;exact⟨e2,e3⟩
   |agg ds=>exact⟨e2 c hc,e3 c hc⟩
   |tup ps=>cases hc
  exact box_step H (hF b (Nat.le_refl _) (hB _ (List.mem_singleton.2 rfl))) (fun c hc=>(hin c hc).1) (fun c hc=>(hin c hc).2) e4 k
 case alloc t=>
  rw[hop] at h
  simp only[opT] at h
  split at h
  .split at h
   .rename_i z hz
    have e:=ret_run h
    subst e
    have hrun:=hhs _ (List.mem_singleton.2 rfl) A w
    have e4:(execOp a.eval op).run P w= .ok (.value (.pointer (some ⟨w.heap.size,0,none⟩))) (w.alloc (.cells ((z.cells.toList.map scOf).map (Sc.den A)).toArray t)):=by
     simp only[allocHid] at hrun
     simp only[execOp,hop,Sem.run_bind,hrun]
     rfl
    exact box_step H (hF b (Nat.le_refl _) (hB _ (List.mem_singleton.2 rfl))) (fun c hc=>by obtain⟨u,_,rfl⟩:=List.mem_map.1 hc;exact scOf_all F u) (fun c hc=>by obtain⟨u,_,rfl⟩:=List.mem_map.1 hc;exact scOf_good A u) e4 k
   cases h
  cases h
 case buildSlice t len parts=>
  rw[hop] at h
  obtain⟨ys,f1,f2,h⟩:=opds_run H hC h
  refine litN_step H hF hop ?_ h hcs hhs hB k
  rw[<-f1,List.map_map];rfl
 case build t parts=>
  rw[hop] at h
  obtain⟨ys,f1,f2,h⟩:=opds_run H hC h
  unfold buildT at h
  split at h
  .split at h
   .rename_i z hz
    split at h
    .rename_i cs hcs'
     have e:=ret_run h
     subst e
     have hrun:=hhs _ (List.mem_singleton.2 rfl) A w
     simp only[buildHid] at hrun
     have ep:parts.map (fun x=>(x.1,a.eval x.2))=(((parts.toList.map (·.1)).zip ys).map fun y=>(y.1,y.2.den A)).toArray:=by
      apply Array.ext'
      rw[Array.toList_map]
      show _=((parts.toList.map (·.1)).zip ys).map fun y=>(y.1,y.2.den A)
      have:(((parts.toList.map (·.1)).zip ys).map fun y=>(y.1,y.2.den A))=(parts.toList.map (·.1)).zip (ys.map (Sy.den A)):=by
       rw[List.zip_map_right]
       rfl
      rw[this,<-f1,List.map_map,List.zip_map']
      rfl
     have e4:(execOp a.eval op).run P w= .ok (.value (.agg (cs.map (Sc.den A)).toArray)) w:=by
      rw[<-ep] at hrun
      simp only[execOp,hop,Sem.run_bind]
      rw[show(Array.map (fun x=>match x with|(i,x)=>(i,a.eval x)) parts)=parts.map (fun x=>(x.1,a.eval x.2)) from rfl,hrun]
      rfl
     have hin:∀c∈cs,c.all F/\c.good A:=place_in (l:=(parts.toList.map (·.1)).zip ys) (fun p hp c hc=>by
      have hy:=f2 p.2 (List.of_mem_zip hp).2
      obtain⟨i,y⟩:=p
      cases y with
      |one c'=>have:=List.mem_singleton.1 hc;subst this;exact hy
      |agg ds=>exact⟨hy.1 c hc,hy.2 c hc⟩
      |tup ps=>cases hc) (fun c hc=>by obtain⟨u,_,rfl⟩:=List.mem_map.1 hc;exact⟨scOf_all F u,scOf_good A u⟩) hcs'
     exact wp_value e4 (k _ _ ⟨A,S,H.agree (Agr.refl _ _) fun _ q=>.inl q,rfl,fun c hc=>Sc.mono (fun _ q=>.inl q) (hin c hc).1,fun c hc=>(hin c hc).2⟩)
    cases h
   cases h
  cases h
 case store t x y=>
  rw[hop] at h
  obtain⟨p,e1,e2,e3,h⟩:=opd_run H hC h
  obtain⟨q,f1,f2,f3,h⟩:=opd_run H hC h
  exact storeEl_step H hF hop e1 f1 ⟨f2,f3⟩ h hcs hB k
 case call c=>
  rw[hop] at h
  simp only[opT] at h
  split at h
  .rename_i x hcal
   obtain⟨p,e1,e2,e3,h⟩:=opd_run H hC h
   split at h
   .rename_i f caps
    split at h
    .rename_i con hcon
     obtain⟨hg,h⟩:=guardT_run h
     obtain⟨ys,f1,f2,h⟩:=opds_run H hC h
     have hf:con.f=f:=beq_t (by have:=List.find?_some hcon;exact this)
     exact call2_step (T:=T) H hF hop hcal e1 hf (by simpa using hg) f1 f2 e2 h hcs hhs hB k
    cases h
   cases h
  .rename_i hcal
   split at h
   .rename_i x y t t' hargs hat
    obtain⟨hg,h2⟩:=guardT_run h
    have hg:=beq_t hg
    subst hg
    obtain⟨p,e1,e2,e3,h3⟩:=opd_run H hC h2
    obtain⟨q,f1,f2,f3,h⟩:=opd_run H hC h3
    exact app_step H hF hop hcal hargs hat e1 f1 h hcs hB k
   cases h
  .rename_i hcal
   split at h
   .rename_i x t hargs hat _
    obtain⟨p,e1,e2,e3,h⟩:=opd_run H hC h
    exact lenM_step H hop hcal hargs hat e1 h k
   exact quiet (by rw[hop];exact h)
  .rename_i hcal
   split at h
   .rename_i x y t kt hargs hat
    obtain⟨p,e1,e2,e3,h⟩:=opd_run H hC h
    obtain⟨q,f1,f2,f3,h⟩:=opd_run H hC h
    exact dropM_step H hop hcal hargs hat e1 f1 h hcs k
   cases h
  exact quiet (by rw[hop];exact h)
 case makeMap t x=>
  rw[hop] at h
  cases x with
  |none=>exact makeMN_step H hF hop (fun y q=>by cases q) h hB k
  |some x=>
   obtain⟨p,e1,e2,e3,h⟩:=opd_run H hC h
   split at h
   .rename_i ik m
    exact makeMN_step H hF hop (fun y q=>by cases q;exact⟨ik,m,e1⟩) h hB k
   cases h
 case mapEntry t m x=>
  rw[hop] at h
  obtain⟨p,e1,e2,e3,h⟩:=opd_run H hC h
  obtain⟨q,f1,f2,f3,h⟩:=opd_run H hC h
  exact ent_step H hF hop e1 f1 h hcs hhs hB k
 case entryStore t m x y=>
  rw[hop] at h
  obtain⟨p,e1,e2,e3,h⟩:=opd_run H hC h
  obtain⟨q,f1,f2,f3,h⟩:=opd_run H hC h
  obtain⟨z,g1,g2,g3,h⟩:=opd_run H hC h
  exact entSt_step H hop e1 f1 g1 h hcs k
 case mapUpdate t m x y=>
  rw[hop] at h
  obtain⟨p,e1,e2,e3,h⟩:=opd_run H hC h
  obtain⟨q,f1,f2,f3,h⟩:=opd_run H hC h
  obtain⟨z,g1,g2,g3,h⟩:=opd_run H hC h
  exact putN_step H hF (.inl hop) e1 f1 g1 h hcs hB k
 case insert t m x y=>
  rw[hop] at h
  obtain⟨p,e1,e2,e3,h⟩:=opd_run H hC h
  obtain⟨q,f1,f2,f3,h⟩:=opd_run H hC h
  obtain⟨z,g1,g2,g3,h⟩:=opd_run H hC h
  exact putN_step H hF (.inr hop) e1 f1 g1 h hcs hB k
 case lookup t m x ok=>
  rw[hop] at h
  obtain⟨p,e1,e2,e3,h⟩:=opd_run H hC h
  obtain⟨q,f1,f2,f3,h⟩:=opd_run H hC h
  exact look_step H hF hop e1 f1 h hcs hhs hB k
 case makeFunc f first caps=>
  rw[hop] at h
  simp only[opT] at h
  split at h
  .rename_i f' hfirst
   obtain⟨ys,f1,f2,h2⟩:=opds_run H hC h
   clear h
   split at h2
   .rename_i cs hcs'
    have e0:=one_run h2
    subst e0
    have hc:∀ {ys:List Sy} {cs:List (Nat×Nat)},capsOf ys=some cs->ys.map (Sy.den A)=cs.map fun c=>Value.pointer (some ⟨A.b c.1,c.2,none⟩):=by
     intro ys
     induction ys with
     |nil=>intro cs h;cases h;rfl
     |cons y ys ih=>
      intro cs h
      unfold capsOf at h
      split at h
      .rename_i heq;cases heq
      .rename_i j off l heq
       cases heq
       obtain⟨cs',h1,rfl⟩:=Option.map_eq_some_iff.1 h
       rw[List.map_cons,List.map_cons,ih h1];rfl
      cases h
    have hall:∀ {ys:List Sy} {cs:List (Nat×Nat)},capsOf ys=some cs->(∀y∈ys,y.all F/\y.good A)->∀c∈cs,F c.1:=by
     intro ys
     induction ys with
     |nil=>intro cs h _ c hc;cases h;cases hc
     |cons y ys ih=>
      intro cs h hy c hc
      unfold capsOf at h
      split at h
      .rename_i heq;cases heq
      .rename_i j off l heq
       cases heq
       obtain⟨cs',h1,rfl⟩:=Option.map_eq_some_iff.1 h
       rcases List.mem_cons.1 hc with rfl|hc
       .exact(hy _ List.mem_cons_self).1
       exact ih h1 (fun z hz=>hy z (List.mem_cons_of_mem _ hz)) c hc
      cases h
    have hfa:first= #[]:=by apply Array.ext';exact hfirst
    have hca:caps.map a.eval=(cs.map fun c=>Value.pointer (some ⟨A.b c.1,c.2,none⟩)).toArray:=by
     apply Array.ext'
     rw[Array.toList_map,f1,hc hcs']
    have e4:(execOp a.eval op).run P w= .ok (.value (.func (.func f') #[] (cs.map fun c=>Value.pointer (some ⟨A.b c.1,c.2,none⟩)).toArray)) w:=by
     simp only[execOp,hop,Sem.run_bind,hfa,hca,Instr.makeFunc,Sem.run_pure,Array.map_empty];rfl
    exact wp_value e4 (k _ _ ⟨A,S,H.agree (Agr.refl _ _) fun _ q=>.inl q,rfl,fun c hc=>.inl (hall hcs' f2 c hc),tv⟩)
   cases h2
  cases h
 case slice t x lo hi mx=>
  rw[hop] at h
  cases mx with
  |none=>
   have plain:((opd C x fun p=>intOp C lo fun i=>intOp C hi fun k=>sliceT P b t i k p):Tr Out).run s r=some out->op.wp P a w K Q:=fun h=>by
    obtain⟨p,e1,e2,e3,h1⟩:=opd_run H hC h
    obtain⟨i,f1,h2⟩:=intOp_run H hC h1
    obtain⟨k',g1,h3⟩:=intOp_run H hC h2
    exact slice_step H hF hop e1 f1 g1 h3 hcs hB k
   cases lo with
   |none=>exact plain h
   |some lo=>
    cases hi with
    |some hi=>exact plain h
    |none=>
     cases md with
     |false=>exact plain h
     |true=>
      obtain⟨p,e1,e2,e3,h1⟩:=opd_run H hC h
      obtain⟨q,f1,f2,f3,h2⟩:=opd_run H hC h1
      split at h2
      .exact view_step H hF hop e1 f1 h2 hcs hB k
      cases h2
  |some mx=>
   cases lo with
   |some _=>cases hi<;>exact quiet (by rw[hop];exact h)
   |none=>
    cases hi with
    |none=>exact quiet (by rw[hop];exact h)
    |some hi=>
     obtain⟨p,e1,e2,e3,h1⟩:=opd_run H hC h
     obtain⟨q,f1,f2,f3,h2⟩:=opd_run H hC h1
     split at h2
     .obtain⟨q',g1,g2,g3,h3⟩:=opd_run H hC h2
      split at h3
      .exact sliceM_step H hF hop e1 f1 g1 h3 hcs hB k
      cases h3
     cases h2
 case makeSlice t l c=>
  rw[hop] at h
  obtain⟨p,e1,e2,e3,h1⟩:=opd_run H hC h
  obtain⟨q,f1,f2,f3,h2⟩:=opd_run H hC h1
  exact makeS_step H hF hop e1 f1 h2 hcs hB k
 case range t x=>
  rw[hop] at h
  obtain⟨p,e1,e2,e3,h1⟩:=opd_run H hC h
  exact rangeV_step H hF hop e1 h1 hB k
 case entry x=>
  rw[hop] at h
  obtain⟨p,e1,e2,e3,h1⟩:=opd_run H hC h
  exact entry_step H hF hop e1 h1 hB k
 case binOp op' t x y t'=>
  rw[hop] at h
  cases md with
  |false=>exact quiet (by rw[hop];exact h)
  |true=>
   cases op' with
   |quo=>
    obtain⟨p,e1,e2,e3,h1⟩:=opd_run H hC h
    obtain⟨q,f1,f2,f3,h2⟩:=opd_run H hC h1
    unfold tdivT at h2
    split at h2
    .rename_i a' b'
     obtain⟨rfl,hp⟩:=oneIf_run h2 hcs
     have e1:a.eval x= .int .i64 a':=e1
     have f1:a.eval y= .int .i64 b':=f1
     have hin:InR .i64 (a'.tdiv b'):=by
      obtain⟨q1,q2⟩:=hp
      have q2: -9223372036854775808<=a'/\a'<=9223372036854775807:=q2
      have hn:(a'.tdiv b').natAbs<=a'.natAbs:=by rw[Int.natAbs_tdiv];exact Nat.div_le_self _ _
      show -9223372036854775808<=a'.tdiv b'/\a'.tdiv b'<=9223372036854775807
      by_cases hz:a'= -9223372036854775808
      .subst hz
       have:Int.tdiv (-9223372036854775808) b'<=0:=by
        rw[Int.neg_tdiv]
        have:=Int.tdiv_nonneg (a:=9223372036854775808) (b:=b') (by decide) (by omega)
        omega
       omega
      omega
     have h2':(eqGuard .quo t x y (.int .i64 a') (.int .i64 b')).run P w= .ok () w:=by simp[eqGuard,Sem.run_pure]
     have e4:(execOp a.eval op).run P w= .ok (.value (.int .i64 (a'.tdiv b'))) w:=by
      simp only[execOp,hop,Sem.run_bind,e1,f1,h2',Result.andThen_ok]
      have h3:(binOp .quo t (.int .i64 a') (.int .i64 b'))=Op.intDiv .quo .i64 a' b':=rfl
      rw[h3]
      unfold Op.intDiv
      rw[if_neg (by omega)]
      show Sem.run P (do let x <-(pure (Value.int .i64 (IntKind.i64.wrap (a'.tdiv b'))):Sem Value);_) w=_
      rw[hin.wrap]
      rfl
     exact wp_value e4 (k _ _ ⟨A,S,H.agree (Agr.refl _ _) fun _ q=>.inl q,rfl,tv,tv⟩)
    cases h2
   |_=>exact quiet (by rw[hop];exact h)
 all_goals (rw[hop] at h;exact quiet (by rw[hop];exact h))
end
def Tr.bind {α β:Type 1}:Tr α->(α->Tr β)->Tr β
 | .ret a,k=>k a
 | .fail,_=>.fail
 | .slot t f,k=>.slot t fun e=>(f e).bind k
 | .res j f,k=>.res j fun x=>(f x).bind k
theorem Tr.bind_run {α β:Type 1}{s:Nat->Option E2}{r:Nat->Option R2}:∀ {T:Tr α} {k:α->Tr β} {out:β},(T.bind k).run s r=some out->∃a,T.run s r=some a/\(k a).run s r=some out
 | .ret a,k,out,h=>⟨a,rfl,h⟩
 | .fail,k,out,h=>by cases h
 | .slot t f,k,out,h=>by
  simp only[Tr.bind,Tr.run] at h ⊢
  split at h
  .rename_i e he
   obtain⟨a,h1,h2⟩:=Tr.bind_run h
   exact⟨a,h1,h2⟩
  cases h
 | .res j f,k,out,h=>by
  simp only[Tr.bind,Tr.run] at h ⊢
  split at h
  .rename_i e he
   obtain⟨a,h1,h2⟩:=Tr.bind_run h
   exact⟨a,h1,h2⟩
  cases h
structure Upd:Type 1 where
 cs:List Prop
 hs:List Hid
 sl:Option (Nat×Option E2)
 re:List (Nat×Option R2)
def setE (s:Nat->Option E2):List (Nat×Option E2)->Nat->Option E2
 |[]=>s
 |p::l=>updE (setE s l) p.1 p.2
def imp:List Prop->Prop->Prop
 |[],p=>p
 |g::gs,p=>g->imp gs p
def isUnd:Value->Bool
 | .tuple a=>a.toList.isEmpty
 |_=>false
def chainT (ops:Array Oper)(o:Oper)(k:Option (List (Nat×Bool))->Tr Upd):Tr Upd:=
 match o.guard with
 |none=>k (some [])
 |some (i,bv)=>match(ops[i]?).bind (·.dst) with
  |some j=>.slot j fun e=>match e.sy with
   | .one (.b (.lit c))=>match Bool.xor c bv with
    |false=>k (some e.ch)
    |true=>k none
   | .one (.b _)=>k (some (e.ch++[(j,bv)]))
   | .one (.v u)=>match isUnd u with
    |true=>k none
    |false=>.fail
   |_=>.fail
  |none=>.fail
def saysT:List (Nat×Bool)->(List Prop->Tr Upd)->Tr Upd
 |[],k=>k []
 |l::C,k=>.slot l.1 fun e=>match e.sy with
  | .one (.b be)=>saysT C fun ps=>k (be.is l.2::ps)
  |_=>.fail
def hintOf:List (Nat×Bool)->Nat->Option Bool
 |[],_=>none
 |p::l,d=>match Nat.beq p.1 d with
  |true=>some p.2
  |false=>hintOf l d
def finT (hn:List (Nat×Bool))(d:Option Nat)(out:Out):Upd:=
 match d with
 |none=>⟨out.cs,out.hs,none,out.re⟩
 |some d=>match hintOf hn d,out.sy with
  |some v,.one (.b e)=>⟨out.cs++[e.is v],out.hs,some (d,some ⟨[],.one (.b (.lit v))⟩),out.re⟩
  |_,y=>⟨out.cs,out.hs,some (d,some ⟨[],y⟩),out.re⟩
def stepG (P:Program)(T:List (Con P))(sd:Nat)(hn:List (Nat×Bool))(n:Nat)(ops:Array Oper)(b:Nat)(o:Oper):Tr Upd:=
 guardT (match o.dst with|some d=>Nat.blt d n|none=>true) (chainT ops o fun oc=>match oc with
  |none=>.ret ⟨[],[],o.dst.map fun d=>(d,some ⟨[],.one (.v (.tuple #[]))⟩),[]⟩
  |some []=>(opT P T [] (match o.dst with|some d=>hintOf hn d==some true|none=>false) b o.op).bind fun out=>guardT (out.re.all fun p=>Nat.blt p.1 (b+sd)) (.ret (finT hn o.dst out))
  |some (l::C)=>(opT P T (l::C) false b o.op).bind fun out=>match out.re,o.dst with
   |[],some d=>guardT ((l::C).all fun l=>!Nat.beq l.1 d) (saysT (l::C) fun ps=>.ret ⟨out.cs.map (imp ps),out.hs,some (d,some ⟨l::C,out.sy⟩),[]⟩)
   |_,_=>.fail)
section
variable {P:Program}{o:OrgG}{n:Nat}{A A':Asg}{S S':Stab}{F G:Nat->Prop}{s:Nat->Option E2}{r:Nat->Option R2}{a:Act}{w w':World}{C:List (Nat×Bool)}{b:Nat}
theorem ret_run' {u u':Upd}(h:(Tr.ret u').run s r=some u):u=u':=(Option.some.inj h).symm
theorem chainT_run (H:OkF o n A S F s r a w){ops:Array Oper}{op:Oper}{k:Option (List (Nat×Bool))->Tr Upd}{out:Upd}(h:(chainT ops op k).run s r=some out):
  (∃C,(Region.wanted op (yielded ops a.tmps)=true↔chOk a C)/\(k (some C)).run s r=some out)\/(Region.wanted op (yielded ops a.tmps)=false/\(k none).run s r=some out):=by
 unfold chainT at h
 unfold Region.wanted
 split at h
 .rename_i hg
  refine .inl ⟨[],?_,h⟩
  simp[hg,chOk]
 rename_i i bv hg
 split at h
 .rename_i j hj
  simp only[Tr.run] at h
  split at h
  .rename_i e he
   have hen:=H.env j e he
   have hy:yielded ops a.tmps i=some bv↔a.tmps[j]?=some (.bool bv):=by
    unfold yielded
    rw[hj]
    simp only[Option.bind_some]
    constructor
    .intro hh
     split at hh
     .rename_i c hc;cases hh;exact hc
     cases hh
    intro hh;rw[hh]
   have hundef:a.tmps[j]?=some (.bool bv)->chOk a e.ch:=fun hh=>Classical.byContradiction fun hn=>by
    have:=hen.2 hn
    rw[show(⟨j,e.ch,e.sy.den A⟩:Ent).slot=j from rfl,hh] at this
    simp[undef] at this
   split at h
   .rename_i c hsy
    have hval:chOk a e.ch->a.tmps[j]?=some (.bool c):=fun q=>by have:=hen.1 q;rw[hsy] at this;exact this
    split at h
    .rename_i hx
     have hcb:c=bv:=by cases c<;>cases bv<;>first|rfl|cases hx
     subst hcb
     refine .inl ⟨e.ch,?_,h⟩
     simp only[hg,beq_iff_eq]
     rw[hy]
     exact⟨hundef,hval⟩
    rename_i hx
    refine .inr ⟨?_,h⟩
    simp only[hg,beq_eq_false_iff_ne,ne_eq]
    rw[hy]
    intro hh
    rw[hval (hundef hh)] at hh
    cases hh
    cases bv<;>cases hx
   .rename_i be _ hsy
    refine .inl ⟨e.ch++[(j,bv)],?_,h⟩
    simp only[hg,beq_iff_eq]
    rw[hy]
    constructor
    .intro hh l hl
     rcases List.mem_append.1 hl with hl|hl
     .exact hundef hh l hl
     rw[List.mem_singleton] at hl;subst hl;exact hh
    intro hh;exact hh (j,bv) (List.mem_append_right _ (by simp))
   .rename_i u hsy
    split at h
    .rename_i hu
     refine .inr ⟨?_,h⟩
     simp only[hg,beq_eq_false_iff_ne,ne_eq]
     rw[hy]
     intro hh
     have:=hen.1 (hundef hh)
     rw[show(⟨j,e.ch,e.sy.den A⟩:Ent).slot=j from rfl,hh,hsy] at this
     have:u= .bool bv:=(Option.some.inj this).symm
     rw[this] at hu
     cases hu
    cases h
   cases h
  cases h
 cases h
theorem saysT_run (H:OkF o n A S F s r a w):∀ {C:List (Nat×Bool)} {k:List Prop->Tr Upd} {out:Upd},(saysT C k).run s r=some out->∃ps,(chOk a C->∀p∈ps,p)/\(k ps).run s r=some out
 |[],k,out,h=>⟨[],fun _ _ q=>(by cases q),h⟩
 |l::C,k,out,h=>by
  simp only[saysT,Tr.run] at h
  split at h
  .rename_i e he
   split at h
   .rename_i be hsy
    obtain⟨ps,h1,h2⟩:=saysT_run H h
    refine⟨be.is l.2::ps,fun hc p hp=>?_,h2⟩
    have hl:a.tmps[l.1]?=some (.bool l.2):=hc l (by simp)
    rcases List.mem_cons.1 hp with rfl|hp
    .have hen:=H.env l.1 e he
     have hch:chOk a e.ch:=Classical.byContradiction fun hn=>by
      have:=hen.2 hn
      rw[show(⟨l.1,e.ch,e.sy.den A⟩:Ent).slot=l.1 from rfl,hl] at this
      simp[undef] at this
     have hv:=hen.1 hch
     rw[show(⟨l.1,e.ch,e.sy.den A⟩:Ent).slot=l.1 from rfl,hl,hsy] at hv
     have hv:Value.bool l.2= .bool be.den:=Option.some.inj hv
     exact(BE.is_iff be l.2).2 (Value.bool.inj hv).symm
    exact h1 (fun z hz=>hc z (List.mem_cons_of_mem _ hz)) p hp
   cases h
  cases h
theorem imp_elim:∀ {ps:List Prop} {p:Prop},imp ps p->(∀q∈ps,q)->p
 |[],p,h,_=>h
 |g::gs,p,h,k=>imp_elim (h (k g (by simp))) fun q hq=>k q (List.mem_cons_of_mem _ hq)
def putE (s:Nat->Option E2):Option (Nat×Option E2)->Nat->Option E2
 |none=>s
 |some p=>updE s p.1 p.2
theorem act_put_none (a:Act)(v:Value):a.put none v=a:=rfl
theorem stepG_ok {T:List (Con P)}{sd:Nat}{hn:List (Nat×Bool)}{ops:Array Oper}(H:OkF o n A S F s r a w)(hF:∀j,b<=j->j<b+sd->¬F j){op:Oper}{u:Upd}(h:(stepG P T sd hn n ops b op).run s r=some u)(hcs:∀p∈u.cs,p)(hhs:∀h∈u.hs,∀A w,h.lhs A w=h.rhs A w)
  (hch:∀d,op.dst=some d->∀t e,s t=some e->∀l∈e.ch,l.1≠d) {K:Act->World->Prop} {Q:Exit->Act->World->Prop} (k:∀A' S' a' w',OkF o n A' S' (FU F u.re) (putE s u.sl) (setM r u.re) a' w'->(∀p∈u.re,p.1<b+sd)->K a' w'):
  if Region.wanted op (yielded ops a.tmps) then op.wp P a w K Q else K (a.put op.dst undef) w:=by
 unfold stepG at h
 obtain⟨hd,h⟩:=guardT_run h
 have hdn:∀d,op.dst=some d->d<n:=fun d e=>by rw[e] at hd;simpa using Nat.blt_eq▸hd
 rcases chainT_run H h with⟨C,hw,h⟩|⟨hw,h⟩
 .cases C with
  |nil=>
   have hw:Region.wanted op (yielded ops a.tmps)=true:=hw.2 fun l hl=>by cases hl
   rw[if_pos hw]
   obtain⟨out,ho,h⟩:=Tr.bind_run h
   obtain⟨hre,h⟩:=guardT_run h
   have hB:∀p∈out.re,p.1<b+sd:=fun p hp=>by have:=List.all_eq_true.1 hre p hp;simpa using Nat.blt_eq▸this
   have e:=ret_run' h
   subst e
   unfold finT at hcs hhs k
   have hC:chOk a []:=fun l hl=>by cases hl
   have fin:(∀p∈out.cs,p)->(∀h∈out.hs,∀A w,h.lhs A w=h.rhs A w)->(∀v w',After o n F s r a out v w'->K (a.put op.dst v) w')->op.wp P a w K Q:=fun h1 h2 h3=>opT_ok H hC hF ho h1 h2 hB h3
   cases hdst:op.dst with
   |none=>
    rw[hdst] at hcs hhs k fin
    refine fin hcs hhs fun v w' ⟨A',S',h1,h2,h3,h4⟩=>?_
    rw[act_put_none]
    exact k A' S' a w' h1 hB
   |some d=>
    rw[hdst] at hcs hhs k fin
    have plain:(∀p∈out.cs,p)->(∀h∈out.hs,∀A w,h.lhs A w=h.rhs A w)->(∀A' S' a' w',OkF o n A' S' (FU F out.re) (updE s d (some ⟨[],out.sy⟩)) (setM r out.re) a' w'->K a' w')->op.wp P a w K Q:=fun h1 h2 k'=>by
     refine fin h1 h2 fun v w' ⟨A',S',h1,h2,h3,h4⟩=>?_
     have h5:=h1.put (C:=[]) (d:=d) (y:=out.sy) (u:=v) (hdn d hdst) (hch d hdst) (fun l hl=>by cases hl) (fun _=>⟨h3,h4⟩) ⟨fun _=>h2,fun q=>(q fun l hl=>by cases hl).elim⟩
     exact k' A' S' _ w' h5
    simp only at hcs hhs k
    split at hcs
    .rename_i v e hv he
     rw[hv,he] at hhs k
     refine fin (fun p hp=>hcs p (List.mem_append_left _ hp)) hhs fun v' w' ⟨A',S',h1,h2,h3,h4⟩=>?_
     have hev:e.den=v:=(BE.is_iff e v).1 (hcs _ (List.mem_append_right _ (List.mem_singleton.2 rfl)))
     have h5:=h1.put (C:=[]) (d:=d) (y:=.one (.b (.lit v))) (u:=v') (hdn d hdst) (hch d hdst) (fun l hl=>by cases hl) (fun _=>⟨tv,tv⟩) ⟨fun _=>by rw[h2,he];show Value.bool e.den= .bool v;rw[hev],fun q=>(q fun l hl=>by cases hl).elim⟩
     exact k A' S' _ w' h5 hB
    rename_i hne
    have e:(match hintOf hn d,out.sy with
     |some v,.one (.b e)=>(⟨out.cs++[e.is v],out.hs,some (d,some ⟨[],.one (.b (.lit v))⟩),out.re⟩:Upd)
     |_,y=>⟨out.cs,out.hs,some (d,some ⟨[],y⟩),out.re⟩)=⟨out.cs,out.hs,some (d,some ⟨[],out.sy⟩),out.re⟩:=by
     split
     .rename_i v e hv he;exact(hne v e hv he).elim
     rfl
    rw[e] at hhs k
    exact plain hcs hhs fun A' S' a' w' q=>k A' S' a' w' q hB
  |cons l C=>
   obtain⟨out,ho,h⟩:=Tr.bind_run h
   split at h
   .rename_i d hre hdst
    obtain⟨hCd,h⟩:=guardT_run h
    have hCd:∀z∈l::C,z.1≠d:=fun z hz e=>by
     have:=List.all_eq_true.1 hCd z hz
     rw[e,Nat.beq_refl] at this;cases this
    obtain⟨ps,hps,h⟩:=saysT_run H h
    have e:=ret_run' h
    subst e
    by_cases hC:chOk a (l::C)
    .rw[if_pos (hw.2 hC)]
     refine opT_ok H hC hF ho (fun p hp=>imp_elim (hcs _ (List.mem_map.2 ⟨p,hp,rfl⟩)) (hps hC)) hhs (fun p hp=>by rw[hre] at hp;cases hp) fun v w' ⟨A',S',h1,h2,h3,h4⟩=>?_
     rw[hre] at h1 h3
     have h5:=h1.put (C:=l::C) (d:=d) (y:=out.sy) (u:=v) (hdn d hdst) (hch d hdst) hCd (fun _=>⟨h3,h4⟩) ⟨fun _=>h2,fun q=>(q hC).elim⟩
     rw[hdst]
     exact k A' S' _ w' (h5.agree (Agr.refl _ _) fun j hj=>hj) (fun p hp=>by cases hp)
    rw[if_neg (fun q=>hC (hw.1 q)),hdst]
    have h5:=H.put (C:=l::C) (d:=d) (y:=out.sy) (u:=undef) (hdn d hdst) (hch d hdst) hCd (fun q=>(hC q).elim) ⟨fun q=>(hC q).elim,fun _=>rfl⟩
    exact k A S _ w (h5.agree (Agr.refl _ _) fun j hj=>.inl hj) (fun p hp=>by cases hp)
   cases h
 rw[if_neg (by rw[hw];decide)]
 have e:=ret_run' h
 subst e
 cases hdst:op.dst with
 |none=>
  rw[hdst] at k
  exact k A S _ w (H.agree (Agr.refl _ _) fun j hj=>.inl hj) (fun p hp=>by cases hp)
 |some d=>
  rw[hdst] at k
  have h5:=H.put (C:=[]) (d:=d) (y:=.one (.v (.tuple #[]))) (u:=undef) (hdn d hdst) (hch d hdst) (fun l hl=>by cases hl) (fun _=>⟨tv,tv⟩) ⟨fun _=>rfl,fun q=>(q fun l hl=>by cases hl).elim⟩
  exact k A S _ w (h5.agree (Agr.refl _ _) fun j hj=>.inl hj) (fun p hp=>by cases hp)
end
def addE (x:Option (Nat×Option E2))(en:List (Nat×Option E2)):List (Nat×Option E2):=match x with
 |none=>en
 |some p=>p::en
def freeCh (en:List (Nat×Option E2))(d:Option Nat):Bool:=match d with
 |none=>true
 |some d=>en.all fun p=>match p.2 with
  |some ⟨[],_⟩=>true
  |some e=>e.ch.all fun l=>!Nat.beq l.1 d
  |none=>true
section
variable (P:Program)(T:List (Con P))(sd:Nat)(hn:List (Nat×Bool))(n:Nat)(ops:Array Oper)(s0:Nat->Option E2)(r0:Nat->Option R2)
def seqU:List Oper->Nat->List (Nat×Option E2)->List (Nat×Option R2)->Option (List Upd)
 |[],_,_,_=>some []
 |o::l,b,en,re=>match freeCh en o.dst with
  |true=>match(stepG P T sd hn n ops b o).run (setE s0 en) (setM r0 re) with
   |some u=>match seqU l (b+sd) (addE u.sl en) (u.re++re) with
    |some us=>some (u::us)
    |none=>none
   |none=>none
  |false=>none
end
def enAll:List Upd->List (Nat×Option E2)->List (Nat×Option E2)
 |[],en=>en
 |u::us,en=>enAll us (addE u.sl en)
def reAll:List Upd->List (Nat×Option R2)->List (Nat×Option R2)
 |[],re=>re
 |u::us,re=>reAll us (u.re++re)
section
variable {P:Program}{o:OrgG}{n:Nat}{A A':Asg}{S S':Stab}{F G:Nat->Prop}{s s' s0:Nat->Option E2}{r r0:Nat->Option R2}{a:Act}{w w':World}{b:Nat}{T:List (Con P)}{sd:Nat}{hn:List (Nat×Bool)}{ops:Array Oper}{Q:Exit->Act->World->Prop}
theorem OkF.less (H:OkF o n A S F s r a w)(hs:∀t e,s' t=some e->s t=some e):OkF o n A S F s' r a w:=
 ⟨H.size,H.nodef,fun t e he=>H.env t e (hs t e he),fun t e he=>H.sall t e (hs t e he),H.rall,H.frm,H.args,H.pin⟩
theorem setE_add (s:Nat->Option E2)(x:Option (Nat×Option E2))(en:List (Nat×Option E2)):setE s (addE x en)=putE (setE s en) x:=by cases x<;>rfl
theorem setE_append (s:Nat->Option E2):∀x y:List (Nat×Option E2),setE s (x++y)=setE (setE s y) x
 |[],_=>rfl
 |p::x,y=>by show updE (setE s (x++y)) p.1 p.2=_;rw[setE_append s x y];rfl
theorem setE_from:∀ {en:List (Nat×Option E2)} {t:Nat} {e:E2},setE s0 en t=some e->s0 t=some e\/(t,some e)∈en
 |[],t,e,h=>.inl h
 |p::en,t,e,h=>by
  have h:updE (setE s0 en) p.1 p.2 t=some e:=h
  by_cases q:p.1=t
  .subst q;rw[updE_same] at h;exact .inr (by rw[<-h];exact List.mem_cons_self)
  rw[updE_ne q] at h;exact(setE_from h).imp id (List.mem_cons_of_mem _)
theorem freeCh_ok {en:List (Nat×Option E2)}{d:Option Nat}(h0:∀t e,s0 t=some e->e.ch=[])(h:freeCh en d=true):∀d',d=some d'->∀t e,setE s0 en t=some e->∀l∈e.ch,l.1≠d':=by
 intro d' hd t e he l hl
 subst hd
 rcases setE_from he with h1|h1
 .rw[h0 t e h1] at hl;cases hl
 have:=List.all_eq_true.1 h _ h1
 intro q
 obtain⟨ch,y⟩:=e
 cases ch with
 |nil=>cases hl
 |cons c ch=>
  have:=List.all_eq_true.1 this l hl
  rw[q,Nat.beq_refl] at this;cases this
theorem reAll_mem {p:Nat×Option R2}:∀ {us:List Upd} {re:List (Nat×Option R2)},p∈re->p∈reAll us re
 |[],_,h=>h
 |u::us,re,h=>reAll_mem (us:=us) (List.mem_append_right _ h)
theorem setM_le {r r':Nat->Option R2}(h:∀j x,r j=some x->r' j=some x):∀ {re:List (Nat×Option R2)} {j:Nat} {x:R2},setM r re j=some x->setM r' re j=some x
 |[],j,x,k=>h j x k
 |p::re,j,x,k=>by
  have k:updR (setM r re) p.1 p.2 j=some x:=k
  show updR (setM r' re) p.1 p.2 j=some x
  by_cases q:p.1=j
  .subst q;rw[updR_same] at k ⊢;exact k
  rw[updR_ne q] at k ⊢;exact setM_le h k
theorem seqU_mono {r0':Nat->Option R2}(h:∀j x,r0 j=some x->r0' j=some x):∀ {l:List Oper} {b:Nat} {en:List (Nat×Option E2)} {re:List (Nat×Option R2)} {us:List Upd},seqU P T sd hn n ops s0 r0 l b en re=some us->seqU P T sd hn n ops s0 r0' l b en re=some us
 |[],b,en,re,us,k=>k
 |op::l,b,en,re,us,k=>by
  simp only[seqU] at k ⊢
  split at k
  .split at k
   .rename_i u hu
    split at k
    .rename_i us' hus
     cases k
     have h1:=Tr.mono (fun _ _ q=>q) (fun j x q=>setM_le (re:=re) h q) _ hu
     simp only[h1,seqU_mono h hus]
    cases k
   cases k
  cases k
theorem seqU_ok {L:Nat->Prop}{rest:List Oper}(h0:∀t e,s0 t=some e->e.ch=[]):∀ {l:List Oper} {b:Nat} {en:List (Nat×Option E2)} {re:List (Nat×Option R2)} {us:List Upd} {A:Asg} {S:Stab} {F:Nat->Prop} {a:Act} {w:World},
  seqU P T sd hn n ops s0 r0 l b en re=some us->OkF o n A S F (setE s0 en) (setM r0 re) a w->(∀j,b<=j->L j->¬F j)->(∀j,j<b+sd*l.length->L j)->(∀u∈us,∀p∈u.cs,p)->(∀u∈us,∀h∈u.hs,∀A w,h.lhs A w=h.rhs A w)->
  (∀A' S' F' a' w',OkF o n A' S' F' (setE s0 (enAll us en)) (setM r0 (reAll us re)) a' w'->(∀j,b+sd*l.length<=j->L j->¬F' j)->(∀j,F' j->F j\/∃x,(j,x)∈reAll us re)->wpList P ops Q rest a' w')->wpList P ops Q (l++rest) a w
 |[],b,en,re,us,A,S,F,a,w,h,H,hF,_,_,_,k=>by
  cases h
  exact k A S F a w H (by simpa using hF) fun j hj=>.inl hj
 |op::l,b,en,re,us,A,S,F,a,w,h,H,hF,hL,hcs,hhs,k=>by
  simp only[seqU] at h
  have hlen:sd*(op::l).length=sd*l.length+sd:=by rw[List.length_cons,Nat.mul_succ]
  split at h
  .rename_i hfree
   split at h
   .rename_i u hu
    split at h
    .rename_i us' hus
     cases h
     simp only[List.cons_append,wpList]
     have hstep:=stepG_ok (Q:=Q) (K:=wpList P ops Q (l++rest)) H (fun j h1 h2=>hF j h1 (hL j (by omega))) hu (hcs u (by simp)) (hhs u (by simp)) (freeCh_ok h0 hfree) fun A' S' a' w' H' hB=>by
      refine seqU_ok h0 hus (by rw[setE_add,setM_append];exact H') (fun j hj hLj hn=>?_) (fun j hj=>hL j (by omega)) (fun v hv=>hcs v (List.mem_cons_of_mem _ hv)) (fun v hv=>hhs v (List.mem_cons_of_mem _ hv)) fun A2 S2 F2 a2 w2 H2 hF2 hF3=>k A2 S2 F2 a2 w2 H2 (fun j hj=>hF2 j (by omega)) fun j hj=>?_
      .rcases hn with hn|⟨x,hx⟩
       .exact hF j (by omega) hLj hn
       have:=hB _ hx;omega
      rcases hF3 j hj with(q|⟨x,hx⟩)|q
      .exact .inl q
      .exact .inr ⟨x,reAll_mem (us:=us') (List.mem_append_left _ hx)⟩
      exact .inr q
     split
     .rename_i hw;rw[if_pos hw] at hstep;exact .inl hstep
     rename_i hw;rw[if_neg hw] at hstep;exact hstep
    cases h
   cases h
  cases h
def unch:List (Nat×Option E2)->List (Nat×Option E2)
 |[]=>[]
 |(t,some ⟨[],y⟩)::l=>(t,some ⟨[],y⟩)::unch l
 |(t,_)::l=>(t,none)::unch l
theorem unch_ok (h0:∀t e,s0 t=some e->e.ch=[]):∀ {en:List (Nat×Option E2)} {t:Nat} {e:E2},setE s0 (unch en) t=some e->setE s0 en t=some e/\e.ch=[]
 |[],t,e,h=>⟨h,h0 t e h⟩
 |(d,x)::en,t,e,h=>by
  have ih:setE s0 (unch en) t=some e->setE s0 en t=some e/\e.ch=[]:=unch_ok h0
  have gone:updE (setE s0 (unch en)) d none t=some e->updE (setE s0 en) d x t=some e/\e.ch=[]:=fun h=>by
   by_cases q:d=t
   .subst q;rw[updE_same] at h;cases h
   rw[updE_ne q] at h ⊢;exact ih h
  match x,h with
  |none,h=>exact gone h
  |some ⟨_::_,y⟩,h=>exact gone h
  |some ⟨[],y⟩,h=>
   have h:updE (setE s0 (unch en)) d (some ⟨[],y⟩) t=some e:=h
   show updE (setE s0 en) d (some ⟨[],y⟩) t=some e/\e.ch=[]
   by_cases q:d=t
   .subst q;rw[updE_same] at h ⊢;cases h;exact⟨rfl,rfl⟩
   rw[updE_ne q] at h ⊢;exact ih h
end
def depsOf (ops:List Oper)(i:Nat):List Nat:=match ops[i]? with
 |some o=>(o.after.toList.filter (Region.binds .any)).map (·.on)
 |none=>[]
def maskOf (ms:List Nat):List Nat->Nat
 |[]=>0
 |d::l=>Nat.lor (Nat.lor (Nat.shiftLeft 1 d) (ms.getD d 0)) (maskOf ms l)
def msk (dp:Nat->List Nat):Nat->List Nat
 |0=>[]
 |k+1=>msk dp k++[maskOf (msk dp k) (dp k)]
theorem msk_len (dp:Nat->List Nat):∀k,(msk dp k).length=k
 |0=>rfl
 |k+1=>by simp[msk,msk_len dp k]
theorem msk_get (dp:Nat->List Nat){i:Nat}:∀ {k:Nat},i<k->(msk dp k).getD i 0=maskOf (msk dp i) (dp i)
 |k+1,h=>by
  rw[msk,List.getD_eq_getElem?_getD]
  by_cases q:i<k
  .rw[List.getElem?_append_left (by rw[msk_len];exact q),<-List.getD_eq_getElem?_getD,msk_get dp q]
  have:i=k:=by omega
  subst this
  rw[List.getElem?_append_right (by rw[msk_len];exact Nat.le_refl _),msk_len,Nat.sub_self];rfl
theorem bit_or (a b j:Nat):(Nat.lor a b).testBit j=(a.testBit j||b.testBit j):=Nat.testBit_or a b j
theorem bit_one {d j:Nat}(h:(Nat.shiftLeft 1 d).testBit j=true):j=d:=by
 have:(1<<<d).testBit j=true:=h
 rw[Nat.shiftLeft_eq,Nat.one_mul,Nat.testBit_two_pow] at this
 exact(of_decide_eq_true this).symm
theorem maskOf_bit {ms:List Nat}{j:Nat}:∀ {l:List Nat},(maskOf ms l).testBit j=true->∃d∈l,j=d\/(ms.getD d 0).testBit j=true
 |[],h=>by simp[maskOf] at h
 |d::l,h=>by
  rw[maskOf,bit_or,Bool.or_eq_true,bit_or,Bool.or_eq_true] at h
  rcases h with(h|h)|h
  .exact⟨d,by simp,.inl (bit_one h)⟩
  .exact⟨d,by simp,.inr h⟩
  obtain⟨e,he,q⟩:=maskOf_bit h
  exact⟨e,List.mem_cons_of_mem _ he,q⟩
theorem mask_lt {dp:Nat->List Nat}{N:Nat}(hd:∀i,i<N->∀d∈dp i,d<i):∀ {i j:Nat},i<N->((msk dp N).getD i 0).testBit j=true->j<i:=by
 intro i
 induction i using Nat.strongRecOn with
 |_ i ih=>
  intro j hi h
  rw[msk_get dp hi] at h
  obtain⟨d,hdm,h⟩:=maskOf_bit h
  have:=hd i hi d hdm
  rcases h with h|h
  .omega
  have h2:=ih d this (by omega) (j:=j) (by rw[msk_get dp (by omega)];rwa[msk_get dp this] at h)
  omega
theorem mask_in {dp:Nat->List Nat}{N:Nat}(hd:∀i,i<N->∀d∈dp i,d<i){X:Nat->Bool}(hX:∀i,i<N->X i=true->∀d∈dp i,X d=true):∀ {i j:Nat},i<N->(∀d∈dp i,X d=true)->((msk dp N).getD i 0).testBit j=true->X j=true:=by
 intro i
 induction i using Nat.strongRecOn with
 |_ i ih=>
  intro j hi hi2 h
  rw[msk_get dp hi] at h
  obtain⟨d,hdm,h⟩:=maskOf_bit h
  have:=hd i hi d hdm
  rcases h with h|h
  .subst h;exact hi2 j hdm
  exact ih d this (by omega) (hX d (by omega) (hi2 d hdm)) (by rw[msk_get dp (by omega)];rwa[msk_get dp this] at h)
def slOf (us:List Upd)(k:Nat):Option (Nat×Option E2):=(us[k]?).bind (·.sl)
def reOf (us:List Upd)(k:Nat):List (Nat×Option R2):=match us[k]? with
 |some u=>u.re
 |none=>[]
def enX (us:List Upd)(X:Nat->Bool):Nat->List (Nat×Option E2)
 |0=>[]
 |k+1=>match X k with
  |true=>addE (slOf us k) (enX us X k)
  |false=>enX us X k
def reX (us:List Upd)(X:Nat->Bool):Nat->List (Nat×Option R2)
 |0=>[]
 |k+1=>match X k with
  |true=>reOf us k++reX us X k
  |false=>reX us X k
section
variable {s0:Nat->Option E2}{r0:Nat->Option R2}{us:List Upd}{X Y:Nat->Bool}
theorem putE_other {s:Nat->Option E2}{x:Option (Nat×Option E2)}{t:Nat}(h:∀e,x≠some (t,e)):putE s x t=s t:=by
 cases x with
 |none=>rfl
 |some p=>exact updE_ne fun q=>h p.2 (by rw[<-q])
theorem enX_congr {t:Nat}:∀ {K:Nat},(∀k,k<K->∀e,slOf us k=some (t,e)->X k=Y k)->setE s0 (enX us X K) t=setE s0 (enX us Y K) t
 |0,_=>rfl
 |K+1,h=>by
  have ih:=enX_congr (K:=K) fun k hk=>h k (by omega)
  by_cases q:∃e,slOf us K=some (t,e)
  .obtain⟨e,he⟩:=q
   have hxy:=h K (by omega) e he
   simp only[enX,hxy]
   split
   .rw[setE_add,setE_add,he]
    show updE _ t e t=updE _ t e t
    rw[updE_same,updE_same]
   exact ih
  have h1:∀(Z:Nat->Bool),setE s0 (enX us Z (K+1)) t=setE s0 (enX us Z K) t:=fun Z=>by
   simp only[enX]
   split
   .rw[setE_add];exact putE_other fun e he=>q ⟨e,he⟩
   rfl
  rw[h1,h1,ih]
theorem reX_congr {j:Nat}:∀ {K:Nat},(∀k,k<K->(∃x,(j,x)∈reOf us k)->X k=Y k)->setM r0 (reX us X K) j=setM r0 (reX us Y K) j
 |0,_=>rfl
 |K+1,h=>by
  have ih:=reX_congr (K:=K) fun k hk=>h k (by omega)
  by_cases q:∃x,(j,x)∈reOf us K
  .have hxy:=h K (by omega) q
   simp only[reX,hxy]
   split
   .rw[setM_append,setM_append];exact setM_in q _ _
   exact ih
  have h1:∀(Z:Nat->Bool),setM r0 (reX us Z (K+1)) j=setM r0 (reX us Z K) j:=fun Z=>by
   simp only[reX]
   split
   .rw[setM_append];exact setM_out q _
   rfl
  rw[h1,h1,ih]
theorem enX_cut {t i:Nat}:∀ {K:Nat},i<=K->(∀k,i<=k->k<K->∀e,slOf us k=some (t,e)->X k=false)->setE s0 (enX us X K) t=setE s0 (enX us X i) t
 |0,h,_=>by rw[show i=0 by omega]
 |K+1,h,hk=>by
  by_cases q:i=K+1
  .rw[q]
  rw[<-enX_cut (K:=K) (by omega) fun k h1 h2=>hk k h1 (by omega)]
  simp only[enX]
  split
  .rename_i hx
   rw[setE_add]
   refine putE_other fun e he=>?_
   have:=hk K (by omega) (by omega) e he
   rw[hx] at this;cases this
  rfl
theorem reX_cut {j i:Nat}:∀ {K:Nat},i<=K->(∀k,i<=k->k<K->(∃x,(j,x)∈reOf us k)->X k=false)->setM r0 (reX us X K) j=setM r0 (reX us X i) j
 |0,h,_=>by rw[show i=0 by omega]
 |K+1,h,hk=>by
  by_cases q:i=K+1
  .rw[q]
  rw[<-reX_cut (K:=K) (by omega) fun k h1 h2=>hk k h1 (by omega)]
  simp only[reX]
  split
  .rename_i hx
   rw[setM_append]
   refine setM_out (fun he=>?_) _
   have:=hk K (by omega) (by omega) he
   rw[hx] at this;cases this
  rfl
theorem enX_more {i N:Nat}(hi:i<N)(hX:X i=false)(hY:∀k,Y k=(X k||decide (k=i)))(hc:∀k,k<N->X k=true->i<k->∀t e e',slOf us i=some (t,e)->slOf us k≠some (t,e')):putE (setE s0 (enX us X N)) (slOf us i)=setE s0 (enX us Y N):=by
 funext t
 by_cases q:∃e,slOf us i=some (t,e)
 .obtain⟨e,he⟩:=q
  rw[enX_cut (i:=i+1) (X:=Y) (by omega) fun k h1 h2 e' he'=>?_]
  .have hy:Y i=true:=by rw[hY];simp
   simp only[enX,hy]
   rw[setE_add,he]
   show updE _ t e t=updE _ t e t
   rw[updE_same,updE_same]
  rw[hY]
  cases hx:X k with
  |true=>exact(hc k h2 hx (by omega) t e e' he he').elim
  |false=>simp;omega
 rw[putE_other fun e he=>q ⟨e,he⟩]
 refine enX_congr fun k hk e he=>?_
 have:k≠i:=fun z=>q ⟨e,by rw[<-z];exact he⟩
 rw[hY,decide_eq_false this,Bool.or_false]
theorem reX_more {i N:Nat}(hi:i<N)(hX:X i=false)(hY:∀k,Y k=(X k||decide (k=i)))(hc:∀k,k<N->X k=true->i<k->∀j x x',(j,x)∈reOf us i->(j,x')∉reOf us k):setM (setM r0 (reX us X N)) (reOf us i)=setM r0 (reX us Y N):=by
 funext j
 by_cases q:∃x,(j,x)∈reOf us i
 .rw[reX_cut (i:=i+1) (X:=Y) (by omega) fun k h1 h2 hx'=>?_]
  .have hy:Y i=true:=by rw[hY];simp
   have e:reX us Y (i+1)=reOf us i++reX us Y i:=by simp only[reX,hy]
   rw[e,setM_append r0 (reOf us i) (reX us Y i)]
   exact setM_in q _ _
  rw[hY]
  obtain⟨x,hx⟩:=q
  obtain⟨x',hx'⟩:=hx'
  cases hx2:X k with
  |true=>exact(hc k h2 hx2 (by omega) j x x' hx hx').elim
  |false=>simp;omega
 rw[setM_out q]
 refine reX_congr fun k hk he=>?_
 have:k≠i:=fun z=>q (by rw[<-z];exact he)
 rw[hY,decide_eq_false this,Bool.or_false]
end
def unr (M:List Nat)(i j:Nat):Bool:=!Nat.beq i j && (!(M.getD i 0).testBit j && !(M.getD j 0).testBit i)
def hidS (U:List Nat)(us:List Upd)(t:Nat):Bool:=U.any fun j=>match slOf us j with
 |some p=>Nat.beq p.1 t
 |none=>false
def hidR (U:List Nat)(us:List Upd)(j:Nat):Bool:=U.any fun k=>(reOf us k).any fun p=>Nat.beq p.1 j
def hide {α:Type}(h:Nat->Bool)(f:Nat->Option α):Nat->Option α:=fun t=>match h t with
 |true=>none
 |false=>f t
def allB (N:Nat)(f:Nat->Bool):Bool:=(List.range N).all f
theorem allB_ok {N:Nat}{f:Nat->Bool}(h:allB N f=true){i:Nat}(hi:i<N):f i=true:=List.all_eq_true.1 h i (List.mem_range.2 hi)
def chSlots (us:List Upd)(k:Nat):List Nat:=match slOf us k with
 |some (_,some e)=>e.ch.map (·.1)
 |_=>[]
section
variable (P:Program)(T:List (Con P))(sd:Nat)(hn:List (Nat×Bool))(n:Nat)(ops:Array Oper)(s0:Nat->Option E2)(r0:Nat->Option R2)(b:Nat)(us:List Upd)
def viewOk (M:List Nat)(i:Nat):Bool:=
 match ops[i]? with
 |some o=>((stepG P T sd hn n ops (b+sd*i) o).run (hide (hidS ((List.range ops.size).filter (unr M i)) us) (setE s0 (enX us (M.getD i 0).testBit ops.size))) (hide (hidR ((List.range ops.size).filter (unr M i)) us) (setM r0 (reX us (M.getD i 0).testBit ops.size)))).isSome
 |none=>false
def apartU (i j:Nat):Bool:=
 (match slOf us i,slOf us j with
  |some p,some q=>!Nat.beq p.1 q.1
  |_,_=>true) && (reOf us i).all fun p=>(reOf us j).all fun q=>!Nat.beq p.1 q.1
def keysB (M:List Nat)(i:Nat):Bool:=(reOf us i).all fun p=>Nat.blt p.1 b||(let k:=(p.1-b)/sd;Nat.beq k i||(M.getD i 0).testBit k)
def drawB (M:List Nat):Bool:=
 (Nat.blt 0 sd && allB ops.size (fun i=>(depsOf ops.toList i).all fun d=>Nat.blt d i)) && (allB ops.size (fun i=>viewOk P T sd hn n ops s0 r0 b us M i && keysB sd b us M i) && allB ops.size fun i=>allB ops.size fun j=>(!unr M i j||apartU us i j) && ((chSlots us j).all fun t=>(match(ops[i]?).bind (·.dst) with
  |some d=>!Nat.beq d t||((M.getD j 0).testBit i)
  |none=>true)))
end
def cnt (X:Nat->Bool):Nat->Nat
 |0=>0
 |k+1=>cnt X k+(match X k with|true=>0|false=>1)
theorem cnt_none:∀N,cnt (fun _=>false) N=N
 |0=>rfl
 |k+1=>by rw[cnt,cnt_none k]
theorem cnt_zero {X:Nat->Bool}:∀ {N:Nat},cnt X N=0->∀k,k<N->X k=true
 |N+1,h,k,hk=>by
  rw[cnt] at h
  by_cases q:k=N
  .subst q
   cases hx:X k with
   |true=>rfl
   |false=>rw[hx] at h;simp at h
  exact cnt_zero (N:=N) (by omega) k (by omega)
theorem cnt_same {X Y:Nat->Bool}:∀ {N:Nat},(∀k,k<N->X k=Y k)->cnt X N=cnt Y N
 |0,_=>rfl
 |N+1,h=>by rw[cnt,cnt,cnt_same fun k hk=>h k (by omega),h N (by omega)]
theorem cnt_more {X Y:Nat->Bool}{i:Nat}(hX:X i=false)(hY:∀k,Y k=(X k||decide (k=i))):∀ {N:Nat},i<N->cnt Y N+1=cnt X N
 |N+1,h=>by
  rw[cnt,cnt]
  by_cases q:i=N
  .subst q
   have e:cnt Y i=cnt X i:=cnt_same fun k hk=>by rw[hY,decide_eq_false (by omega),Bool.or_false]
   rw[e,hX,hY i]
   simp
  have:=cnt_more hX hY (N:=N) (by omega)
  have e:Y N=X N:=by rw[hY,decide_eq_false (fun z=>q z.symm),Bool.or_false]
  rw[e];omega
section
variable {P:Program}{o:OrgG}{n:Nat}{A A':Asg}{S S':Stab}{F G:Nat->Prop}{s0:Nat->Option E2}{r0:Nat->Option R2}{a:Act}{w w':World}{b:Nat}{T:List (Con P)}{sd:Nat}{hn:List (Nat×Bool)}{ops:Array Oper}{Q:Exit->Act->World->Prop}
theorem seqU_spec {full:List Upd}:∀ {l:List Oper} {k:Nat} {us pre:List Upd},full=pre++us->pre.length=k->seqU P T sd hn n ops s0 r0 l (b+sd*k) (enX full (fun _=>true) k) (reX full (fun _=>true) k)=some us->
  us.length=l.length/\∀i op,l[i]?=some op->∃u,full[k+i]?=some u/\(stepG P T sd hn n ops (b+sd*(k+i)) op).run (setE s0 (enX full (fun _=>true) (k+i))) (setM r0 (reX full (fun _=>true) (k+i)))=some u
 |[],k,us,pre,_,_,h=>by
  cases h
  exact⟨rfl,fun i op hi=>by simp at hi⟩
 |op::l,k,us,pre,hfull,hk,h=>by
  simp only[seqU] at h
  split at h
  .split at h
   .rename_i u hu
    split at h
    .rename_i us' hus
     cases h
     have hget:full[k]?=some u:=by rw[hfull,List.getElem?_append_right (by omega),hk,Nat.sub_self];rfl
     have hen:enX full (fun _=>true) (k+1)=addE u.sl (enX full (fun _=>true) k):=by simp only[enX,slOf,hget,Option.bind_some]
     have hre:reX full (fun _=>true) (k+1)=u.re++reX full (fun _=>true) k:=by simp only[reX,reOf,hget]
     obtain⟨h1,h2⟩:=seqU_spec (full:=full) (l:=l) (k:=k+1) (us:=us') (pre:=pre++[u]) (by rw[hfull];simp) (by simp[hk]) (by rw[hen,hre,show b+sd*(k+1)=b+sd*k+sd by rw[Nat.mul_succ];omega];exact hus)
     refine⟨by simp[h1],fun i op' hi=>?_⟩
     cases i with
     |zero=>
      have:op=op':=by simpa using hi
      subst this
      exact⟨u,by simpa using hget,by simpa using hu⟩
     |succ i=>
      obtain⟨u',k1,k2⟩:=h2 i op' (by simpa using hi)
      exact⟨u',by rw[show k+(i+1)=k+1+i by omega];exact k1,by rw[show k+(i+1)=k+1+i by omega];exact k2⟩
    cases h
   cases h
  cases h
theorem hide_le {α:Type}{h:Nat->Bool}{f g:Nat->Option α}(k:∀t,h t=false->f t=g t):∀t e,hide h f t=some e->g t=some e:=by
 intro t e he
 unfold hide at he
 split at he
 .cases he
 rename_i hh;rw[<-k t hh];exact he
theorem slot_eq {sd b i q j:Nat}(h1:b+sd*q<=j)(h2:j<b+sd*q+sd)(h3:b+sd*i<=j)(h4:j<b+sd*i+sd):q=i:=by
 rcases Nat.lt_trichotomy q i with h|h|h
 .have:=Nat.mul_le_mul_left sd (show q+1<=i from h)
  rw[Nat.mul_succ] at this;omega
 .exact h
 have:=Nat.mul_le_mul_left sd (show i+1<=q from h)
 rw[Nat.mul_succ] at this;omega
theorem drawn_ok {us:List Upd}(h0:∀t e,s0 t=some e->e.ch=[])(hseq:seqU P T sd hn n ops s0 r0 ops.toList b [] []=some us){M:List Nat}(hM:M=msk (depsOf ops.toList) ops.size)(hdr:drawB P T sd hn n ops s0 r0 b us M=true)
  (hcs:∀u∈us,∀p∈u.cs,p) (hhs:∀u∈us,∀h∈u.hs,∀A w,h.lhs A w=h.rhs A w)
  (k:∀A' S' F' a' w',OkF o n A' S' F' (setE s0 (enX us (fun _=>true) ops.size)) (setM r0 (reX us (fun _=>true) ops.size)) a' w'->(∀j,b+sd*ops.size<=j->¬F' j)->Q .normal a' w')
  (H:OkF o n A S F s0 r0 a w) (hF:∀j,b<=j->¬F j):wpAny P .any ops Q ops.size (Array.replicate ops.size false) a w:=by
 obtain⟨hlen,hspec⟩:=seqU_spec (b:=b) (full:=us) (us:=us) (k:=0) (pre:=[]) (by simp) rfl (by simpa[enX,reX] using hseq)
 rw[Array.length_toList] at hlen
 unfold drawB at hdr
 simp only[Bool.and_eq_true] at hdr
 obtain⟨⟨hsd,hd⟩,hv,hu⟩:=hdr
 have hsd:0<sd:=by simpa using Nat.blt_eq▸hsd
 have hdlt:∀i,i<ops.size->∀d∈depsOf ops.toList i,d<i:=fun i hi d hdm=>by
  have:=List.all_eq_true.1 (allB_ok hd hi) d hdm
  simpa using Nat.blt_eq▸this
 have mlt:∀ {i j:Nat},i<ops.size->(M.getD i 0).testBit j=true->j<i:=fun hi h=>mask_lt hdlt hi (by rw[<-hM];exact h)
 have apart:∀ {i j:Nat},i<ops.size->j<ops.size->unr M i j=true->apartU us i j=true:=fun {i j} hi hj hun=>by
  have:=allB_ok (allB_ok hu hi) hj
  rw[Bool.and_eq_true,hun] at this
  simpa using this.1
 have chains:∀ {i j d t:Nat},i<ops.size->j<ops.size->(ops[i]?).bind (·.dst)=some d->t∈chSlots us j->d=t->(M.getD j 0).testBit i=true:=fun {i j d t} hi hj hdst ht e=>by
  have:=allB_ok (allB_ok hu hi) hj
  rw[Bool.and_eq_true] at this
  have:=List.all_eq_true.1 this.2 t ht
  rw[hdst] at this
  subst e
  simpa[Nat.beq_refl] using this
 have core:∀(fuel:Nat) (listed:Array Bool) (a:Act) (w:World) (A:Asg) (S:Stab) (F:Nat->Prop),listed.size=ops.size->cnt (fun i=>listed.getD i false) ops.size=fuel->
   (∀i,i<ops.size->listed.getD i false=true->∀d∈depsOf ops.toList i,listed.getD d false=true)->
   OkF o n A S F (setE s0 (enX us (fun i=>listed.getD i false) ops.size)) (setM r0 (reX us (fun i=>listed.getD i false) ops.size)) a w->
   (∀j,b<=j->F j->∃i,i<ops.size/\listed.getD i false=true/\b+sd*i<=j/\j<b+sd*i+sd)->wpAny P .any ops Q fuel listed a w:=by
  intro fuel
  induction fuel with
  |zero=>
   intro listed a w A S F hsz hc hcl H hFX
   have hall:=cnt_zero hc
   have hready:Region.ready .any ops listed=[]:=by
    refine List.eq_nil_iff_forall_not_mem.2 fun i hi=>?_
    obtain⟨h1,op,hop,_⟩:=mem_ready.1 hi
    have hi2:i<ops.size:=(Array.getElem?_eq_some_iff.1 hop).1
    have h3:=hall i hi2
    rw[Array.getD_eq_getD_getElem?] at h1 h3
    rw[Array.getElem?_eq_getElem (by omega)] at h1 h3
    simp only[Option.getD_some] at h1 h3
    rw[h1] at h3;cases h3
   refine⟨hready,?_⟩
   have e1:setE s0 (enX us (fun i=>listed.getD i false) ops.size)=setE s0 (enX us (fun _=>true) ops.size):=funext fun t=>enX_congr fun i hi _ _=>hall i hi
   have e2:setM r0 (reX us (fun i=>listed.getD i false) ops.size)=setM r0 (reX us (fun _=>true) ops.size):=funext fun t=>reX_congr fun i hi _=>hall i hi
   rw[e1,e2] at H
   refine k A S F a w H fun j hj hn=>?_
   obtain⟨i,h1,_,h3,h4⟩:=hFX j (by omega) hn
   have:=Nat.mul_le_mul_left sd (show i+1<=ops.size from h1)
   rw[Nat.mul_succ] at this
   omega
  |succ fuel ih=>
   intro listed a w A S F hsz hc hcl H hFX
   constructor
   ·
    intro hnil
    exfalso
    have hex:∃i,i<ops.size/\listed.getD i false=false:=by
     refine Classical.byContradiction fun q=>?_
     have:cnt (fun i=>listed.getD i false) ops.size=cnt (fun _=>true) ops.size:=cnt_same fun i hi=>by
      cases hx:listed.getD i false with
      |true=>rfl
      |false=>exact(q ⟨i,hi,hx⟩).elim
     have z:∀N,cnt (fun _=>true) N=0:=fun N=>by
      induction N with
      |zero=>rfl
      |succ N ih=>exact ih
     rw[this,z] at hc;cases hc
    obtain⟨i,⟨hi,hx⟩,hmin⟩:=least_of (p:=fun i=>i<ops.size/\listed.getD i false=false) hex.choose hex.choose_spec
    have hmem:i∈Region.ready .any ops listed:=by
     refine mem_ready.2 ⟨?_,ops[i],Array.getElem?_eq_getElem hi,fun e he hb=>?_⟩
     .rw[Array.getD_eq_getD_getElem?,Array.getElem?_eq_getElem (by omega)] at hx ⊢
      exact hx
     have hdep:e.on∈depsOf ops.toList i:=by
      unfold depsOf
      rw[show ops.toList[i]?=some ops[i] by simp[Array.getElem?_eq_getElem hi]]
      exact List.mem_map.2 ⟨e,List.mem_filter.2 ⟨by simpa using he,hb⟩,rfl⟩
     have hlt:=hdlt i hi _ hdep
     cases hy:listed.getD e.on false with
     |true=>rfl
     |false=>have:=hmin e.on ⟨by omega,hy⟩;omega
    rw[hnil] at hmem;cases hmem
   intro i hir
   obtain⟨h1,op,hop,hdeps⟩:=mem_ready.1 hir
   have hi:i<ops.size:=(Array.getElem?_eq_some_iff.1 hop).1
   have hopl:ops.toList[i]?=some op:=by simpa using hop
   have hXi:listed.getD i false=false:=by
    rw[Array.getD_eq_getD_getElem?,Array.getElem?_eq_getElem (by omega)] at h1 ⊢
    exact h1
   have hdX:∀d∈depsOf ops.toList i,listed.getD d false=true:=fun d hdm=>by
    unfold depsOf at hdm
    rw[hopl] at hdm
    obtain⟨e,he,rfl⟩:=List.mem_map.1 hdm
    obtain⟨he1,he2⟩:=List.mem_filter.1 he
    exact hdeps e (by simpa using he1) he2
   have min:∀ {j:Nat},(M.getD i 0).testBit j=true->listed.getD j false=true:=fun h=>mask_in hdlt (X:=fun j=>listed.getD j false) hcl hi hdX (by rw[<-hM];exact h)
   have mno:∀ {j:Nat},j<ops.size->listed.getD j false=true->(M.getD j 0).testBit i=false:=fun {j} hj hl=>by
    cases hx:(M.getD j 0).testBit i with
    |false=>rfl
    |true=>
     have:=mask_in hdlt (X:=fun j=>listed.getD j false) hcl hj (hcl j hj hl) (by rw[<-hM];exact hx)
     rw[hXi] at this;cases this
   have ne:∀ {j:Nat},listed.getD j false=true->i≠j:=fun hl e=>by subst e;rw[hXi] at hl;cases hl
   have un:∀ {j:Nat},j<ops.size->listed.getD j false=true->(M.getD i 0).testBit j=false->unr M i j=true:=fun {j} hj hl hb=>by
    unfold unr
    rw[hb,mno hj hl]
    have:Nat.beq i j=false:=by
     cases hx:Nat.beq i j with
     |false=>rfl
     |true=>exact(ne hl (beq_t hx)).elim
    rw[this];rfl
   obtain⟨u,hu1,hu2⟩:=hspec i op hopl
   rw[Nat.zero_add] at hu1 hu2
   have hvk:=allB_ok hv hi
   rw[Bool.and_eq_true] at hvk
   obtain⟨hview,hkeys⟩:=hvk
   unfold viewOk at hview
   rw[hop] at hview
   obtain⟨u',hu'⟩:=Option.isSome_iff_exists.1 hview
   have hidS_no:∀ {t j:Nat} {e:Option E2},hidS ((List.range ops.size).filter (unr M i)) us t=false->j<ops.size->slOf us j=some (t,e)->unr M i j=false:=fun {t j e} hh hj hs=>by
    cases hx:unr M i j with
    |false=>rfl
    |true=>
     have:=List.any_eq_false.1 hh j (List.mem_filter.2 ⟨List.mem_range.2 hj,hx⟩)
     rw[hs] at this
     exact(this (Nat.beq_refl _)).elim
   have hidR_no:∀ {t j:Nat},hidR ((List.range ops.size).filter (unr M i)) us t=false->j<ops.size->(∃x,(t,x)∈reOf us j)->unr M i j=false:=fun {t j} hh hj ⟨x,hs⟩=>by
    cases hx:unr M i j with
    |false=>rfl
    |true=>
     have:=List.any_eq_false.1 hh j (List.mem_filter.2 ⟨List.mem_range.2 hj,hx⟩)
     exact(this (List.any_eq_true.2 ⟨_,hs,Nat.beq_refl _⟩)).elim
   have order:∀ {j:Nat},j<ops.size->unr M i j=false->j≠i->(M.getD i 0).testBit j=true\/(M.getD j 0).testBit i=true:=fun {j} hj hun hne=>by
    unfold unr at hun
    have:Nat.beq i j=false:=by
     cases hx:Nat.beq i j with
     |false=>rfl
     |true=>exact(hne (beq_t hx).symm).elim
    rw[this] at hun
    cases h1:(M.getD i 0).testBit j with
    |true=>exact .inl rfl
    |false=>
     cases h2:(M.getD j 0).testBit i with
     |true=>exact .inr rfl
     |false=>rw[h1,h2] at hun;cases hun
   have hseqU:u'=u:=by
    have:=Tr.mono (hide_le fun t ht=>?_) (hide_le fun t ht=>?_) _ hu' (s':=setE s0 (enX us (fun _=>true) i)) (r':=setM r0 (reX us (fun _=>true) i))
    .rw[hu2] at this;exact(Option.some.inj this).symm
    .rw[enX_cut (i:=i) (X:=(M.getD i 0).testBit) (by omega) fun j hj1 hj2 e he=>?_]
     .refine enX_congr fun j hj e he=>?_
      rcases order (by omega) (hidS_no ht (by omega) he) (by omega) with q|q
      .exact q
      have:=mlt (by omega) q;omega
     cases hx:(M.getD i 0).testBit j with
     |false=>rfl
     |true=>have:=mlt hi hx;omega
    rw[reX_cut (i:=i) (X:=(M.getD i 0).testBit) (by omega) fun j hj1 hj2 he=>?_]
    .refine reX_congr fun j hj he=>?_
     rcases order (by omega) (hidR_no ht (by omega) he) (by omega) with q|q
     .exact q
     have:=mlt (by omega) q;omega
    cases hx:(M.getD i 0).testBit j with
    |false=>rfl
    |true=>have:=mlt hi hx;omega
   subst hseqU
   have hhere:(stepG P T sd hn n ops (b+sd*i) op).run (setE s0 (enX us (fun i=>listed.getD i false) ops.size)) (setM r0 (reX us (fun i=>listed.getD i false) ops.size))=some u':=by
    refine Tr.mono (hide_le fun t ht=>?_) (hide_le fun t ht=>?_) _ hu'
    .refine enX_congr fun j hj e he=>?_
     have hun:=hidS_no ht hj he
     cases hx:listed.getD j false with
     |true=>
      cases hb:(M.getD i 0).testBit j with
      |true=>rfl
      |false=>rw[un hj hx hb] at hun;cases hun
     |false=>
      cases hb:(M.getD i 0).testBit j with
      |true=>have:=min hb;rw[hx] at this;cases this
      |false=>rfl
    refine reX_congr fun j hj he=>?_
    have hun:=hidR_no ht hj he
    cases hx:listed.getD j false with
    |true=>
     cases hb:(M.getD i 0).testBit j with
     |true=>rfl
     |false=>rw[un hj hx hb] at hun;cases hun
    |false=>
     cases hb:(M.getD i 0).testBit j with
     |true=>have:=min hb;rw[hx] at this;cases this
     |false=>rfl
   have hmem:u'∈us:=List.mem_of_getElem? hu1
   have hsl:slOf us i=u'.sl:=by unfold slOf;rw[hu1];rfl
   have hre:reOf us i=u'.re:=by unfold reOf;rw[hu1]
   have hfree:∀d,op.dst=some d->∀t e,setE s0 (enX us (fun i=>listed.getD i false) ops.size) t=some e->∀l∈e.ch,l.1≠d:=by
    intro d hdst t e he l hl q
    have hfrom:∀K,setE s0 (enX us (fun i=>listed.getD i false) K) t=some e->K<=ops.size->s0 t=some e\/∃j,j<ops.size/\listed.getD j false=true/\slOf us j=some (t,some e):=by
     intro K
     induction K with
     |zero=>intro h _;exact .inl h
     |succ K ihK=>
      intro h hK
      simp only[enX] at h
      split at h
      .rename_i hx
       rw[setE_add] at h
       by_cases z:∃e',slOf us K=some (t,e')
       .obtain⟨e',he'⟩:=z
        rw[he'] at h
        have h:updE _ t e' t=some e:=h
        rw[updE_same] at h
        subst h
        exact .inr ⟨K,by omega,hx,he'⟩
       rw[putE_other fun e' he'=>z ⟨e',he'⟩] at h
       exact ihK h (by omega)
      exact ihK h (by omega)
    rcases hfrom _ he (Nat.le_refl _) with h3|⟨j,hj,hjX,hjs⟩
    .rw[h0 t e h3] at hl;cases hl
    have:=chains (i:=i) (j:=j) (d:=d) (t:=l.1) hi hj (by rw[hop];exact hdst) (by unfold chSlots;rw[hjs];exact List.mem_map.2 ⟨l,hl,rfl⟩) q.symm
    rw[mno hj hjX] at this;cases this
   unfold wpOp
   rw[hop]
   simp only
   have hY:∀q,(listed.setIfInBounds i true).getD q false=(listed.getD q false||decide (q=i)):=fun q=>by
    rw[Array.getD_eq_getD_getElem?,Array.getD_eq_getD_getElem?,Array.getElem?_setIfInBounds]
    by_cases e:i=q
    .subst e
     rw[if_pos rfl,if_pos (by omega)]
     simp
    rw[if_neg e,decide_eq_false (fun z=>e z.symm),Bool.or_false]
   have hstep:=stepG_ok (Q:=Q) (K:=wpAny P .any ops Q fuel (listed.setIfInBounds i true)) H (fun j hj1 hj2 hFj=>by
     obtain⟨q,q1,q2,q3,q4⟩:=hFX j (by omega) hFj
     have:q=i:=slot_eq q3 q4 hj1 hj2
     subst this
     rw[hXi] at q2;cases q2) hhere (hcs _ hmem) (hhs _ hmem) hfree fun A' S' a' w' H' hB=>by
    refine ih _ a' w' A' S' (FU F u'.re) (by simp[hsz]) ?_ (fun q hq hql d hdm=>?_) ?_ fun j hj hFj=>?_
    .have:=cnt_more (X:=fun i=>listed.getD i false) (Y:=fun q=>(listed.setIfInBounds i true).getD q false) hXi hY hi
     rw[hc] at this;omega
    .rw[hY] at hql ⊢
     rw[Bool.or_eq_true] at hql ⊢
     rcases hql with hql|hql
     .exact .inl (hcl q hq hql d hdm)
     have:=of_decide_eq_true hql
     subst this
     exact .inl (hdX d hdm)
    .rw[<-hsl,<-hre] at H'
     rw[enX_more (X:=fun i=>listed.getD i false) (Y:=fun q=>(listed.setIfInBounds i true).getD q false) hi hXi hY fun j hj hjX hij t e e' h1 h2=>?_,reX_more (X:=fun i=>listed.getD i false) (Y:=fun q=>(listed.setIfInBounds i true).getD q false) hi hXi hY fun j hj hjX hij t e e' h1 h2=>?_] at H'
     .rw[<-hre];exact H'
     .have hb:(M.getD i 0).testBit j=false:=by
       cases hx:(M.getD i 0).testBit j with
       |false=>rfl
       |true=>have:=mlt hi hx;omega
      have:=apart hi hj (un hj hjX hb)
      unfold apartU at this
      rw[Bool.and_eq_true] at this
      have:=List.all_eq_true.1 (List.all_eq_true.1 this.2 _ h1) _ h2
      rw[Nat.beq_refl] at this;cases this
     have hb:(M.getD i 0).testBit j=false:=by
      cases hx:(M.getD i 0).testBit j with
      |false=>rfl
      |true=>have:=mlt hi hx;omega
     have:=apart hi hj (un hj hjX hb)
     unfold apartU at this
     rw[Bool.and_eq_true,h1,h2] at this
     have:=this.1
     simp only[Nat.beq_refl] at this;cases this
    rcases hFj with hFj|⟨x,hx⟩
    .obtain⟨q,q1,q2,q3,q4⟩:=hFX j hj hFj
     exact⟨q,q1,by rw[hY,q2];rfl,q3,q4⟩
    have hk:=List.all_eq_true.1 (show(reOf us i).all _=true from hkeys) (j,x) (by rw[hre];exact hx)
    simp only[Bool.or_eq_true] at hk
    have hd1:=Nat.div_add_mod (j-b) sd
    have hd2:=Nat.mod_lt (j-b) hsd
    rcases hk with hk|hk|hk
    .have:j<b:=by simpa using Nat.blt_eq▸hk
     omega
    .have:=beq_t hk
     rw[this] at hd1
     refine⟨i,hi,by rw[hY];simp,by omega,by omega⟩
    have hl:=min hk
    have hlt:=mlt hi hk
    exact⟨(j-b)/sd,by omega,by rw[hY,hl];rfl,by omega,by omega⟩
   split
   .rename_i hw;rw[if_pos hw] at hstep;exact .inl hstep
   rename_i hw;rw[if_neg hw] at hstep;exact hstep
 have hrep:∀i,(Array.replicate ops.size false).getD i false=false:=fun i=>by
  rw[Array.getD_eq_getD_getElem?,Array.getElem?_replicate];split<;>rfl
 have e1:setE s0 (enX us (fun i=>(Array.replicate ops.size false).getD i false) ops.size)=s0:=funext fun t=>by
  rw[enX_cut (i:=0) (Nat.zero_le _) fun j _ _ _ _=>hrep j];rfl
 have e2:setM r0 (reX us (fun i=>(Array.replicate ops.size false).getD i false) ops.size)=r0:=funext fun t=>by
  rw[reX_cut (i:=0) (Nat.zero_le _) fun j _ _ _=>hrep j];rfl
 refine core ops.size _ a w A S F (by simp) ?_ (fun i _ hl=>by rw[hrep] at hl;cases hl) (by rw[e1,e2];exact H) fun j hj hFj=>(hF j hj hFj).elim
 rw[cnt_same (Y:=fun _=>false) fun i _=>hrep i,cnt_none]
end
structure Mode where
 ro:Option Nat
 ds:List Deferred
def pl:Mode:=⟨none,[]⟩
def Mode.F (m:Mode):Fence:={Fence.wide with round:=m.ro}
def actD (a:Act)(ds:List Deferred):Act:={a with defers:=a.defers++ds}
theorem actD_nil (a:Act):actD a []=a:=by unfold actD;rw[List.append_nil]
def postD (m:Mode)(Q:Post):Post:=fun e a w=> ∃a0,a=actD a0 m.ds/\Q e a0 w
def _root_.Go.Code.wpM (m:Mode)(P:Program)(c:Code)(Q:Post)(a:Act)(w:World):Prop:=c.wpIn m.F 0 P (postD m Q) (actD a m.ds) w
section
variable {m:Mode}{P:Program}{Q Q':Post}{a:Act}{w:World}
theorem wpM_pl {c:Code}:c.wpM pl P Q a w↔c.wp P Q a w:=by
 have e:postD pl Q=Q:=by
  funext e a w
  apply propext
  constructor
  .rintro⟨a0,h1,h2⟩
   rw[show pl.ds=[] from rfl,actD_nil] at h1
   subst h1;exact h2
  intro h;exact⟨a,(actD_nil a).symm,h⟩
 unfold Code.wpM
 rw[e,show pl.ds=[] from rfl,actD_nil]
 exact wpIn_wide
theorem wpM_mono {c:Code}(h:c.wpM m P Q a w)(k:∀e a w,Q e a w->Q' e a w):c.wpM m P Q' a w:=wpIn_mono h fun e a w ⟨a0,h1,h2⟩=>⟨a0,h1,k _ _ _ h2⟩
theorem wpM_skip (h:Q .normal a w):Code.skip.wpM m P Q a w:=wpIn_skip ⟨a,rfl,h⟩
theorem wpM_exit {i:Nat}(h:Q (.exit i) a w):(Code.exit i).wpM m P Q a w:=wpIn_exit ⟨a,rfl,h⟩
theorem wpM_ret (h:Q .ret a w):Code.ret.wpM m P Q a w:=wpIn_ret ⟨a,rfl,h⟩
theorem wpM_seq {x y:Code}(h:x.wpM m P (Exit.then (y.wpM m P Q) Q) a w):(Code.seq x y).wpM m P Q a w:=by
 refine wpIn_seq (wpIn_mono h fun e a w ⟨a0,h1,h2⟩=>?_)
 subst h1
 cases e with
 |normal=>exact h2
 |_=>exact⟨a0,rfl,h2⟩
theorem wpM_block {i:Nat}{x:Code}(h:x.wpM m P (Exit.inBlock i Q) a w):(Code.block i x).wpM m P Q a w:=by
 refine wpIn_block (wpIn_mono h fun e a w ⟨a0,h1,h2⟩=>?_)
 subst h1
 cases e with
 |normal=>exact⟨a0,rfl,h2⟩
 |exit j=>
  have h2:if j=i then Q .normal a0 w else Q (.exit j) a0 w:=h2
  show if j=i then postD m Q .normal _ w else postD m Q (.exit j) _ w
  split
  .rename_i q;rw[if_pos q] at h2;exact⟨a0,rfl,h2⟩
  rename_i q;rw[if_neg q] at h2;exact⟨a0,rfl,h2⟩
 |_=>exact⟨a0,rfl,h2⟩
theorem eval_actD (c:Operand)(ds:List Deferred):(actD a ds).eval c=a.eval c:=by cases c<;>rfl
theorem wpM_cond {c:Operand}{x y:Code}{t:Bool}(hc:a.eval c= .bool t)(h:(if t then x else y).wpM m P Q a w):(Code.cond c x y).wpM m P Q a w:=wpIn_cond (t:=t) (by rw[eval_actD];exact hc) h
theorem wpM_cond_true {c:Operand}{x y:Code}(hc:a.eval c= .bool true)(h:x.wpM m P Q a w):(Code.cond c x y).wpM m P Q a w:=wpM_cond hc h
theorem wpM_cond_false {c:Operand}{x y:Code}(hc:a.eval c= .bool false)(h:y.wpM m P Q a w):(Code.cond c x y).wpM m P Q a w:=wpM_cond hc h
theorem wpM_cond_split {c:Operand}{x y:Code}{b:Bool}(hc:a.eval c= .bool b)(h1:b=true->x.wpM m P Q a w)(h2:b=false->y.wpM m P Q a w):(Code.cond c x y).wpM m P Q a w:=by
 cases b with
 |true=>exact wpM_cond_true hc (h1 rfl)
 |false=>exact wpM_cond_false hc (h2 rfl)
def nrmQ (Q:Post):Post:=fun e a w=>match e with
 | .normal=>Q .normal a w
 |_=>False
def calm2 (ops:Array Oper):Bool:=ops.toList.all fun o=>match o.op with| .defer _=>false|_=>true
theorem calm2_of {ops:Array Oper}(h:calm2 ops=true){o:Oper}(ho:o∈ops.toList):∀c,o.op≠.defer c:=by
 intro c e
 have:=List.all_eq_true.1 h o ho
 rw[e] at this
 cases this
theorem put_actD (d:Option Tmp)(v:Value)(ds:List Deferred):(actD a ds).put d v=actD (a.put d v) ds:=by unfold Act.put actD;cases d<;>rfl
theorem callsF {n:Nat}{f:FuncId}{args:Array Value}{R:Ending->World->Prop}(h:Calls P f args w R):CallsIn m.F n P f args w R:=by
 have:=callsIn_wide (n:=n).2 h
 cases m with
 |mk ro ds=>exact this
theorem rowsF {n:Nat}{row:String}{args:Array Value}{R:Value->World->Prop}(h:Rows P row args w R):RowsIn m.F n P row args w R:=by
 cases m with
 |mk ro ds=>
  cases ro with
  |none=>exact fun c cs _=>let⟨v,w',r,s⟩:=h c cs;⟨v,w',r,stepsIn_wide.2 s⟩
  |some l=>exact fun c cs _=>let⟨v,w',r,s⟩:=h c cs;⟨v,w',r,stepsIn_wide.2 s⟩
theorem oper_M {o:Oper}{K K':Act->World->Prop}(hd:∀c,o.op≠.defer c)(hK:∀a w,K a w->K' (actD a m.ds) w)(h:o.wp P a w K (nrmQ Q)\/(o.asks P a w/\LetsOut (nrmQ Q))):o.wpIn m.F 0 P (actD a m.ds) w K' (postD m Q):=by
 rcases h with h|⟨_,a0,w0,hq⟩
 .refine⟨fun f _=>trivial,?_⟩
  rw[Oper.semAt_eq _ _ _ hd]
  have he:execOp (actD a m.ds).eval o=execOp a.eval o:=by
   congr 1
  rw[he]
  unfold Oper.wp at h
  generalize (execOp a.eval o).run P w=r at*
  cases r with
  |ok x w'=>
   cases x with
   |value v=>simp only[Oper.upon,Oper.uponIn] at h ⊢;rw[put_actD];exact hK _ _ h
   |skip=>simp only[Oper.upon,Oper.uponIn] at h ⊢;rw[put_actD];exact hK _ _ h
   |enter f args=>
    simp only[Oper.upon,Oper.uponIn] at h ⊢
    refine⟨fun e=>(by cases e),(callsF (m:=m) h).mono fun e w'' he=>?_⟩
    cases e with
    |returned v=>simp only at he ⊢;rw[put_actD];exact hK _ _ he
    |panicked ch=>exact(he:False).elim
    |outgrown=>obtain⟨a0,w0,hq⟩:=he;exact(hq:False).elim
   |row rw_ args=>
    simp only[Oper.upon,Oper.uponIn] at h ⊢
    refine⟨fun e=>(by cases e),RowsIn.mono (rowsF (m:=m) h) fun v w'' he=>?_⟩
    rw[put_actD];exact hK _ _ he
   |defer d=>simp only[Oper.upon,Oper.uponIn] at h ⊢;have:=hK _ _ h;unfold Act.put actD at this ⊢;cases hdst:o.dst<;>rw[hdst] at this<;>exact this
   |_=>exact(h:False).elim
  |halt x w'=>cases x<;>simp only[Oper.upon,Oper.uponIn] at h ⊢ <;>exact(h:False).elim
 exact(hq:False).elim
theorem list_M {ops:Array Oper}:∀(l:List Oper) (a:Act) (w:World),(∀o∈l,∀c,o.op≠.defer c)->wpList P ops (nrmQ Q) l a w->wpListIn m.F 0 P ops (postD m Q) l (actD a m.ds) w
 |[],a,w,_,h=>⟨a,rfl,h⟩
 |o::l,a,w,hl,h=>by
  simp only[wpList] at h
  simp only[wpListIn]
  have ih:=fun a w=>list_M (ops:=ops) l a w (fun o' ho'=>hl o' (List.mem_cons_of_mem _ ho'))
  have ew:(actD a m.ds).tmps=a.tmps:=rfl
  rw[ew]
  by_cases hw:Region.wanted o (yielded ops a.tmps)=true
  .rw[if_pos hw] at h ⊢
   exact oper_M (hl o List.mem_cons_self) ih h
  rw[if_neg hw] at h ⊢
  exact⟨fun f _=>trivial,by rw[put_actD];exact ih _ _ h⟩
theorem any_M {ops:Array Oper}(hops:∀o∈ops.toList,∀c,o.op≠.defer c):∀(k:Nat) (listed:Array Bool) (a:Act) (w:World),wpAny P .any ops (nrmQ Q) k listed a w->wpAnyIn m.F 0 P .any ops (postD m Q) k listed (actD a m.ds) w
 |0,_,a,_,h=>⟨h.1,a,rfl,h.2⟩
 |k+1,listed,a,w,h=>by
  refine⟨fun q=>⟨a,rfl,h.1 q⟩,fun i hi=>?_⟩
  have h2:=h.2 i hi
  unfold wpOp at h2
  unfold wpOpIn
  have ew:(actD a m.ds).tmps=a.tmps:=rfl
  cases ho:ops[i]? with
  |none=>rw[ho] at h2;exact any_M hops k _ a w h2
  |some o=>
   rw[ho] at h2
   simp only at h2 ⊢
   rw[ew]
   by_cases hw:Region.wanted o (yielded ops a.tmps)=true
   .rw[if_pos hw] at h2 ⊢
    exact oper_M (hops o (by have:=List.mem_of_getElem? (l:=ops.toList) (i:=i) (by simpa using ho);exact this)) (fun a w=>any_M hops k _ a w) h2
   rw[if_neg hw] at h2 ⊢
   exact⟨fun f _=>trivial,by rw[put_actD];exact any_M hops k _ _ w h2⟩
theorem wpM_region_list {id:Nat}{ops:Array Oper}(hc:calm2 ops=true)(h:wpList P ops (nrmQ Q) ops.toList a w):(Code.region id ops false).wpM m P Q a w:=
 wpIn_region_list (list_M _ a w (fun o ho=>calm2_of hc ho) h)
theorem wpM_region_any {id:Nat}{ops:Array Oper}(hc:calm2 ops=true)(hm:P.follows .mixedOrders=true)(h:wpAny P .any ops (nrmQ Q) ops.size (Array.replicate ops.size false) a {w with drawn:=w.drawn+1}):(Code.region id ops true).wpM m P Q a w:=
 wpIn_region_any hm (any_M (fun o ho=>calm2_of hc ho) _ _ a _ h)
theorem wpM_loop (X:Type)(I:X->Act->World->Prop)(μ:X->Nat)(x0:X){c:Code}(h0:I x0 a w)
  (round:∀x a w,I x a w->c.wpM m P (Exit.then (fun a' w'=> ∃x',I x' a' w'/\μ x'<μ x) Q) a w):(Code.loop c).wpM m P Q a w:=by
 classical
 have hL:∀a w,(∃x,I x a w)->∃k,(∃x,I x a w/\μ x=k)/\∀j,(∃x,I x a w/\μ x=j)->k<=j:=fun a w ⟨x,hx⟩=>least_of (p:=fun k=> ∃x,I x a w/\μ x=k) (μ x) ⟨x,hx,rfl⟩
 let mm:Act->World->Nat:=fun a w=>if h:∃x,I x a w then Classical.choose (hL a w h) else 0
 have hm:∀a w,(∃x,I x a w)->(∃x,I x a w/\μ x=mm a w)/\∀k,(∃x,I x a w/\μ x=k)->mm a w<=k:=by
  intro a w h
  have:=Classical.choose_spec (hL a w h)
  simp only[mm,dif_pos h]
  exact this
 let un:Act->Act:=fun a=>{a with defers:=a.defers.take (a.defers.length-m.ds.length)}
 have hun:∀a:Act,un (actD a m.ds)=a:=fun a=>by
  cases a
  show Act.mk _ _=_
  simp[actD]
 refine wpIn_loop (fun a' w=> ∃a0,a'=actD a0 m.ds/\∃x,I x a0 w) (fun a' w=>mm (un a') w) ⟨a,rfl,x0,h0⟩ fun a' w' hI=>?_
 obtain⟨a0,rfl,hx⟩:=hI
 obtain⟨⟨x,hx1,hx2⟩,_⟩:=hm a0 w' hx
 refine wpIn_mono (round x a0 w' hx1) fun e a2 w2 ⟨a3,e3,hq⟩=>?_
 subst e3
 cases e with
 |normal=>
  obtain⟨y,hy1,hy2⟩:=hq
  refine⟨⟨a3,rfl,y,hy1⟩,?_⟩
  have:=(hm a3 w2 ⟨y,hy1⟩).2 _ ⟨y,hy1,rfl⟩
  rw[hun,hun]
  omega
 |_=>exact⟨a3,rfl,hq⟩
end
structure St2:Type where
 env:List (Nat×Option E2)
 rs:List (Nat×Option R2)
 nx:Nat
def stE (σ:St2):Nat->Option E2:=setE (fun _=>none) σ.env
def stR (σ:St2):Nat->Option R2:=setM (fun _=>none) σ.rs
structure Okx (o:OrgG)(n:Nat)(σ:St2)(a:Act)(w:World):Prop where
 ok:∃A S,OkF o n A S (· <σ.nx) (stE σ) (stR σ) a w
 ch:∀t e,stE σ t=some e->e.ch=[]
 np:∀j,o.pF j->j<o.kp
structure OkI (o:OrgG)(n:Nat)(r0:Nat->Option R2)(F0 L:Nat->Prop)(σ:St2)(a:Act)(w:World):Prop where
 ok:∃A S F,OkF o n A S F (stE σ) (setM r0 σ.rs) a w/\(∀j,σ.nx<=j->L j->¬F j)/\∀j,F j->F0 j\/∃x,(j,x)∈σ.rs
 ch:∀t e,stE σ t=some e->e.ch=[]
theorem Okx.i {o:OrgG}{n:Nat}{σ:St2}{a:Act}{w:World}(h:Okx o n σ a w):OkI o n (fun _=>none) (fun _=>True) (fun _=>True) σ a w:=by
 obtain⟨⟨A,S,H⟩,h0,_⟩:=h
 exact⟨⟨A,S,_,H,fun j h1 _ h2=>by omega,fun _ _=>.inl tv⟩,h0⟩
theorem OkI.x {o:OrgG}{n:Nat}{σ:St2}{a:Act}{w:World}(h:OkI o n (fun _=>none) (fun _=>True) (fun _=>True) σ a w)(np:∀j,o.pF j->j<o.kp):Okx o n σ a w:=by
 obtain⟨⟨A,S,F,H,h1,_⟩,h0⟩:=h
 exact⟨⟨A,S,H.agree (Agr.refl _ _) fun j hj=>Classical.byContradiction fun q=>h1 j (Nat.le_of_not_lt q) tv hj⟩,h0,np⟩
inductive It where
 |run (p:List Nat)
 |blk (i:Nat)
 |lp (K:Act->World->Prop)
def post (mo:Mode)(P:Program)(B:Code)(Q:Post):List It->Post
 |[]=>Q
 | .run p::r=>Exit.then (fun a w=>(sub B p).wpM mo P (post mo P B Q r) a w) (post mo P B Q r)
 | .blk i::r=>Exit.inBlock i (post mo P B Q r)
 | .lp K::r=>Exit.then K (post mo P B Q r)
def unw (i:Nat):List It->Option (List It)
 |[]=>none
 | .run _::r=>unw i r
 | .lp _::r=>unw i r
 | .blk j::r=>match Nat.beq i j with
  |true=>some r
  |false=>unw i r
section
variable (P:Program)(T:List (Con P))(sd:Nat)(dr:Bool)(hn:List (Nat×Bool))(n:Nat)
def regS (ops:Array Oper)(d:Bool)(σ:St2):Option (List Upd×St2):=
 match calm2 ops with
 |false=>none
 |true=>match seqU P T sd hn n ops (stE σ) (stR σ) ops.toList σ.nx [] [] with
 |some us=>match d with
  |false=>some (us,⟨unch (enAll us [])++σ.env,reAll us []++σ.rs,σ.nx+sd*ops.size⟩)
  |true=>match dr && (drawB P T sd hn n ops (stE σ) (stR σ) σ.nx us (msk (depsOf ops.toList) ops.size) && P.follows .mixedOrders) with
   |true=>some (us,⟨unch (enX us (fun _=>true) ops.size)++σ.env,reX us (fun _=>true) ops.size++σ.rs,σ.nx+sd*ops.size⟩)
   |false=>none
 |none=>none
def litOf (σ:St2):Operand->Option Bool
 | .tmp t=>match stE σ t with
  |some ⟨[],.one (.b (.lit b))⟩=>some b
  |_=>none
 | .const (.bool b)=>some b
 |_=>none
structure ExR:Type 1 where
 cs:List Prop
 hs:List Hid
 st:List It
 σ:St2
def exec (B:Code):Nat->List It->St2->List Prop->List Hid->Option ExR
 |0,_,_,_,_=>none
 |f+1,st,σ,cs,hs=>match st with
  | .blk _::r=>exec B f r σ cs hs
  | .run p::r=>match sub B p with
   | .seq _ _=>exec B f (.run (p++[0]):: .run (p++[1])::r) σ cs hs
   | .block i _=>exec B f (.run (p++[0]):: .blk i::r) σ cs hs
   | .skip=>exec B f r σ cs hs
   | .exit i=>match unw i r with
    |some r'=>exec B f r' σ cs hs
    |none=>none
   | .region _ ops d=>match regS P T sd dr hn n ops d σ with
    |some x=>exec B f r x.2 (cs++x.1.flatMap (·.cs)) (hs++x.1.flatMap (·.hs))
    |none=>some ⟨cs,hs,.run p::r,σ⟩
   | .cond c _ _=>match litOf σ c with
    |some true=>exec B f (.run (p++[0])::r) σ cs hs
    |some false=>exec B f (.run (p++[1])::r) σ cs hs
    |none=>some ⟨cs,hs,.run p::r,σ⟩
   |_=>some ⟨cs,hs,.run p::r,σ⟩
  |st=>some ⟨cs,hs,st,σ⟩
end
section
variable {mo:Mode}{P:Program}{o:OrgG}{n:Nat}{σ σ':St2}{a:Act}{w w':World}{T:List (Con P)}{sd:Nat}{dr:Bool}{hn:List (Nat×Bool)}{B:Code}{Q:Post}{st:List It}{r0:Nat->Option R2}{F0 L:Nat->Prop}
theorem unw_ok {i:Nat}:∀ {st r:List It},unw i st=some r->post mo P B Q r .normal a w->post mo P B Q st (.exit i) a w
 |[],r,h,_=>by cases h
 | .run _::st,r,h,k=>unw_ok (st:=st) h k
 | .lp _::st,r,h,k=>unw_ok (st:=st) h k
 | .blk j::st,r,h,k=>by
  simp only[unw] at h
  split at h
  .rename_i e
   cases h
   have:=beq_t e
   subst this
   show(if i=i then post mo P B Q st .normal a w else _)
   rw[if_pos rfl];exact k
  rename_i e
  show(if i=j then post mo P B Q st .normal a w else post mo P B Q st (.exit i) a w)
  rw[if_neg (beq_f e)]
  exact unw_ok h k
theorem post_ret:∀ {st:List It},Q .ret a w->post mo P B Q st .ret a w
 |[],h=>h
 | .run _::st,h=>post_ret (st:=st) h
 | .blk _::st,h=>post_ret (st:=st) h
 | .lp _::st,h=>post_ret (st:=st) h
theorem stE_app (x:List (Nat×Option E2))(σ:St2)(rs:List (Nat×Option R2))(k:Nat):stE ⟨x++σ.env,rs,k⟩=setE (stE σ) x:=setE_append _ _ _
theorem stR_app (x:List (Nat×Option R2))(σ:St2)(env:List (Nat×Option E2))(k:Nat):stR ⟨env,x++σ.rs,k⟩=setM (stR σ) x:=setM_append _ _ _
theorem stR_le (r0:Nat->Option R2)(σ:St2):∀j x,stR σ j=some x->setM r0 σ.rs j=some x:=fun j x h=>setM_le (fun _ _ q=>by cases q) h
theorem reg_ok {id:Nat}{ops:Array Oper}{d:Bool}{us:List Upd}(h:OkI o n r0 F0 L σ a w)(hr:regS P T sd dr hn n ops d σ=some (us,σ'))(hL:∀j,j<σ'.nx->L j)(hdr:dr=true->(∀j,L j)/\(∀j,F0 j)/\r0=fun _=>none)(hcs:∀p∈us.flatMap (·.cs),p)(hhs:∀h∈us.flatMap (·.hs),∀A w,h.lhs A w=h.rhs A w)
  (k:∀a' w',OkI o n r0 F0 L σ' a' w'->Q .normal a' w'):(Code.region id ops d).wpM mo P Q a w:=by
 obtain⟨⟨A,S,F,H,hF,hF0⟩,h0⟩:=h
 have hcs':∀u∈us,∀p∈u.cs,p:=fun u hu p hp=>hcs p (List.mem_flatMap.2 ⟨u,hu,hp⟩)
 have hhs':∀u∈us,∀h∈u.hs,∀A w,h.lhs A w=h.rhs A w:=fun u hu p hp=>hhs p (List.mem_flatMap.2 ⟨u,hu,hp⟩)
 unfold regS at hr
 split at hr
 .cases hr
 rename_i hcm
 have fin:∀ {en:List (Nat×Option E2)} {re:List (Nat×Option R2)} {A':Asg} {S':Stab} {F':Nat->Prop} {a':Act} {w':World},OkF o n A' S' F' (setE (stE σ) en) (setM (setM r0 σ.rs) re) a' w'->(∀j,σ.nx+sd*ops.size<=j->L j->¬F' j)->(∀j,F' j->F0 j\/∃x,(j,x)∈re++σ.rs)->
   OkI o n r0 F0 L ⟨unch en++σ.env,re++σ.rs,σ.nx+sd*ops.size⟩ a' w':=by
  intro en re A' S' F' a' w' H' hF' hF2
  refine⟨⟨A',S',F',?_,hF',hF2⟩,?_⟩
  .show OkF o n A' S' F' (stE ⟨unch en++σ.env,re++σ.rs,_⟩) (setM r0 (re++σ.rs)) a' w'
   rw[stE_app,setM_append]
   exact H'.less fun t e he=>(unch_ok h0 he).1
  rw[stE_app]
  exact fun t e he=>(unch_ok h0 he).2
 split at hr
 .rename_i us' hseq
  split at hr
  .cases hr
   refine wpM_region_list hcm ?_
   have:=seqU_ok (Q:=nrmQ Q) (L:=L) (rest:=[]) h0 (seqU_mono (stR_le r0 σ) hseq) H hF (fun j hj=>hL j (by rw[Array.length_toList] at hj;exact hj)) hcs' hhs' fun A' S' F' a' w' H' hF' hF2=>k a' w' (fin H' (by rw[Array.length_toList] at hF';exact hF') fun j hj=>?_)
   .rwa[List.append_nil] at this
   rcases hF2 j hj with q|⟨x,hx⟩
   .exact(hF0 j q).imp (fun z=>z) fun⟨x,hx⟩=>⟨x,List.mem_append_right _ hx⟩
   exact .inr ⟨x,List.mem_append_left _ hx⟩
  split at hr
  .rename_i hb
   cases hr
   rw[Bool.and_eq_true,Bool.and_eq_true] at hb
   obtain⟨d1,d2,d3⟩:=hdr hb.1
   subst d3
   refine wpM_region_any hcm hb.2.2 ?_
   have H1:OkF o n A S F (stE σ) (stR σ) a {w with drawn:=w.drawn+1}:=⟨H.size,H.nodef,H.env,H.sall,H.rall,H.frm.on ⟨rfl,rfl,rfl,Nat.le_refl _,fun _ _=>rfl⟩,H.args,H.pin⟩
   exact drawn_ok h0 hseq rfl hb.2.1 hcs' hhs' (fun A' S' F' a' w' H' hF'=>k a' w' (fin H' (fun j hj _=>hF' j hj) fun j _=>.inl (d2 j))) H1 fun j hj=>hF j hj (d1 j)
  cases hr
 cases hr
theorem regS_nx {ops:Array Oper}{d:Bool}{us:List Upd}(hr:regS P T sd dr hn n ops d σ=some (us,σ')):σ.nx<=σ'.nx:=by
 unfold regS at hr
 split at hr
 .cases hr
 split at hr
 .split at hr
  .cases hr;exact Nat.le_add_right _ _
  split at hr
  .cases hr;exact Nat.le_add_right _ _
  cases hr
 cases hr
theorem litOf_ok (h:OkI o n r0 F0 L σ a w){c:Operand}{b:Bool}(hb:litOf σ c=some b):a.eval c= .bool b:=by
 obtain⟨⟨A,S,F,H,_⟩,h0⟩:=h
 unfold litOf at hb
 split at hb
 .rename_i t
  split at hb
  .rename_i b' he
   cases hb
   have:=(H.env t _ he).1 (fun l hl=>by cases hl)
   simp only[Act.eval,Array.getD_eq_getD_getElem?]
   rw[show a.tmps[t]?=some (.bool b) from this];rfl
  cases hb
 .cases hb;rfl
 cases hb
theorem exec_ok {x:ExR}(hL:∀j,j<x.σ.nx->L j)(hdr:dr=true->(∀j,L j)/\(∀j,F0 j)/\r0=fun _=>none):∀ {f:Nat} {st:List It} {σ:St2} {cs:List Prop} {hs:List Hid} {a:Act} {w:World},exec P T sd dr hn n B f st σ cs hs=some x->((∀p∈cs,p∈x.cs)/\(∀p∈hs,p∈x.hs)/\σ.nx<=x.σ.nx)/\(OkI o n r0 F0 L σ a w->(∀p∈x.cs,p)->(∀h∈x.hs,∀A w,h.lhs A w=h.rhs A w)->(∀a' w',OkI o n r0 F0 L x.σ a' w'->post mo P B Q x.st .normal a' w')->post mo P B Q st .normal a w):=by
 intro f
 induction f with
 |zero=>intro st σ cs hs a w h;cases h
 |succ f ih=>
  intro st σ cs hs a w h
  have stop:some (⟨cs,hs,st,σ⟩:ExR)=some x->((∀p∈cs,p∈x.cs)/\(∀p∈hs,p∈x.hs)/\σ.nx<=x.σ.nx)/\(OkI o n r0 F0 L σ a w->(∀p∈x.cs,p)->(∀h∈x.hs,∀A w,h.lhs A w=h.rhs A w)->(∀a' w',OkI o n r0 F0 L x.σ a' w'->post mo P B Q x.st .normal a' w')->post mo P B Q st .normal a w):=fun e=>by
   cases e;exact⟨⟨fun _ h=>h,fun _ h=>h,Nat.le_refl _⟩,fun h _ _ k=>k a w h⟩
  unfold exec at h
  split at h
  .rename_i i r
   obtain⟨h1,h2⟩:=ih (a:=a) (w:=w) h
   exact⟨h1,h2⟩
  .rename_i p r
   have inner:∀ {R:Prop},R->(OkI o n r0 F0 L σ a w->(∀p∈x.cs,p)->(∀h∈x.hs,∀A w,h.lhs A w=h.rhs A w)->(∀a' w',OkI o n r0 F0 L x.σ a' w'->post mo P B Q x.st .normal a' w')->(sub B p).wpM mo P (post mo P B Q r) a w)->R/\(OkI o n r0 F0 L σ a w->(∀p∈x.cs,p)->(∀h∈x.hs,∀A w,h.lhs A w=h.rhs A w)->(∀a' w',OkI o n r0 F0 L x.σ a' w'->post mo P B Q x.st .normal a' w')->post mo P B Q (.run p::r) .normal a w):=fun h1 h2=>⟨h1,h2⟩
   split at h
   .rename_i c1 c2 hc
    obtain⟨h1,h2⟩:=ih (a:=a) (w:=w) h
    refine inner h1 fun q1 q2 q3 q4=>?_
    have:=h2 q1 q2 q3 q4
    have this:(sub B (p++[0])).wpM mo P (Exit.then (fun a w=>(sub B (p++[1])).wpM mo P (post mo P B Q r) a w) (post mo P B Q r)) a w:=this
    rw[sub_snoc,hc,sub_seq0] at this
    rw[hc]
    refine wpM_seq (wpM_mono this fun e a w z=>?_)
    cases e<;>first|exact z|skip
    have z:(sub B (p++[1])).wpM mo P (post mo P B Q r) a w:=z
    rw[sub_snoc,hc,sub_seq1] at z
    exact z
   .rename_i i c1 hc
    obtain⟨h1,h2⟩:=ih (a:=a) (w:=w) h
    refine inner h1 fun q1 q2 q3 q4=>?_
    have this:(sub B (p++[0])).wpM mo P (Exit.inBlock i (post mo P B Q r)) a w:=h2 q1 q2 q3 q4
    rw[sub_snoc,hc,sub_block0] at this
    rw[hc]
    exact wpM_block this
   .rename_i hc
    obtain⟨h1,h2⟩:=ih (a:=a) (w:=w) h
    refine inner h1 fun q1 q2 q3 q4=>?_
    rw[hc]
    exact wpM_skip (h2 q1 q2 q3 q4)
   .rename_i i hc
    split at h
    .rename_i r' hu
     obtain⟨h1,h2⟩:=ih (a:=a) (w:=w) h
     refine inner h1 fun q1 q2 q3 q4=>?_
     rw[hc]
     exact wpM_exit (unw_ok hu (h2 q1 q2 q3 q4))
    cases h
   .rename_i id ops d hc
    split at h
    .rename_i y hy
     have hm:=(ih (a:=a) (w:=w) h).1
     refine inner ⟨fun q hq=>hm.1 q (List.mem_append_left _ hq),fun q hq=>hm.2.1 q (List.mem_append_left _ hq),Nat.le_trans (regS_nx (σ':=y.2) hy) hm.2.2⟩ fun q1 q2 q3 q4=>?_
     rw[hc]
     exact reg_ok (σ':=y.2) q1 hy (fun j hj=>hL j (Nat.lt_of_lt_of_le hj hm.2.2)) hdr (fun q hq=>q2 q (hm.1 q (List.mem_append_right _ hq))) (fun q hq=>q3 q (hm.2.1 q (List.mem_append_right _ hq))) fun a' w' h'=>(ih (a:=a') (w:=w') h).2 h' q2 q3 q4
    exact stop h
   .rename_i c c1 c2 hc
    split at h
    .rename_i hb
     obtain⟨h1,h2⟩:=ih (a:=a) (w:=w) h
     refine inner h1 fun q1 q2 q3 q4=>?_
     have this:(sub B (p++[0])).wpM mo P (post mo P B Q r) a w:=h2 q1 q2 q3 q4
     rw[sub_snoc,hc,sub_cond0] at this
     rw[hc]
     exact wpM_cond_true (litOf_ok q1 hb) this
    .rename_i hb
     obtain⟨h1,h2⟩:=ih (a:=a) (w:=w) h
     refine inner h1 fun q1 q2 q3 q4=>?_
     have this:(sub B (p++[1])).wpM mo P (post mo P B Q r) a w:=h2 q1 q2 q3 q4
     rw[sub_snoc,hc,sub_cond1] at this
     rw[hc]
     exact wpM_cond_false (litOf_ok q1 hb) this
    exact stop h
   exact stop h
  exact stop h
end
structure At (mo:Mode)(P:Program)(T:List (Con P))(B:Code)(Q:Post)(st:List It)(a:Act)(w:World):Prop where
 get:post mo P B Q st .normal a w
def xS:Option ExR->St2
 |some x=>x.σ
 |none=>⟨[],[],0⟩
def xI:Option ExR->List It
 |some x=>x.st
 |none=>[]
def xC:Option ExR->List Prop
 |some x=>x.cs
 |none=>[False]
def xH:Option ExR->List Hid
 |some x=>x.hs
 |none=>[]
abbrev exq (P:Program)(T:List (Con P))(hn:List (Nat×Bool))(n:Nat)(B:Code)(st:List It)(σ:St2):Option ExR:=exec P T 4096 true hn n B 5000 st σ [] []
def topC (B:Code)(σ:St2):List It->Option (BE×List Nat×List It)
 | .run p::r=>match sub B p with
  | .cond (.tmp t) _ _=>match stE σ t with
   |some ⟨[],.one (.b e)⟩=>some (e,p,r)
   |_=>none
  |_=>none
 |_=>none
def topL (B:Code):List It->Option (List Nat×List It)
 | .run p::r=>match sub B p with
  | .loop _=>some (p,r)
  |_=>none
 |_=>none
def oP {α β:Type}(x:Option (α×List Nat×β)):List Nat:=match x with
 |some y=>y.2.1
 |none=>[]
def oR {α:Type}(x:Option (α×List Nat×List It)):List It:=match x with
 |some y=>y.2.2
 |none=>[]
def lP (x:Option (List Nat×List It)):List Nat:=match x with
 |some y=>y.1
 |none=>[]
def lR (x:Option (List Nat×List It)):List It:=match x with
 |some y=>y.2
 |none=>[]
def rnOf:List (Nat×Option Nat)->Nat->Option (Option Nat)
 |[],_=>none
 |p::l,j=>match Nat.beq p.1 j with
  |true=>some p.2
  |false=>rnOf l j
def Sc.rn (ρ:List (Nat×Option Nat)):Sc->Option Sc
 | .v x=>some (.v x)
 | .b e=>some (.b (.raw e.den))
 | .own j=>match rnOf ρ j with
  |some (some k)=>some (.own k)
  |some none=>some (.v (.slice none 0 0))
  |none=>none
 | .mp j=>match rnOf ρ j with
  |some (some k)=>some (.mp k)
  |some none=>some (.v (.map none))
  |none=>none
 | .ptr j off=>match rnOf ρ j with
  |some (some k)=>some (.ptr k off)
  |_=>none
 | .el _ _ _ _=>none
 | .clo f caps=>(rnCaps ρ caps).map (.clo f)
 | .hd _ _ _=>none
 | .pd j=>match rnOf ρ j with
  |some (some k)=>some (.pd k)
  |some none=>some (.v (.pointer none))
  |none=>none
where rnCaps (ρ:List (Nat×Option Nat)):List (Nat×Nat)->Option (List (Nat×Nat))
 |[]=>some []
 |c::l=>match rnOf ρ c.1,rnCaps ρ l with
  |some (some k),some l'=>some ((k,c.2)::l')
  |_,_=>none
def Sc.nrm:Sc->Sc
 | .b e=>.b (.raw e.den)
 |s=>s
def rnL (ρ:List (Nat×Option Nat)):List Sc->Option (List Sc)
 |[]=>some []
 |c::l=>match c.rn ρ,rnL ρ l with
  |some c',some l'=>some (c'::l')
  |_,_=>none
def Sy.rn (ρ:List (Nat×Option Nat)):Sy->Option Sy
 | .one s=>(s.rn ρ).map .one
 | .agg cs=>(rnL ρ cs).map .agg
 | .tup _=>none
def Sy.nrm:Sy->Sy
 | .one s=>.one s.nrm
 | .agg cs=>.agg (cs.map Sc.nrm)
 | .tup ps=>.tup ps
theorem Sc.nrm_den (A:Asg):∀s:Sc,s.nrm.den A=s.den A
 | .b _=>rfl
 | .v _=>rfl
 | .own _=>rfl
 | .mp _=>rfl
 | .ptr _ _=>rfl
 | .el _ _ _ _=>rfl
 | .clo _ _=>rfl
 | .hd _ _ _=>rfl
 | .pd _=>rfl
theorem Sy.nrm_den (A:Asg):∀s:Sy,s.nrm.den A=s.den A
 | .one s=>Sc.nrm_den A s
 | .agg cs=>by simp only[nrm,den,List.map_map];congr 2;exact List.map_congr_left fun c _=>Sc.nrm_den A c
 | .tup _=>rfl
def isRo:R2->Bool
 | .ro _ _=>true
 | .mro _ _ _=>true
 |_=>false
def frzL (r:Nat->Option R2)(ρ:List (Nat×Option Nat)):List (Nat×Option R2)->List (Nat×Option R2)
 |[]=>[]
 |(j,some x)::l=>match isRo x,rnOf ρ j with
  |true,some (some k)=>match r k with
   |some y=>match frzOf y with
    |some z=>(k,some z)::frzL r ρ l
    |none=>frzL r ρ l
   |none=>frzL r ρ l
  |_,_=>frzL r ρ l
 |(_,none)::l=>frzL r ρ l
def R2.rn (ρ:List (Nat×Option Nat)):R2->Option R2
 | .box t cs=>(rnL ρ cs).map (.box t)
 | .ext (.nest q h e t ie l)=>match rnOf ρ q with
  |some (some k)=>some (.ext (.nest k h e t ie l))
  |_=>none
 | .ext (.nmap q k h t ie m)=>match rnOf ρ q with
  |some (some p)=>some (.ext (.nmap p k h t ie m))
  |_=>none
 | .ext (.ent q k t m x)=>match rnOf ρ q with
  |some (some p)=>some (.ext (.ent p k t m x))
  |_=>none
 | .ext (.vw _ _ _ _ _)=>none
 | .ext (.fwd _)=>none
 |x=>some x
def R2.nrm:R2->R2
 | .box t cs=>.box t (cs.map Sc.nrm)
 |x=>x
def nilR:R2->Option R2
 | .row e t []=>some (.row e t [])
 | .ro t []=>some (.ro t [])
 | .ext (.nest q none e t ie [])=>some (.ext (.nest q none e t ie []))
 | .ext (.pro t x)=>match(show Option (El t) from x) with
  |none=>some (.ext (.pro t (none:Option (El t))))
  |some _=>none
 | .mro k t m=>match(show List (KEl k×El t) from m) with
  |[]=>some (.mro k t ([]:List (KEl k×El t)))
  |_=>none
 |_=>none
def envOkB (ρ:List (Nat×Option Nat))(σ σ':St2):Prop:=(σ'.env.map fun p=>p.2.map fun e=>(e.ch,e.sy.rn ρ))=σ'.env.map fun p=>(stE σ p.1).map fun e=>(e.ch,some e.sy.nrm)
def R2.rnJ (ρ:List (Nat×Option Nat))(j:Nat)(x:R2):Option R2:=match rnOf ρ j with
 |some none=>some x
 |_=>x.rn ρ
def rsOkB (ρ:List (Nat×Option Nat))(σ σ':St2):Prop:=(σ'.rs.map fun p=>p.2.bind (R2.rnJ ρ p.1))=σ'.rs.map fun p=>match rnOf ρ p.1 with
 |some (some k)=>(setM (stR σ) (frzL (stR σ) ρ σ'.rs) k).map R2.nrm
 |some none=>p.2.bind nilR
 |none=>none
def R2.famB (k:Nat):R2->Bool
 | .ext (.nest q _ _ _ _ _)=>Nat.blt q k
 | .ext (.nmap q _ _ _ _ _)=>Nat.blt q k
 | .box _ _=>false
 |_=>true
def idsOkB (ρ:List (Nat×Option Nat))(σ':St2):Bool:=
 ρ.all (fun p=>Nat.blt p.1 σ'.nx) && (σ'.env.all (fun p=>match p.2 with|some e=>e.ch.isEmpty|none=>false) && (σ'.rs.all (fun p=>match p.2 with|some x=>(match rnOf ρ p.1 with|some (some _)=>(x.rn ρ).isSome|some none=>x.famB σ'.nx|none=>false)|none=>false) && σ'.rs.all fun p=>σ'.rs.all fun q=>Nat.beq p.1 q.1||(match rnOf ρ p.1,rnOf ρ q.1 with|some (some j),some (some k)=>!Nat.beq j k|_,_=>true)))
theorem rnOf_mem:∀ {ρ:List (Nat×Option Nat)} {j:Nat} {x:Option Nat},rnOf ρ j=some x->(j,x)∈ρ
 |[],_,_,h=>by cases h
 |p::l,j,x,h=>by
  simp only[rnOf] at h
  split at h
  .rename_i e
   cases h
   rw[<-beq_t e];exact List.mem_cons_self
  exact List.mem_cons_of_mem _ (rnOf_mem h)
theorem frzL_ok {r:Nat->Option R2}{ρ:List (Nat×Option Nat)}:∀ {l:List (Nat×Option R2)},Frz r (frzL r ρ l)
 |[]=>fun _ h=>by cases h
 |(j,none)::l=>frzL_ok (l:=l)
 |(j,some x)::l=>by
  simp only[frzL]
  split
  .rename_i k _ _
   split
   .rename_i y hr
    split
    .rename_i z hz
     intro p hp
     rcases List.mem_cons.1 hp with rfl|hp
     .exact⟨y,z,hr,hz,rfl⟩
     exact frzL_ok p hp
    exact frzL_ok
   exact frzL_ok
  exact frzL_ok
def asgR (A:Asg)(ρ:List (Nat×Option Nat)):Asg:=
 ⟨fun j=>match rnOf ρ j with|some (some k)=>A.p k|_=>none,fun j=>match rnOf ρ j with|some (some k)=>A.n k|_=>0,fun j=>match rnOf ρ j with|some (some k)=>A.c k|_=>0,fun j=>match rnOf ρ j with|some (some k)=>A.b k|_=>0,fun j=>match rnOf ρ j with|some (some k)=>A.f k|_=>fun _=>undef,fun j=>match rnOf ρ j with|some (some k)=>A.m k|_=>none⟩
section
variable {A:Asg}{ρ:List (Nat×Option Nat)}
theorem asgR_v {j k:Nat}(h:rnOf ρ j=some (some k)):(asgR A ρ).v j=A.v k/\(asgR A ρ).b j=A.b k/\(asgR A ρ).m j=A.m k/\(asgR A ρ).p j=A.p k/\(asgR A ρ).f j=A.f k:=by
 unfold asgR Asg.v;simp only[h];exact⟨tv,tv,tv,tv,tv⟩
theorem asgR_p {j:Nat}(h:rnOf ρ j=some none):(asgR A ρ).p j=none:=by
 unfold asgR;simp only[h]
theorem rnCaps_ok:∀ {l l':List (Nat×Nat)},Sc.rn.rnCaps ρ l=some l'->(l.map fun c=>Value.pointer (some ⟨(asgR A ρ).b c.1,c.2,none⟩))=(l'.map fun c=>Value.pointer (some ⟨A.b c.1,c.2,none⟩))/\∀c∈l,(rnOf ρ c.1).isSome=true
 |[],l',h=>by cases h;exact⟨rfl,fun _ q=>by cases q⟩
 |c::l,l',h=>by
  simp only[Sc.rn.rnCaps] at h
  split at h
  .rename_i k l2 h1 h2
   cases h
   obtain⟨k1,k2⟩:=rnCaps_ok h2
   refine⟨by rw[List.map_cons,List.map_cons,k1,(asgR_v (A:=A) h1).2.1],fun z hz=>?_⟩
   rcases List.mem_cons.1 hz with rfl|hz
   .rw[h1];rfl
   exact k2 z hz
  cases h
theorem asgR_n {j:Nat}(h:rnOf ρ j=some none):(asgR A ρ).v j= .slice none 0 0:=by
 unfold asgR Asg.v;simp only[h]
theorem asgR_m {j:Nat}(h:rnOf ρ j=some none):(asgR A ρ).m j=none:=by
 unfold asgR;simp only[h]
theorem Sc.rn_ok {s t:Sc}(h:s.rn ρ=some t):s.den (asgR A ρ)=t.den A/\s.all (fun j=>(rnOf ρ j).isSome=true)/\s.good (asgR A ρ):=by
 cases s with
 |v x=>cases h;exact⟨rfl,tv,tv⟩
 |b e=>cases h;exact⟨rfl,tv,tv⟩
 |own j=>
  simp only[rn] at h
  split at h
  .rename_i k hk;cases h;exact⟨(asgR_v hk).1,by show(rnOf ρ j).isSome=true;rw[hk];rfl,tv⟩
  .rename_i hk;cases h;exact⟨asgR_n hk,by show(rnOf ρ j).isSome=true;rw[hk];rfl,tv⟩
  cases h
 |mp j=>
  simp only[rn] at h
  split at h
  .rename_i k hk;cases h;exact⟨by simp only[den];rw[(asgR_v hk).2.2.1],by show(rnOf ρ j).isSome=true;rw[hk];rfl,tv⟩
  .rename_i hk;cases h;exact⟨by simp only[den];rw[asgR_m hk],by show(rnOf ρ j).isSome=true;rw[hk];rfl,tv⟩
  cases h
 |ptr j off=>
  simp only[rn] at h
  split at h
  .rename_i k hk;cases h;exact⟨by simp only[den];rw[(asgR_v hk).2.1],by show(rnOf ρ j).isSome=true;rw[hk];rfl,tv⟩
  cases h
 |el _ _ _ _=>cases h
 |clo f caps=>
  obtain⟨caps',h1,rfl⟩:=Option.map_eq_some_iff.1 h
  obtain⟨k1,k2⟩:=rnCaps_ok (A:=A) h1
  exact⟨by simp only[den];rw[k1],k2,tv⟩
 |hd _ _ _=>cases h
 |pd j=>
  simp only[rn] at h
  split at h
  .rename_i k hk;cases h;exact⟨by simp only[den];rw[(asgR_v hk).2.2.2.1],by show(rnOf ρ j).isSome=true;rw[hk];rfl,tv⟩
  .rename_i hk;cases h;exact⟨by simp only[den];rw[asgR_p hk],by show(rnOf ρ j).isSome=true;rw[hk];rfl,tv⟩
  cases h
theorem rnL_ok:∀ {l l':List Sc},rnL ρ l=some l'->l.map (Sc.den (asgR A ρ))=l'.map (Sc.den A)/\∀c∈l,c.all (fun j=>(rnOf ρ j).isSome=true)/\c.good (asgR A ρ)
 |[],l',h=>by cases h;exact⟨rfl,fun _ q=>by cases q⟩
 |c::l,l',h=>by
  simp only[rnL] at h
  split at h
  .rename_i c' l2 h1 h2
   cases h
   obtain⟨k1,k2,k3⟩:=Sc.rn_ok (A:=A) h1
   obtain⟨k4,k5⟩:=rnL_ok h2
   refine⟨by rw[List.map_cons,List.map_cons,k1,k4],fun z hz=>?_⟩
   rcases List.mem_cons.1 hz with rfl|hz
   .exact⟨k2,k3⟩
   exact k5 z hz
  cases h
theorem Sy.rn_ok {s t:Sy}(h:s.rn ρ=some t):s.den (asgR A ρ)=t.den A/\s.all (fun j=>(rnOf ρ j).isSome=true)/\s.good (asgR A ρ):=by
 cases s with
 |one c=>obtain⟨c',h1,rfl⟩:=Option.map_eq_some_iff.1 h;exact Sc.rn_ok h1
 |agg cs=>
  obtain⟨cs',h1,rfl⟩:=Option.map_eq_some_iff.1 h
  obtain⟨k1,k2⟩:=rnL_ok (A:=A) h1
  exact⟨by simp only[den,k1],fun c hc=>(k2 c hc).1,fun c hc=>(k2 c hc).2⟩
 |tup _=>cases h
end
theorem map_eq_mem {α β:Type}{l:List α}{f g:α->β}(h:l.map f=l.map g){x:α}(hx:x∈l):f x=g x:=List.map_inj_left.1 h x hx
theorem nilR_ok {x:R2}(h:some x=nilR x){T:Stab}{w:World}{A:Asg}{ρ:List (Nat×Option Nat)}{j:Nat}(hk:rnOf ρ j=some none):isAr x=false/\(∀b,¬(x.den (asgR A ρ) j).has b)/\(x.den (asgR A ρ) j).ok T w/\x.good (asgR A ρ)/\∀F:Nat->Prop,(∀k,x.famB k=true->(∀i,i<k->F i)->x.all F):=by
 have ev:=asgR_n (A:=A) hk
 cases x with
 |mar k' t l=>simp[nilR] at h
 |iter k' t l lf cnt cur=>simp[nilR] at h
 |map k' t l=>simp[nilR] at h
 |ar t l=>simp[nilR] at h
 |box t cs=>simp[nilR] at h
 |mro k' t l=>
  have key:∀m:List (KEl k'×El t),some (R2.mro k' t m)=nilR (.mro k' t m)->m=[]:=fun m=>by
   cases m with
   |nil=>exact fun _=>rfl
   |cons _ _=>intro q;cases q
  have e:=key l h
  subst e
  refine⟨rfl,(fun b q=>by cases q),?_,tv,fun F k _ _=>trivial⟩
  show Rd T w (.map ((asgR A ρ).m j)) (show MapD k' (El t) from([]:List (KEl k'×El t)))
  rw[asgR_m hk];exact map_rd ⟨none,rfl,rfl⟩
 |ro t l=>
  cases l with
  |nil=>
   refine⟨rfl,(fun b q=>by cases q),?_,tv,fun F k _ _=>trivial⟩
   show Rd T w ((asgR A ρ).v j) ([]:List (El t))
   rw[ev];exact rd_nil
  |cons _ _=>simp[nilR] at h
 |row e t l=>
  cases l with
  |nil=>
   refine⟨rfl,(fun b q=>by have q:((asgR A ρ).v j).ownBlock=some b:=q;rw[ev] at q;cases q),?_,tv,fun F k _ _=>trivial⟩
   show OwnD T w e ((asgR A ρ).v j) ([]:List (El t))
   rw[ev];exact OwnD.nil
  |cons _ _=>simp[nilR] at h
 |ext y=>
  cases y with
  |nest q hh e t ie l=>
   cases hh with
   |some _=>simp[nilR] at h
   |none=>
    cases l with
    |cons _ _=>simp[nilR] at h
    |nil=>
     refine⟨rfl,(fun b z=>?_),?_,tv,fun F k h1 h2=>h2 q (by simpa using Nat.blt_eq▸h1)⟩
     .have z:((asgR A ρ).v j).ownBlock=some b\/∃c,c<([]:List (El t)).length*tsz0 t/\_:=z
      rcases z with z|⟨c,hc,_⟩
      .rw[ev] at z;cases z
      simp at hc
     show NestAt T w ((asgR A ρ).v j) ((asgR A ρ).f q) none e t ie ([]:List (El t))
     rw[ev]
     exact⟨⟨[],HdAt.nil w e _,fun _ q=>(by cases q),fun c x hc=>by simp[flatC] at hc⟩,fun c d b hc=>by simp at hc,fun c b hc=>by simp at hc⟩
  |nmap q k hh t ie m=>simp[nilR] at h
  |pro t x=>
   have key:∀m:Option (El t),some (R2.ext (.pro t m))=nilR (.ext (.pro t m))->m=none:=fun m=>by
    cases m with
    |none=>exact fun _=>rfl
    |some _=>intro q;cases q
   have e:=key x h
   subst e
   refine⟨rfl,(fun b q=>by cases q),?_,tv,fun F k _ _=>trivial⟩
   show Rd T w (.pointer ((asgR A ρ).p j)) (show PtrD (El t) from(none:Option (El t)))
   rw[asgR_p hk];exact ptr_rd rfl
  |par _ _=>simp[nilR] at h
  |prs _ _=>simp[nilR] at h
  |pas _ _=>simp[nilR] at h
  |ent _ _ _ _ _=>simp[nilR] at h
  |dfr _=>simp[nilR] at h
  |vw _ _ _ _ _=>simp[nilR] at h
  |fwd _=>simp[nilR] at h
  |byt _ _=>simp[nilR] at h
def pinB (ρ:List (Nat×Option Nat)):Nat->Bool
 |0=>true
 |k+1=>(match rnOf ρ k with|some (some i)=>Nat.beq i k|_=>false) && pinB ρ k
theorem pinB_ok {ρ:List (Nat×Option Nat)}:∀ {n:Nat},pinB ρ n=true->∀j,j<n->rnOf ρ j=some (some j)
 |n+1,h,j,hj=>by
  unfold pinB at h
  rw[Bool.and_eq_true] at h
  by_cases q:j=n
  .subst q
   have h1:=h.1
   split at h1
   .rename_i i hi;rw[hi,beq_t h1]
   cases h1
  exact pinB_ok h.2 j (by omega)
theorem sub_ok {o:OrgG}{n:Nat}{σ σ':St2}{a:Act}{w:World}(ρ:List (Nat×Option Nat))(h:Okx o n σ a w)(h1:envOkB ρ σ σ')(h2:rsOkB ρ σ σ')(h3:idsOkB ρ σ'=true)(h4:pinB ρ o.kp=true):Okx o n σ' a w:=by
 obtain⟨⟨A,S,H⟩,h0,np⟩:=h
 obtain⟨S1,hS,H1⟩:=H.freeze (frzL_ok (r:=stR σ) (ρ:=ρ) (l:=σ'.rs))
 unfold idsOkB at h3
 simp only[Bool.and_eq_true] at h3
 obtain⟨i1,i2,i3,i4⟩:=h3
 have hlt:∀j,(rnOf ρ j).isSome=true->j<σ'.nx:=fun j hj=>by
  obtain⟨x,hx⟩:=Option.isSome_iff_exists.1 hj
  have:=List.all_eq_true.1 i1 _ (rnOf_mem hx)
  simpa using Nat.blt_eq▸this
 have henv:∀t e,stE σ' t=some e->e.ch=[]/\∃e',stE σ t=some e'/\e'.ch=[]/\e.sy.rn ρ=some e'.sy.nrm:=fun t e he=>by
  have hm:(t,some e)∈σ'.env:=(setE_from he).resolve_left fun q=>by cases q
  have hch:e.ch=[]:=by
   have:=List.all_eq_true.1 i2 _ hm
   simpa using this
  have:=map_eq_mem h1 hm
  simp only[Option.map_some] at this
  cases he':stE σ t with
  |none=>rw[he'] at this;cases this
  |some e'=>
   rw[he'] at this
   simp only[Option.map_some,Option.some.injEq,Prod.mk.injEq] at this
   exact⟨hch,e',rfl,by rw[<-this.1];exact hch,this.2⟩
 have setM_from:∀ {re:List (Nat×Option R2)} {j:Nat} {x:R2},setM (fun _=>none) re j=some x->(j,some x)∈re:=by
  intro re
  induction re with
  |nil=>intro j x h;cases h
  |cons p re ih=>
   intro j x h
   have h:updR (setM (fun _=>none) re) p.1 p.2 j=some x:=h
   by_cases q:p.1=j
   .subst q;rw[updR_same] at h;rw[<-h];exact List.mem_cons_self
   rw[updR_ne q] at h;exact List.mem_cons_of_mem _ (ih h)
 have hinj:∀ {i j k:Nat} {x y:R2},stR σ' i=some x->stR σ' j=some y->rnOf ρ i=some (some k)->rnOf ρ j=some (some k)->i=j:=fun {i j k x y} hx hy hi hj=>by
  have:=List.all_eq_true.1 (List.all_eq_true.1 i4 _ (setM_from hx)) _ (setM_from hy)
  rw[Bool.or_eq_true] at this
  rcases this with q|q
  .exact beq_t q
  rw[hi,hj] at q;simp at q
 have hres:∀j x,stR σ' j=some x->(∃k y,rnOf ρ j=some (some k)/\setM (stR σ) (frzL (stR σ) ρ σ'.rs) k=some y/\x.den (asgR A ρ) j=y.den A k/\(isAr x=true->y=x)/\x.all (fun j=>(rnOf ρ j).isSome=true)/\x.good (asgR A ρ))\/(rnOf ρ j=some none/\some x=nilR x/\x.famB σ'.nx=true):=fun j x hx=>by
  have hm:(j,some x)∈σ'.rs:=setM_from hx
  have hs:=List.all_eq_true.1 i3 _ hm
  have:=map_eq_mem h2 hm
  simp only[Option.bind_some] at this
  dsimp only at hs
  split at this
  .rename_i k hk
   have hk:rnOf ρ j=some (some k):=hk
   have eJ:R2.rnJ ρ j x=x.rn ρ:=by unfold R2.rnJ;rw[hk]
   rw[eJ] at this
   clear eJ
   rw[hk] at hs
   cases hy:setM (stR σ) (frzL (stR σ) ρ σ'.rs) k with
   |none=>
    rw[hy] at this
    simp only[Option.map_none] at this
    rw[this] at hs;cases hs
   |some y=>
    rw[hy] at this
    simp only[Option.map_some] at this
    refine .inl ⟨k,y,hk,hy,?_⟩
    obtain⟨ev,eb,em,ep,ef⟩:=asgR_v (A:=A) hk
    cases x with
    |ro t l=>
     cases y<;>first|(simp[R2.rn,R2.nrm] at this;done)|skip
     have this:R2.ro t l=R2.ro _ _:=Option.some.inj this
     cases this
     exact⟨by simp only[R2.den,ev],fun q=>(by cases q),tv,tv⟩
    |ar t l=>
     cases y<;>first|(simp[R2.rn,R2.nrm] at this;done)|skip
     have this:R2.ar t l=R2.ar _ _:=Option.some.inj this
     cases this
     exact⟨rfl,fun _=>rfl,tv,tv⟩
    |row e t l=>
     cases y<;>first|(simp[R2.rn,R2.nrm] at this;done)|skip
     have this:R2.row e t l=R2.row _ _ _:=Option.some.inj this
     cases this
     exact⟨by simp only[R2.den,ev],fun q=>(by cases q),tv,tv⟩
    |box t cs=>
     obtain⟨cs',hc,hy2⟩:=Option.map_eq_some_iff.1 this
     cases y<;>first|(simp[R2.nrm] at hy2;done)|skip
     rename_i t2 cs2
     simp only[R2.nrm,R2.box.injEq] at hy2
     obtain⟨rfl,rfl⟩:=hy2
     obtain⟨k1,k2⟩:=rnL_ok (A:=A) hc
     refine⟨?_,fun q=>(by cases q),fun c hc=>(k2 c hc).1,fun c hc=>(k2 c hc).2⟩
     simp only[R2.den,eb,k1,List.map_map]
     congr 2
     exact List.map_congr_left fun c _=>Sc.nrm_den A c
    |mro k' t l=>
     cases y<;>first|(simp[R2.rn,R2.nrm] at this;done)|skip
     have this:R2.mro k' t l=R2.mro _ _ _:=Option.some.inj this
     cases this
     exact⟨by simp only[R2.den,em],fun q=>(by cases q),tv,tv⟩
    |mar k' t l=>
     cases y<;>first|(simp[R2.rn,R2.nrm] at this;done)|skip
     have this:R2.mar k' t l=R2.mar _ _ _:=Option.some.inj this
     cases this
     exact⟨rfl,fun _=>rfl,tv,tv⟩
    |map k' t l=>
     cases y<;>first|(simp[R2.rn,R2.nrm] at this;done)|skip
     have this:R2.map k' t l=R2.map _ _ _:=Option.some.inj this
     cases this
     exact⟨by simp only[R2.den,em],fun q=>(by cases q),tv,tv⟩
    |iter k' t l lf cnt cur=>
     cases y<;>first|(simp[R2.rn,R2.nrm] at this;done)|skip
     have this:R2.iter k' t l lf cnt cur=R2.iter _ _ _ _ _ _:=Option.some.inj this
     cases this
     exact⟨by simp only[R2.den,eb],fun q=>(by cases q),tv,tv⟩
    |ext z=>
     cases z with
     |nest q hh e t ie l=>
      simp only[R2.rn] at this
      split at this
      .rename_i q' hq
       cases y<;>first|(simp[R2.nrm] at this;done)|skip
       have this:R2.ext (.nest q' hh e t ie l)=R2.ext _:=Option.some.inj this
       cases this
       exact⟨by simp only[R2.den,X2.den,ev,(asgR_v (A:=A) hq).2.2.2.2],fun q=>(by cases q),by show(rnOf ρ q).isSome=true;rw[hq];rfl,tv⟩
      cases this
     |nmap q kc hh t ie m=>
      simp only[R2.rn] at this
      split at this
      .rename_i q' hq
       cases y<;>first|(simp[R2.nrm] at this;done)|skip
       have this:R2.ext (.nmap q' kc hh t ie m)=R2.ext _:=Option.some.inj this
       cases this
       exact⟨by simp only[R2.den,X2.den,em,(asgR_v (A:=A) hq).2.2.2.2],fun q=>(by cases q),by show(rnOf ρ q).isSome=true;rw[hq];rfl,tv⟩
      cases this
     |pro t l=>
      cases y<;>first|(simp[R2.rn,R2.nrm] at this;done)|skip
      have this:R2.ext (.pro t l)=R2.ext _:=Option.some.inj this
      cases this
      exact⟨by simp only[R2.den,X2.den,ep],fun q=>(by cases q),tv,tv⟩
     |par t l=>
      cases y<;>first|(simp[R2.rn,R2.nrm] at this;done)|skip
      have this:R2.ext (.par t l)=R2.ext _:=Option.some.inj this
      cases this
      exact⟨rfl,fun _=>rfl,tv,tv⟩
     |prs t l=>
      cases y<;>first|(simp[R2.rn,R2.nrm] at this;done)|skip
      have this:R2.ext (.prs t l)=R2.ext _:=Option.some.inj this
      cases this
      exact⟨by simp only[R2.den,X2.den,eb],fun q=>(by cases q),tv,tv⟩
     |pas t l=>
      cases y<;>first|(simp[R2.rn,R2.nrm] at this;done)|skip
      have this:R2.ext (.pas t l)=R2.ext _:=Option.some.inj this
      cases this
      exact⟨rfl,fun _=>rfl,tv,tv⟩
     |ent q kc t m kx=>
      simp only[R2.rn] at this
      split at this
      .rename_i q' hq
       cases y<;>first|(simp[R2.nrm] at this;done)|skip
       have this:R2.ext (.ent q' kc t m kx)=R2.ext _:=Option.some.inj this
       cases this
       exact⟨by simp only[R2.den,X2.den,em,(asgR_v (A:=A) hq).2.2.2.2],fun q=>(by cases q),by show(rnOf ρ q).isSome=true;rw[hq];rfl,tv⟩
      cases this
     |dfr D=>
      cases y<;>first|(simp[R2.rn,R2.nrm] at this;done)|skip
      have this:R2.ext (.dfr D)=R2.ext _:=Option.some.inj this
      cases this
      exact⟨rfl,fun q=>(by cases q),tv,tv⟩
     |byt e t=>
      cases y<;>first|(simp[R2.rn,R2.nrm] at this;done)|skip
      have this:R2.ext (.byt e t)=R2.ext _:=Option.some.inj this
      cases this
      exact⟨by simp only[R2.den,X2.den,ev],fun q=>(by cases q),tv,tv⟩
     |vw _ _ _ _ _=>cases y<;>simp[R2.rn,R2.nrm] at this
     |fwd _=>cases y<;>simp[R2.rn,R2.nrm] at this
  .rename_i hk
   have hk:rnOf ρ j=some none:=hk
   rw[hk] at hs
   have e:R2.rnJ ρ j x=some x:=by unfold R2.rnJ;rw[hk]
   rw[e] at this
   exact .inr ⟨hk,this,hs⟩
  rename_i hk
  have hk:rnOf ρ j=none:=hk
  rw[hk] at hs;cases hs
 refine⟨⟨asgR A ρ,S1,?_⟩,fun t e he=>(henv t e he).1,np⟩
 refine⟨H1.size,H1.nodef,fun t e he=>?_,fun t e he _=>?_,fun j x hj=>?_,?_,fun j x hj=>?_,⟨fun j hj=>hlt j (by rw[pinB_ok h4 j (np j hj)];rfl),fun j hj=>by
  obtain⟨e1,e2,e3⟩:=H1.pin.2 j hj
  obtain⟨q1,q2,q3,q4,q5⟩:=asgR_v (A:=A) (pinB_ok h4 j (np j hj))
  exact⟨e1.trans q1.symm,e2.trans q2.symm,e3.1.trans q5.symm,e3.2.trans q3.symm⟩⟩⟩
 .obtain⟨hch,e',he',hch',hrn⟩:=henv t e he
  have hv:=(H1.env t e' he').1 (by rw[hch'];exact fun l hl=>by cases hl)
  refine⟨fun _=>?_,fun q=>(q (by rw[hch];exact fun l hl=>by cases hl)).elim⟩
  show a.tmps[t]?=some (e.sy.den (asgR A ρ))
  rw[(Sy.rn_ok hrn).1,Sy.nrm_den];exact hv
 .obtain⟨hch,e',he',hch',hrn⟩:=henv t e he
  obtain⟨_,k2,k3⟩:=Sy.rn_ok (A:=A) hrn
  exact⟨Sy.mono hlt k2,k3⟩
 .rcases hres j x hj with⟨k,y,hk,hy,hd,_,ha,hg⟩|⟨hk,hx,hfb⟩
  .exact⟨hlt j (by rw[hk];rfl),R2.mono hlt ha,hg⟩
  obtain⟨_,_,_,q4,q5⟩:=nilR_ok (A:=A) (T:=S1) (w:=w) hx hk
  exact⟨hlt j (by rw[hk];rfl),q5 _ _ hfb fun i hi=>hi,q4⟩
 .have hmem:∀ {j:Nat} {r:Rs},memF (asgR A ρ) (stR σ') j=some r->(∃k x,stR σ' j=some x/\rnOf ρ j=some (some k)/\memF A (setM (stR σ) (frzL (stR σ) ρ σ'.rs)) k=some r)\/((∀b,¬r.has b)/\r.ok S1 w):=fun {j r} hj=>by
   obtain⟨x,hx,rfl⟩:=Option.map_eq_some_iff.1 hj
   rcases hres j x hx with⟨k,y,hk,hy,hd,_,ha,hg⟩|⟨hk,hx2,_⟩
   .exact .inl ⟨k,x,hx,hk,by show(setM (stR σ) _ k).map _=_;rw[hy,hd];rfl⟩
   obtain⟨_,q2,q3,_⟩:=nilR_ok (A:=A) (T:=S1) (w:=w) hx2 hk
   exact .inr ⟨q2,q3⟩
  refine⟨H1.frm.chg,H1.frm.src,H1.frm.inb,fun j r hj=>?_,fun j r b hj hb=>?_,fun i j ri rj b hi hj ei ej=>?_⟩
  .rcases hmem hj with⟨k,_,_,_,hk⟩|⟨_,hk⟩
   .exact H1.frm.ok k r hk
   exact hk
  .rcases hmem hj with⟨k,_,_,_,hk⟩|⟨hk,_⟩
   .exact H1.frm.own k r b hk hb
   exact(hk b hb).elim
  rcases hmem hi with⟨k,x,hx,hk1,hk⟩|⟨hk,_⟩
  .rcases hmem hj with⟨l,y,hy,hl1,hl⟩|⟨hl,_⟩
   .have:=H1.frm.apart k l ri rj b hk hl ei ej
    subst this
    exact hinj hx hy hk1 hl1
   exact(hl b ej).elim
  exact(hk b ei).elim
 rcases hres j _ hj with⟨k,y,hk,hy,hd,hr,ha,hg⟩|⟨hk,hx,_⟩
 .cases hia:isAr x with
  |false=>exact arOk_not hia
  |true=>
   have:=hr hia
   subst this
   obtain⟨ev,eb,em,ep,ef⟩:=asgR_v (A:=A) hk
   have:=H1.args k y hy
   cases y with
   |ar t l=>show Rd _ _ _ _;rw[ev];exact this
   |mar k' t l=>show Rd _ _ _ _;rw[em];exact this
   |ext z=>
    cases z with
    |par t l=>show Rd _ _ _ _;rw[ep];exact this
    |pas t l=>show PtrAt _ _ _ _;rw[eb];exact this
    |_=>cases hia
   |_=>cases hia
 exact arOk_not (nilR_ok (A:=A) (T:=S1) (w:=w) hx hk).1
section
variable {mo:Mode}{P:Program}{o:OrgG}{n:Nat}{σ σ':St2}{a:Act}{w:World}{T:List (Con P)}{B:Code}{Q:Post}{st:List It}
theorem go {pr:Prop}(hn:List (Nat×Bool))(h:Okx o n σ a w)(hp:pr)(k:∀a w,Okx o n (xS (exq P T hn n B st σ)) a w->At mo P T B Q (xI (exq P T hn n B st σ)) a w)
  (h1:(exq P T hn n B st σ).isSome=true:=by delta exq;kernel_rfl) (h2:All (xC (exq P T hn n B st σ))=pr:=by delta exq;kernel_rfl)
  (h3:∀A w,(xH (exq P T hn n B st σ)).map (fun h=>h.lhs A w)=(xH (exq P T hn n B st σ)).map fun h=>h.rhs A w:=by delta exq;intro A w;kernel_rfl):At mo P T B Q st a w:=by
 obtain⟨x,hx⟩:=Option.isSome_iff_exists.1 h1
 rw[hx] at h2 h3 k
 refine⟨(exec_ok (Q:=Q) (fun _ _=>trivial) (fun _=>⟨fun _=>trivial,fun _=>trivial,rfl⟩) hx).2 h.i (all_iff.1 (by show All x.cs;rw[show All x.cs=pr from h2];exact hp)) (fun y hy A w=>?_) fun a w h'=>(k a w (h'.x h.np)).get⟩
 exact map_eq_mem (h3 A w) hy
theorem go0 (hn:List (Nat×Bool))(h:Okx o n σ a w)(k:∀a w,Okx o n (xS (exq P T hn n B st σ)) a w->At mo P T B Q (xI (exq P T hn n B st σ)) a w)
 (h1:(exq P T hn n B st σ).isSome=true:=by delta exq;kernel_rfl) (h2:All (xC (exq P T hn n B st σ))=True:=by delta exq;kernel_rfl)
 (h3:∀A w,(xH (exq P T hn n B st σ)).map (fun h=>h.lhs A w)=(xH (exq P T hn n B st σ)).map fun h=>h.rhs A w:=by delta exq;intro A w;kernel_rfl):At mo P T B Q st a w:=go hn h tv k h1 h2 h3
theorem go_if {p q:Prop}(h:Okx o n σ a w)(k1:p->At mo P T B Q (.run (oP (topC B σ st)++[0])::oR (topC B σ st)) a w)(k2:q->At mo P T B Q (.run (oP (topC B σ st)++[1])::oR (topC B σ st)) a w)
  (hc:(topC B σ st).map (fun x=>(x.1.is true,x.1.is false))=some (p,q):=by kernel_rfl):At mo P T B Q st a w:=by
 obtain⟨⟨A,S,H⟩,h0,np⟩:=h
 obtain⟨⟨e,pt,r⟩,hx,hpq⟩:=Option.map_eq_some_iff.1 hc
 rw[hx] at k1 k2
 simp only[Prod.mk.injEq] at hpq
 obtain⟨rfl,rfl⟩:=hpq
 unfold topC at hx
 split at hx
 .rename_i p' r'
  split at hx
  .rename_i t c1 c2 hcode
   split at hx
   .rename_i e' he
    cases hx
    have hv:=(H.env t _ he).1 (fun l hl=>by cases hl)
    have hv:a.eval (.tmp t)= .bool e.den:=by
     simp only[Act.eval,Array.getD_eq_getD_getElem?]
     rw[show a.tmps[t]?=some (.bool e.den) from hv];rfl
    refine⟨?_⟩
    show(sub B pt).wpM mo P (post mo P B Q r) a w
    rw[hcode]
    refine wpM_cond_split hv (fun z=>?_) (fun z=>?_)
    .have:=k1 ((BE.is_iff e true).2 z)
     have this:(sub B (pt++[0])).wpM mo P (post mo P B Q r) a w:=this.get
     rw[sub_snoc,hcode,sub_cond0] at this
     exact this
    have:=k2 ((BE.is_iff e false).2 z)
    have this:(sub B (pt++[1])).wpM mo P (post mo P B Q r) a w:=this.get
    rw[sub_snoc,hcode,sub_cond1] at this
    exact this
   cases hx
  cases hx
 cases hx
theorem go_loop (X:Type)(σ':X->St2)(I:X->Prop)(μ:X->Nat)(x0:X)(ρ:List (Nat×Option Nat))(h:Okx o n σ a w)(h0:I x0)
  (round:∀(x:X) (a:Act) (w:World) (K:Act->World->Prop),(∀(y:X) (ρ:List (Nat×Option Nat)) {σ1:St2} {a:Act} {w:World},Okx o n σ1 a w->I y->μ y<μ x->
    (h1:envOkB ρ σ1 (σ' y):=by delta envOkB;kernel_rfl)->(h2:rsOkB ρ σ1 (σ' y):=by delta rsOkB;kernel_rfl)->(h3:idsOkB ρ (σ' y)=true:=by kernel_rfl)->(h4:pinB ρ o.kp=true:=by kernel_rfl)->K a w)->
   I x->Okx o n (σ' x) a w->At mo P T B Q (.run (lP (topL B st)++[0]):: .lp K::lR (topL B st)) a w)
  (ht:(topL B st).isSome=true:=by kernel_rfl) (h1:envOkB ρ σ (σ' x0):=by delta envOkB;kernel_rfl) (h2:rsOkB ρ σ (σ' x0):=by delta rsOkB;kernel_rfl) (h3:idsOkB ρ (σ' x0)=true:=by kernel_rfl) (h4:pinB ρ o.kp=true:=by kernel_rfl):At mo P T B Q st a w:=by
 obtain⟨⟨pt,r⟩,hx⟩:=Option.isSome_iff_exists.1 ht
 rw[hx] at round
 unfold topL at hx
 split at hx
 .rename_i p' r'
  split at hx
  .rename_i b hcode
   cases hx
   refine⟨?_⟩
   show(sub B pt).wpM mo P (post mo P B Q r) a w
   rw[hcode]
   refine wpM_loop X (fun x a w=>Okx o n (σ' x) a w/\I x) μ x0 ⟨sub_ok ρ h h1 h2 h3 h4,h0⟩ fun x a w hI=>?_
   have:=(round x a w (fun a w=> ∃y,(Okx o n (σ' y) a w/\I y)/\μ y<μ x) (fun y ρ _ _ _ h hI hμ h1 h2 h3 h4=>⟨y,⟨sub_ok ρ h h1 h2 h3 h4,hI⟩,hμ⟩) hI.2 hI.1).get
   have this:(sub B (pt++[0])).wpM mo P (Exit.then _ (post mo P B Q r)) a w:=this
   rw[sub_snoc,hcode,sub_loop0] at this
   exact this
  cases hx
 cases hx
theorem lp_ {K:Act->World->Prop}(k:K a w)(ht:(match st with| .lp K::_=>some K|_=>none)=some K:=by kernel_rfl):At mo P T B Q st a w:=by
 split at ht
 .cases ht;exact⟨k⟩
 cases ht
theorem lenAt (h:Okx o n σ a w)(j:Nat){t:Ty}{l:List (El t)}(hj:(stR σ j).bind asList=some ⟨t,l⟩:=by kernel_rfl):(l.length:Int)<=9223372036854775807:=by
 obtain⟨A,S,H⟩:=h.ok
 obtain⟨x,hx,hl⟩:=Option.bind_eq_some_iff.1 hj
 obtain⟨p,c,_,h1,h2⟩:=slice_header (rd_slice (asList_rd H hx hl))
 have:maxLen<=9223372036854775807:=by decide
 omega
theorem same (σ':St2)(ρ:List (Nat×Option Nat))(h:Okx o n σ a w)(h1:envOkB ρ σ σ':=by delta envOkB;kernel_rfl)(h2:rsOkB ρ σ σ':=by delta rsOkB;kernel_rfl)(h3:idsOkB ρ σ'=true:=by kernel_rfl)(h4:pinB ρ o.kp=true:=by kernel_rfl):Okx o n σ' a w:=sub_ok ρ h h1 h2 h3 h4
end
def noAr {α:Type 1}:List Sc->Tr α->Tr α
 |[],k=>k
 |c::l,k=>match numOf c with
  |some j=>.res j fun x=>match isAr x with
   |true=>.fail
   |false=>noAr l k
  |none=>noAr l k
def gathB {α:Type 1}(t:Ty)(y:Sy)(k:El t->Tr α):Tr α:=match t,y,k with
 | .ptr t,.one (.ptr j 0),k=>.res j fun x=>match x with
  | .box _ cs=>noAr cs (gath t cs fun d l=>match l with
   |[]=>k (some d:Option (El t))
   |_=>.fail)
  |_=>gathSy (.ptr t) (.one (.ptr j 0)) k
 |t,y,k=>gathSy t y k
def gathV {rs:List Ty}:(ts:List Ty)->List Sy->(Vals ts->Tr (ULift.{1} (Vals rs)))->Tr (ULift.{1} (Vals rs))
 |[],[],k=>k ()
 |t::ts,y::ys,k=>gathB t y fun x=>gathV ts ys fun xs=>k (x,xs)
 |_,_,_=>.fail
def resOne (a:Act):ResultVar->Sem Value
 | .tmp t=>pure (a.tmps.getD t undef)
 | .cell b t=>do loadVar t (<-asAddr (a.tmps.getD b undef))
def resAll (a:Act)(l:List ResultVar)(acc:Array Value):Sem (Array Value):=l.foldlM (fun(acc:Array Value) (x:ResultVar)=>do let v <-resOne a x;pure (acc.push v)) acc
theorem resAll_cons {P:Program}{a:Act}{w:World}{x:ResultVar}{v:Value}(h:(resOne a x).run P w= .ok v w)(l:List ResultVar)(acc:Array Value):(resAll a (x::l) acc).run P w=(resAll a l (acc.push v)).run P w:=by
 unfold resAll
 rw[List.foldlM_cons,Sem.run_bind,Sem.run_bind,h]
 rfl
def resT {α:Type 1}(P:Program):List ResultVar->(List Sy->Tr α)->Tr α
 |[],k=>k []
 | .tmp t::l,k=>.slot t fun e=>match e.ch with
  |[]=>resT P l fun ys=>k (e.sy::ys)
  |_=>.fail
 | .cell t ty::l,k=>.slot t fun e=>match e.ch,e.sy with
  |[],.one (.ptr j 0)=>.res j fun x=>match x with
   | .box _ cs=>match P.underlying ty with
    |some (.struct _)=>guardT ((P.info? ty).isSome && Nat.beq (cs.take (P.cellsOf ty)).length (P.cellsOf ty)) (resT P l fun ys=>k (.agg (cs.take (P.cellsOf ty))::ys))
    |some (.array _ _)=>.fail
    |some _=>match cs with
     |c::_=>resT P l fun ys=>k (.one c::ys)
     |[]=>.fail
    |none=>.fail
   |_=>.fail
  |_,_=>.fail
def topR (B:Code):List It->Bool
 | .run p::_=>isRet (sub B p)
 |[]=>true
 |_=>false
def retV (P:Program)(fn:Func)(rs:List Ty)(σ:St2):Option (ULift.{1} (Vals rs)):=
 (resT P fn.results.toList fun ys=>noAr (ys.flatMap syCells) (gathV rs ys fun x=>.ret ⟨x⟩)).run (stE σ) (stR σ)
section
variable {P:Program}{o:OrgG}{n:Nat}{A:Asg}{S T':Stab}{F:Nat->Prop}{s:Nat->Option E2}{r:Nat->Option R2}{σ:St2}{a:Act}{w:World}{T:List (Con P)}{B:Code}{Q:Post}{st:List It}
theorem noAr_run {α:Type 1}:∀ {l:List Sc} {k:Tr α} {out:α},(noAr l k).run s r=some out->(∀c∈l,∀j,numOf c=some j->∀y,r j=some y->isAr y=false)/\k.run s r=some out
 |[],k,out,h=>⟨fun _ q=>(by cases q),h⟩
 |c::l,k,out,h=>by
  simp only[noAr] at h
  split at h
  .rename_i j hc
   obtain⟨x,hx,h⟩:=res_run h
   split at h
   .cases h
   rename_i ha
   obtain⟨h1,h2⟩:=noAr_run h
   refine⟨fun c' hc' i hi y hy=>?_,h2⟩
   rcases List.mem_cons.1 hc' with rfl|hc'
   .rw[hc] at hi;cases hi;rw[hx] at hy;cases hy;exact ha
   exact h1 c' hc' i hi y hy
  rename_i hc
  obtain⟨h1,h2⟩:=noAr_run h
  refine⟨fun c' hc' i hi y hy=>?_,h2⟩
  rcases List.mem_cons.1 hc' with rfl|hc'
  .rw[hc] at hi;cases hi
  exact h1 c' hc' i hi y hy
theorem gathB_run {α:Type 1}(H:OkF o n A S F s r a w)(hT:∀k,SinceG o w k->T' k){t:Ty}{y:Sy}{k:El t->Tr α}{out:α}(hR:ReadsL T' w A r (syCells y))(h:(gathB t y k).run s r=some out):∃x:El t,Rd T' w (y.den A) x/\(k x).run s r=some out:=by
 unfold gathB at h
 split at h
 .rename_i t j k
  obtain⟨x,hx,h⟩:=res_run h
  split at h
  .rename_i bt cs
   obtain⟨h1,h⟩:=noAr_run h
   obtain⟨d,u,rest,hu,hd,h⟩:=gath_run (T:=T') t _ _ (fun c hc i hi z hz=>(reads_since H h1 c hc i hi z hz).up hT) h
   split at h
   .rw[List.append_nil] at hu
    subst hu
    have hm:memF A r j=some (Rs.of (.box (A.b j) bt (cs.map (Sc.den A)))):=by simp[memF,hx,R2.den]
    have hb:w.heap[A.b j]?=some (.cells (cs.map (Sc.den A)).toArray bt (0,0)):=H.frm.ok j _ hm
    obtain⟨o1,o2,_⟩:=H.frm.own j _ (A.b j) hm rfl
    refine⟨(some d:Option (El t)),ptr_rd (x:=(some d:Option (El t))) (show PtrRd T' w _ (some d:Option (El t)) from⟨A.b j,_,_,_,_,rfl,hT _ (.inr ⟨o1,o2⟩),hb,hd,fun q _=>?_⟩),h⟩
    rw[List.getElem?_toArray]
   cases h
  exact gathSy_run hR h
 exact gathSy_run hR h
theorem gathV_run (H:OkF o n A S F s r a w)(hT:∀k,SinceG o w k->T' k){rs:List Ty}:∀ {ts:List Ty} {ys:List Sy} {k:Vals ts->Tr (ULift.{1} (Vals rs))} {out:ULift.{1} (Vals rs)},ReadsL T' w A r (ys.flatMap syCells)->(gathV ts ys k).run s r=some out->∃x:Vals ts,RetsOk T' w ts (ys.map (Sy.den A)) x/\(k x).run s r=some out
 |[],[],k,out,_,h=>⟨(),tv,h⟩
 |[],_::_,_,_,_,h=>by cases h
 |_::_,[],_,_,_,h=>by cases h
 |t::ts,y::ys,k,out,hR,h=>by
  obtain⟨x,h1,h⟩:=gathB_run H hT (fun c hc=>hR c (by rw[List.flatMap_cons];exact List.mem_append_left _ hc)) h
  obtain⟨xs,h2,h⟩:=gathV_run H hT (ts:=ts) (ys:=ys) (fun c hc=>hR c (by rw[List.flatMap_cons];exact List.mem_append_right _ hc)) h
  exact⟨(x,xs),⟨h1,h2⟩,h⟩
theorem box_load (H:OkF o n A S F s r a w){j:Nat}{bt:TypeId}{cs:List Sc}(hj:r j=some (.box bt cs)){ty:TypeId}{v:Value}
  (hv:(∃fs,P.underlying ty=some (.struct fs)/\(P.info? ty).isSome=true/\(cs.take (P.cellsOf ty)).length=P.cellsOf ty/\v= .agg ((cs.take (P.cellsOf ty)).map (Sc.den A)).toArray)\/
   ∃d c l,P.underlying ty=some d/\(∀fs,d≠.struct fs)/\(∀k e,d≠.array k e)/\cs=c::l/\v=c.den A):(loadVar ty ⟨A.b j,0,none⟩).run P w= .ok v w:=by
 have hm:memF A r j=some (Rs.of (.box (A.b j) bt (cs.map (Sc.den A)))):=by simp[memF,hj,R2.den]
 have hb:w.heap[A.b j]?=some (.cells (cs.map (Sc.den A)).toArray bt (0,0)):=H.frm.ok j _ hm
 have hcell:∀q,w.cell? ⟨A.b j,q,none⟩=(cs.map (Sc.den A))[q]?:=fun q=>by rw[cell_of_row w _ q _ _ _ hb];simp
 have key:(Instr.loadAt ty (.pointer (some ⟨A.b j,0,none⟩))).run P w= .ok v w:=by
  rcases hv with⟨fs,h1,h2,h3,rfl⟩|⟨d,c,l,h1,h2,h3,rfl,rfl⟩
  .refine evOp_len (C:=(· =w)) w rfl h1 ⟨fs,rfl⟩ h2 ⟨?_,fun w' hw' q hq=>?_⟩
   .rw[List.length_take] at h3;simp;exact h3
   subst hw'
   rw[Nat.zero_add,hcell,List.getElem?_toArray,List.map_take,List.getElem?_take,if_pos hq]
  exact load_one w h1 (fun fs q=>h2 fs q) (fun k e q=>h3 k e q) (by rw[hcell];rfl)
 simpa[Instr.loadAt,Instr.sureAddr] using key
theorem resT_run {α:Type 1}(H:OkF o n A S F s r a w):∀ {l:List ResultVar} {k:List Sy->Tr α} {out:α},(resT P l k).run s r=some out->
  ∃ys:List Sy,(∀(acc:Array Value),(resAll a l acc).run P w= .ok (acc++(ys.map (Sy.den A)).toArray) w)/\(k ys).run s r=some out
 |[],k,out,h=>⟨[],fun acc=>by simp[resAll],h⟩
 | .tmp t::l,k,out,h=>by
  simp only[resT,Tr.run] at h
  split at h
  .rename_i e he
   split at h
   .rename_i hch
    obtain⟨ys,h1,h2⟩:=resT_run H h
    have hv:=(H.env t e he).1 (by rw[hch];exact fun l hl=>by cases hl)
    have hv:a.tmps.getD t undef=e.sy.den A:=by
     rw[Array.getD_eq_getD_getElem?,show a.tmps[t]?=some (e.sy.den A) from hv];rfl
    refine⟨e.sy::ys,fun acc=>?_,h2⟩
    rw[resAll_cons (v:=e.sy.den A) (by simp only[resOne,hv,Sem.run_pure]),h1]
    simp
   cases h
  cases h
 | .cell t ty::l,k,out,h=>by
  simp only[resT,Tr.run] at h
  split at h
  .rename_i e he
   split at h
   .rename_i j hch hsy
    have hv:=(H.env t e he).1 (by rw[hch];exact fun l hl=>by cases hl)
    rw[show(⟨t,e.ch,e.sy.den A⟩:Ent).val=e.sy.den A from rfl,hsy] at hv
    have hv:a.tmps.getD t undef= .pointer (some ⟨A.b j,0,none⟩):=by
     rw[Array.getD_eq_getD_getElem?,show a.tmps[t]?=some (.pointer (some ⟨A.b j,0,none⟩)) from hv];rfl
    obtain⟨x,hx,h⟩:=res_run h
    have fin:∀(y:Sy) (ys:List Sy),(loadVar ty ⟨A.b j,0,none⟩).run P w= .ok (y.den A) w->(∀(acc:Array Value),(resAll a l acc).run P w= .ok (acc++(ys.map (Sy.den A)).toArray) w)->
      ∀(acc:Array Value),(resAll a (.cell t ty::l) acc).run P w= .ok (acc++((y::ys).map (Sy.den A)).toArray) w:=by
     intro y ys hl h1 acc
     rw[resAll_cons (v:=y.den A) (by simp only[resOne,Sem.run_bind,hv,asAddr,Sem.run_pure,Result.andThen_ok,hl]),h1]
     simp
    split at h
    .rename_i bt cs
     split at h
     .rename_i fs hu
      obtain⟨hg,h⟩:=guardT_run h
      rw[Bool.and_eq_true] at hg
      obtain⟨ys,h1,h2⟩:=resT_run H h
      exact⟨_,fin _ ys (box_load H hx (.inl ⟨fs,hu,hg.1,beq_t hg.2,rfl⟩)) h1,h2⟩
     .cases h
     .rename_i d hn1 hn2 hu
      split at h
      .rename_i c cs'
       obtain⟨ys,h1,h2⟩:=resT_run H h
       exact⟨_,fin (.one c) ys (box_load H hx (.inr ⟨d,c,cs',hu,fun fs q=>hn1 fs q,fun k e q=>hn2 k e q,rfl,rfl⟩)) h1,h2⟩
      cases h
     cases h
    cases h
   cases h
  cases h
end
def mkSy (p:Bool)(cs:List Sc):Sy:=match p,cs with
 |false,[c]=>.one c
 |_,cs=>.agg cs
def argsSy:(ags:List (Bool×Ty))->ArgV ags->Nat->List Sy×List (Nat×Option R2)
 |[],_,_=>([],[])
 |p::ags,x,b=>let c:=celSc p.1 b (cels p.2 x.1);let r:=argsSy ags x.2 (b+c.2.length);(mkSy (isPair p.2) c.1::r.1,c.2++r.2)
def envOf:Nat->List Sy->List (Nat×Option E2)
 |_,[]=>[]
 |i,y::l=>(i,some ⟨[],y⟩)::envOf (i+1) l
def st0 (ags:List (Bool×Ty))(x:ArgV ags):St2:=⟨envOf 0 (argsSy ags x 0).1,(argsSy ags x 0).2,(argsSy ags x 0).2.length⟩
def oneV:List Value->Value
 |[y]=>y
 |ys=>.tuple ys.toArray
section
variable {mo:Mode}{P:Program}{o:OrgG}{n:Nat}{A:Asg}{S:Stab}{F:Nat->Prop}{s:Nat->Option E2}{r:Nat->Option R2}{σ:St2}{a:Act}{w:World}{T:List (Con P)}{B:Code}{Q:Post}{st:List It}
theorem results_run {fn:Func}{ys:List Value}(h:∀acc:Array Value,(resAll a fn.results.toList acc).run P w= .ok (acc++ys.toArray) w):(results fn a.tmps).run P w= .ok (oneV ys) w:=by
 have e:(fn.results.mapM (fun x=>match x with
   | .tmp t=>pure (a.tmps.getD t undef)
   | .cell b t=>do loadVar t (<-asAddr (a.tmps.getD b undef)):ResultVar->Sem Value)).run P w= .ok ys.toArray w:=by
  rw[Array.mapM_eq_foldlM,<-Array.foldlM_toList]
  have:=h #[]
  simp only[Array.empty_append] at this
  rw[<-this]
  unfold resAll
  congr 2
  all_goals (funext acc x;cases x<;>rfl)
 have hb:(results fn a.tmps).run P w=((fn.results.mapM (fun x=>match x with
   | .tmp t=>pure (a.tmps.getD t undef)
   | .cell b t=>do loadVar t (<-asAddr (a.tmps.getD b undef)):ResultVar->Sem Value)).run P w).andThen (fun vs w=>(pure (if h:vs.size=1 then vs[0] else .tuple vs):Sem Value).run P w):=by
  unfold results
  rw[Sem.run_bind]
  rfl
 rw[hb,e]
 match ys with
 |[]=>rfl
 |[y]=>rfl
 |y::z::l=>simp[oneV]
theorem ret_of:∀ {rs:List Ty} {vs:List Value} {x:Vals rs},RetsOk S w rs vs x->RetOk S w rs (oneV vs) x
 |[],[],_,h=>⟨[],rfl,h⟩
 |[t],[y],_,h=>h.1
 |_::_::_,y::z::l,_,h=>⟨y::z::l,rfl,h⟩
 |[_],_::_::_,_,h=>h.2.elim
 |[],_::_,_,h=>h.elim
 |_::_,[],_,h=>h.elim
 |_::_::_,[_],_,h=>h.2.elim
theorem since_of {o:Orig}{k:Nat}(h:SinceG (OrgG.of o) w k):Since o w k:=h.imp id fun⟨h1,h2⟩=>⟨h1.elim id fun q=>q.elim,h2⟩
theorem below_of {o:Orig}(h:Chg o.w w (OrgG.of o).G):Below o.w.heap.size o.w w:=⟨h.os,h.tape,h.output,h.size,fun k hk=>h.block k hk fun q=>q⟩
theorem out {o:Orig}{fn:Func}{rs:List Ty}{fx:Vals rs}(y:Vals rs)(h:Okx (OrgG.of o) n σ a w)(e:y=fx)(ht:topR B st=true:=by kernel_rfl)(hy:retV P fn rs σ=some ⟨y⟩:=by kernel_rfl):At mo P T B (bodyPost P fn (Giv o fun S v w'=>RetOk S w' rs v fx)) st a w:=by
 obtain⟨⟨A,S,H⟩,h0⟩:=h
 subst e
 obtain⟨ys,h1,hy⟩:=resT_run H hy
 obtain⟨h2,hy⟩:=noAr_run hy
 obtain⟨x,h3,hy⟩:=gathV_run H (T':=Since o w) (fun k hk=>since_of hk) (fun c hc j hj z hz=>(reads_since H h2 c hc j hj z hz).up fun k hk=>since_of hk) hy
 have hx:x=y:=by have:=Option.some.inj hy;exact congrArg ULift.down this
 subst hx
 have hres:=results_run (ys:=ys.map (Sy.den A)) h1
 unfold topR at ht
 split at ht
 .rename_i p r
  refine⟨?_⟩
  show(sub B p).wpM mo P (post mo P B _ r) a w
  have hc:sub B p= .ret:=by
   cases hc:sub B p<;>rw[hc] at ht<;>first|rfl|cases ht
  rw[hc]
  refine wpM_ret (post_ret ?_)
  refine bodyPost_ret hres H.nodef ⟨_,rfl,?_,below_of H.frm.chg⟩
  exact ret_of h3
 .exact⟨bodyPost_end hres H.nodef ⟨_,rfl,ret_of h3,below_of H.frm.chg⟩⟩
 cases ht
theorem celSc_one {k:Bool}{t:Ty}(h:isPair t=false)(b:Nat)(x:El t):∃c,(celSc k b (cels t x)).1=[c]:=by
 cases t<;>first|exact⟨_,rfl⟩|cases h
theorem argsSy_ok:∀(ags:List (Bool×Ty)) (x:ArgV ags) (vs:List Value) (b:Nat) (A:Asg) (F:Nat->Prop),ArgOk o.S o.old o.w ags vs x->(∀j,b<=j->¬F j)->
  ∃A',Agr F A A'/\(argsSy ags x b).1.map (Sy.den A')=vs/\RoOk o o.S o.w A' b (argsSy ags x b).2/\(∀p∈(argsSy ags x b).2,p.1<b+(argsSy ags x b).2.length)/\∀y∈(argsSy ags x b).1,y.all (FU F (argsSy ags x b).2)/\y.good A'
 |[],_,[],b,A,F,_,_=>⟨A,Agr.refl _ _,rfl,tv,fun _ h=>(by cases h),fun _ h=>(by cases h)⟩
 |[],_,_::_,_,_,_,h,_=>h.elim
 |_::_,_,[],_,_,_,h,_=>by cases h
 |(k,t)::ags,x,v::vs,b,A,F,h,hF=>by
  have hcells:∃cs,KOk o o.S o.w k cs (cels t x.1)/\v=(if isPair t then .agg cs.toArray else cs.headD undef):=by
   cases k with
   |true=>exact rd_cells (S:=o.S) (w:=o.w) h.1
   |false=>exact rd_cells (S:=o.old) (w:=o.w) h.1
  obtain⟨cs,hcs,hv⟩:=hcells
  have hkeys:=celSc_keys (k:=k) (cels t x.1) b
  obtain⟨A1,h1,h2,h3,h4⟩:=celSc_ok (B:=b+(celSc k b (cels t x.1)).2.length) _ cs b A F hcs (fun j hj _=>hF j hj) fun p hp=>(hkeys p hp).2
  obtain⟨A2,k1,k2,k3,k5,k4⟩:=argsSy_ok ags x.2 vs (b+(celSc k b (cels t x.1)).2.length) A1 (FU F (celSc k b (cels t x.1)).2) h.2 fun j hj hn=>by
   rcases hn with hn|⟨z,hz⟩
   .exact hF j (by omega) hn
   have:=hkeys _ hz
   omega
  have hall:∀c∈(celSc k b (cels t x.1)).1,c.all (FU F (celSc k b (cels t x.1)).2):=fun c hc=>(h4 c hc).1
  have hfu:∀j,FU F (celSc k b (cels t x.1)).2 j->FU F (argsSy ((k,t)::ags) x b).2 j:=fun j hj=>by
   rcases hj with hj|⟨x,hx⟩
   .exact .inl hj
   exact .inr ⟨x,List.mem_append_left _ hx⟩
  have hcase:(isPair t=true/\mkSy (isPair t) (celSc k b (cels t x.1)).1= .agg (celSc k b (cels t x.1)).1)\/∃c,isPair t=false/\(celSc k b (cels t x.1)).1=[c]/\mkSy (isPair t) (celSc k b (cels t x.1)).1= .one c:=by
   cases hp:isPair t with
   |true=>exact .inl ⟨rfl,rfl⟩
   |false=>
    obtain⟨c,hc⟩:=celSc_one hp b x.1 (k:=k)
    exact .inr ⟨c,rfl,hc,by rw[hc];rfl⟩
  refine⟨A2,h1.trans (k1.mono fun j hj=>.inl hj),?_,?_,fun p hp=>?_,fun y hy=>?_⟩
  .show Sy.den A2 (mkSy (isPair t) (celSc k b (cels t x.1)).1)::(argsSy ags x.2 _).1.map (Sy.den A2)=_
   rw[k2]
   congr 1
   rcases hcase with⟨hp,e⟩|⟨c,hp,hc,e⟩
   .rw[e,hv,hp]
    simp only[Sy.den]
    rw[<-scs_congr k1 hall,h2];rfl
   rw[e,hv,hp]
   rw[hc] at h2 hall
   simp only[Sy.den]
   rw[<-Sc.congr k1 (hall c (List.mem_singleton.2 rfl))]
   have:[Sc.den A1 c]=cs:=h2
   rw[<-this];rfl
  .exact RoOk.append (RoOk.agree k1 (fun p hp=>.inr ⟨p.2,hp⟩) h3) (fun p hp=>(hkeys p hp).2) (by omega) k3
  .show p.1<b+((celSc k b (cels t x.1)).2++(argsSy ags x.2 (b+(celSc k b (cels t x.1)).2.length)).2).length
   rw[List.length_append]
   have hp:p∈(celSc k b (cels t x.1)).2++(argsSy ags x.2 (b+(celSc k b (cels t x.1)).2.length)).2:=hp
   rcases List.mem_append.1 hp with hp|hp
   .have:=(hkeys p hp).2;omega
   have:=k5 p hp;omega
  have hy:y=mkSy (isPair t) (celSc k b (cels t x.1)).1\/y∈(argsSy ags x.2 (b+(celSc k b (cels t x.1)).2.length)).1:=List.mem_cons.1 hy
  rcases hy with rfl|hy
  .rcases hcase with⟨hp,e⟩|⟨c,hp,hc,e⟩
   .rw[e];exact⟨fun c hc=>Sc.mono hfu (hall c hc),fun c hc=>Sc.good_congr k1 (hall c hc) (h4 c hc).2⟩
   rw[e]
   have hm:c∈(celSc k b (cels t x.1)).1:=by rw[hc];exact List.mem_singleton.2 rfl
   exact⟨Sc.mono hfu (hall c hm),Sc.good_congr k1 (hall c hm) (h4 c hm).2⟩
  refine⟨Sy.mono (fun j hj=>?_) (k4 y hy).1,(k4 y hy).2⟩
  rcases hj with hj|⟨z,hz⟩
  .exact hfu j hj
  exact .inr ⟨z,List.mem_append_right _ hz⟩
theorem envOf_get:∀ {l:List Sy} {i t:Nat} {e:E2},setE (fun _=>none) (envOf i l) t=some e->i<=t/\∃y,l[t-i]?=some y/\e=⟨[],y⟩
 |[],i,t,e,h=>by cases h
 |y::l,i,t,e,h=>by
  have h:updE (setE (fun _=>none) (envOf (i+1) l)) i (some ⟨[],y⟩) t=some e:=h
  by_cases q:i=t
  .subst q;rw[updE_same] at h;cases h;exact⟨Nat.le_refl _,y,by rw[Nat.sub_self];rfl,rfl⟩
  rw[updE_ne q] at h
  obtain⟨h1,z,h2,h3⟩:=envOf_get h
  exact⟨by omega,z,by rw[show t-i=t-(i+1)+1 by omega];exact h2,h3⟩
theorem argOk_len:∀ {ags:List (Bool×Ty)} {vs:List Value} {x:ArgV ags} {S T:Stab},ArgOk S T w ags vs x->vs.length=ags.length
 |[],[],_,_,_,_=>rfl
 |[],_::_,_,_,_,h=>h.elim
 |_::_,[],_,_,_,h=>by cases h
 |(k,t)::ags,v::vs,x,S,T,h=>by simp[argOk_len h.2]
theorem argOk_up {S T T':Stab}(hT:∀k,T k->T' k):∀ {ags:List (Bool×Ty)} {vs:List Value} {x:ArgV ags},ArgOk S T w ags vs x->ArgOk S T' w ags vs x
 |[],[],_,_=>trivial
 |[],_::_,_,h=>h.elim
 |_::_,[],_,h=>by cases h
 |(true,t)::ags,v::vs,x,h=>⟨h.1,argOk_up hT h.2⟩
 |(false,t)::ags,v::vs,x,h=>⟨Rd.up hT h.1,argOk_up hT h.2⟩
theorem con_of {f:FuncId}(fn:Func)(n:Nat)(T:List (Con P)){ags:List (Bool×Ty)}{rs:List Ty}{dom:ArgV ags->Prop}{fx:ArgV ags->Vals rs}(hf:P.funcs[f]?=some fn)
  (k:∀(o:Orig) (x:ArgV ags),dom x->∀a w,Okx (OrgG.of o) n (st0 ags x) a w->At pl P T (fn.body.getD .skip) (bodyPost P fn (Giv o fun S v w'=>RetOk S w' rs v (fx x))) [.run []] a w)
  (hb:fn.body.isSome=true:=by kernel_rfl) (hn:fn.ntmps=n:=by kernel_rfl) (hl:decide (ags.length<=n)=true:=by kernel_rfl):ConOk P f ags rs dom fx:=by
 intro o vs x hx hdom
 have hlen:=argOk_len hx
 refine enter fn n hf (fun a ha=>?_) hb hn (by rw[hlen];exact hl)
 obtain⟨A,h1,h2,h3,h5,h4⟩:=argsSy_ok (o:=OrgG.of o) ags x vs 0 asg0 (fun _=>False) (argOk_up (fun k hk=>⟨hk,fun q=>q⟩) hx) fun _ _ q=>q
 have hslot:∀t e,stE (st0 ags x) t=some e->e.ch=[]/\∃y,(argsSy ags x 0).1[t]?=some y/\e=⟨[],y⟩:=fun t e he=>by
  obtain⟨_,y,q1,q2⟩:=envOf_get he
  exact⟨by rw[q2],y,by simpa using q1,q2⟩
 have H0:OkF (OrgG.of o) n A o.S (fun _=>False) (fun _=>none) (fun _=>none) a o.w:=⟨ha.1,ha.2.1,fun _ _ q=>(by cases q),fun _ _ q=>(by cases q),fun _ _ q=>(by cases q),Frm.start (OrgG.of o),fun _ _ q=>(by cases q),⟨fun _ q=>q.elim,fun _ q=>q.elim⟩⟩
 have H1:=H0.ro (Agr.refl _ _) h3
 have hle:∀j,FU (fun _=>False) (argsSy ags x 0).2 j->j<(argsSy ags x 0).2.length:=fun j hj=>by
  rcases hj with hj|⟨z,hz⟩
  .exact hj.elim
  have:=h5 _ hz;simpa using this
 have hfin:Okx (OrgG.of o) n (st0 ags x) a o.w:=by
  refine⟨⟨A,o.S,H1.size,H1.nodef,fun t e he=>?_,fun t e he _=>?_,fun j y hj=>?_,H1.frm,H1.args,⟨fun _ q=>q.elim,fun _ q=>q.elim⟩⟩,fun t e he=>(hslot t e he).1,fun _ q=>q.elim⟩
  .obtain⟨_,y,q1,rfl⟩:=hslot t e he
   have hv:vs[t]?=some (y.den A):=by rw[<-h2,List.getElem?_map,q1];rfl
   have htl:=(List.getElem?_eq_some_iff.1 hv).1
   refine ha.2.2 ⟨t,[],y.den A⟩ (List.mem_map.2 ⟨(t,y.den A),?_,rfl⟩)
   refine List.mem_iff_getElem?.2 ⟨t,?_⟩
   rw[List.getElem?_zip_eq_some]
   exact⟨by simp[htl],hv⟩
  .obtain⟨_,y,q1,rfl⟩:=hslot t e he
   have:=h4 y (List.mem_of_getElem? q1)
   exact⟨Sy.mono hle this.1,this.2⟩
  have:=H1.rall j y hj
  exact⟨hle j this.1,R2.mono hle this.2.1,this.2.2⟩
 have:=k o x hdom a o.w hfin
 have this:(sub (fn.body.getD .skip) []).wpM pl P (post pl P (fn.body.getD .skip) (bodyPost P fn (Giv o fun S v w'=>RetOk S w' rs v (fx x))) []) a o.w:=this.get
 have this:=wpM_pl.1 this
 exact this
end
abbrev lkT:Ty:=.pair .int (.pair .int .int)
abbrev edT:Ty:=.pair .int .int
abbrev grT:Ty:=.pair .int (.list edT)
abbrev ptT:Ty:=.pair (.list .int) (.list .int)
abbrev eo (j:Nat):Option E2:=some ⟨[],.one (.own j)⟩
abbrev em (j:Nat):Option E2:=some ⟨[],.one (.mp j)⟩
abbrev ep (j:Nat):Option E2:=some ⟨[],.one (.ptr j 0)⟩
abbrev en (n:Int):Option E2:=some ⟨[],.one (.v (.int .i64 n))⟩
theorem ct {p:Prop}(h:p:=by first|omega|(simp only[List.length_append,List.length_cons,List.length_nil,List.length_replicate,List.length_drop,List.length_take,List.length_set];omega)):p:=h
theorem bx {i:Int}{n:Nat}(h:0<=i/\i<(n:Int):=by first|omega|(simp only[List.length_append,List.length_cons,List.length_nil,List.length_replicate,List.length_drop,List.length_take,List.length_set];omega)):Bnd i n:=h
theorem ln {m n:Nat}(h:m<=n:=by first|omega|(simp only[List.length_append,List.length_cons,List.length_nil,List.length_replicate,List.length_drop,List.length_take,List.length_set];omega)):m<=n:=h
theorem wk {x:Int}(h: -9223372036854775808<=x/\x<=9223372036854775807:=by omega):kwf .int x:=h
theorem lt_ {m n:Nat}(h:m<n:=by first|omega|(simp only[List.length_append,List.length_cons,List.length_nil,List.length_replicate,List.length_drop,List.length_take,List.length_set];omega)):m<n:=h
def ir (n:Nat):List (Nat×Option Nat):=(List.range n).map fun i=>(i,some i)
def rk (l:List Nat):List (Nat×Option Nat):=(List.range l.length).zip (l.map some)
abbrev I_ (x:Int):Int:=x
abbrev J_ (x:List Int):List Int:=x
abbrev K_ (x:List (List Int)):List (List Int):=x
abbrev E_ (x:List (Int×Int)):List (Int×Int):=x
section
variable {mo:Mode}{P:Program}{o:OrgG}{n:Nat}{σ:St2}{a:Act}{w:World}{T:List (Con P)}{B:Code}{Q:Post}{st:List It}
theorem lnI (h:Okx o n σ a w)(j:Nat)(l:List Int)(hj:(stR σ j).bind asList=some ⟨.int,l⟩:=by kernel_rfl):(l.length:Int)<=9223372036854775807:=lenAt h j hj
theorem lnE (h:Okx o n σ a w)(j:Nat)(l:List (Int×Int))(hj:(stR σ j).bind asList=some ⟨edT,l⟩:=by kernel_rfl):(l.length:Int)<=9223372036854775807:=lenAt h j hj
theorem lnL (h:Okx o n σ a w)(j:Nat)(l:List (List Int))(hj:(stR σ j).bind asList=some ⟨.list .int,l⟩:=by kernel_rfl):(l.length:Int)<=9223372036854775807:=lenAt h j hj
theorem go_loop2 (X0:Type)(X1:Type)(σ':X0->X1->St2)(I:X0->X1->Prop)(μ:X0->X1->Nat)(x0:X0)(x1:X1)(ρ:List (Nat×Option Nat))(h:Okx o n σ a w)(h0:I x0 x1)
  (round:∀(x0:X0) (x1:X1) (a:Act) (w:World) (K:Act->World->Prop),(∀(y0:X0) (y1:X1) (ρ:List (Nat×Option Nat)) {σ1:St2} {a:Act} {w:World},Okx o n σ1 a w->I y0 y1->μ y0 y1<μ x0 x1->
    (h1:envOkB ρ σ1 (σ' y0 y1):=by delta envOkB;kernel_rfl)->(h2:rsOkB ρ σ1 (σ' y0 y1):=by delta rsOkB;kernel_rfl)->(h3:idsOkB ρ (σ' y0 y1)=true:=by kernel_rfl)->(h4:pinB ρ o.kp=true:=by kernel_rfl)->K a w)->
   I x0 x1->Okx o n (σ' x0 x1) a w->At mo P T B Q (.run (lP (topL B st)++[0]):: .lp K::lR (topL B st)) a w)
  (ht:(topL B st).isSome=true:=by kernel_rfl) (h1:envOkB ρ σ (σ' x0 x1):=by delta envOkB;kernel_rfl) (h2:rsOkB ρ σ (σ' x0 x1):=by delta rsOkB;kernel_rfl) (h3:idsOkB ρ (σ' x0 x1)=true:=by kernel_rfl) (h4:pinB ρ o.kp=true:=by kernel_rfl):At mo P T B Q st a w:=
 go_loop (X0×X1) (fun z=>σ' z.1 z.2) (fun z=>I z.1 z.2) (fun z=>μ z.1 z.2) (x0,x1) ρ h h0 (fun z a w K hK=>round z.1 z.2 a w K fun y0 y1 ρ _ _ _ k1 k2 k3 k4 k5 k6 k7=>hK (y0,y1) ρ k1 k2 k3 k4 k5 k6 k7) ht h1 h2 h3 h4
theorem go_loop3 (X0:Type)(X1:Type)(X2:Type)(σ':X0->X1->X2->St2)(I:X0->X1->X2->Prop)(μ:X0->X1->X2->Nat)(x0:X0)(x1:X1)(x2:X2)(ρ:List (Nat×Option Nat))(h:Okx o n σ a w)(h0:I x0 x1 x2)
  (round:∀(x0:X0) (x1:X1) (x2:X2) (a:Act) (w:World) (K:Act->World->Prop),(∀(y0:X0) (y1:X1) (y2:X2) (ρ:List (Nat×Option Nat)) {σ1:St2} {a:Act} {w:World},Okx o n σ1 a w->I y0 y1 y2->μ y0 y1 y2<μ x0 x1 x2->
    (h1:envOkB ρ σ1 (σ' y0 y1 y2):=by delta envOkB;kernel_rfl)->(h2:rsOkB ρ σ1 (σ' y0 y1 y2):=by delta rsOkB;kernel_rfl)->(h3:idsOkB ρ (σ' y0 y1 y2)=true:=by kernel_rfl)->(h4:pinB ρ o.kp=true:=by kernel_rfl)->K a w)->
   I x0 x1 x2->Okx o n (σ' x0 x1 x2) a w->At mo P T B Q (.run (lP (topL B st)++[0]):: .lp K::lR (topL B st)) a w)
  (ht:(topL B st).isSome=true:=by kernel_rfl) (h1:envOkB ρ σ (σ' x0 x1 x2):=by delta envOkB;kernel_rfl) (h2:rsOkB ρ σ (σ' x0 x1 x2):=by delta rsOkB;kernel_rfl) (h3:idsOkB ρ (σ' x0 x1 x2)=true:=by kernel_rfl) (h4:pinB ρ o.kp=true:=by kernel_rfl):At mo P T B Q st a w:=
 go_loop (X0×X1×X2) (fun z=>σ' z.1 z.2.1 z.2.2) (fun z=>I z.1 z.2.1 z.2.2) (fun z=>μ z.1 z.2.1 z.2.2) (x0,x1,x2) ρ h h0 (fun z a w K hK=>round z.1 z.2.1 z.2.2 a w K fun y0 y1 y2 ρ _ _ _ k1 k2 k3 k4 k5 k6 k7=>hK (y0,y1,y2) ρ k1 k2 k3 k4 k5 k6 k7) ht h1 h2 h3 h4
theorem go_loop4 (X0:Type)(X1:Type)(X2:Type)(X3:Type)(σ':X0->X1->X2->X3->St2)(I:X0->X1->X2->X3->Prop)(μ:X0->X1->X2->X3->Nat)(x0:X0)(x1:X1)(x2:X2)(x3:X3)(ρ:List (Nat×Option Nat))(h:Okx o n σ a w)(h0:I x0 x1 x2 x3)
  (round:∀(x0:X0) (x1:X1) (x2:X2) (x3:X3) (a:Act) (w:World) (K:Act->World->Prop),(∀(y0:X0) (y1:X1) (y2:X2) (y3:X3) (ρ:List (Nat×Option Nat)) {σ1:St2} {a:Act} {w:World},Okx o n σ1 a w->I y0 y1 y2 y3->μ y0 y1 y2 y3<μ x0 x1 x2 x3->
    (h1:envOkB ρ σ1 (σ' y0 y1 y2 y3):=by delta envOkB;kernel_rfl)->(h2:rsOkB ρ σ1 (σ' y0 y1 y2 y3):=by delta rsOkB;kernel_rfl)->(h3:idsOkB ρ (σ' y0 y1 y2 y3)=true:=by kernel_rfl)->(h4:pinB ρ o.kp=true:=by kernel_rfl)->K a w)->
   I x0 x1 x2 x3->Okx o n (σ' x0 x1 x2 x3) a w->At mo P T B Q (.run (lP (topL B st)++[0]):: .lp K::lR (topL B st)) a w)
  (ht:(topL B st).isSome=true:=by kernel_rfl) (h1:envOkB ρ σ (σ' x0 x1 x2 x3):=by delta envOkB;kernel_rfl) (h2:rsOkB ρ σ (σ' x0 x1 x2 x3):=by delta rsOkB;kernel_rfl) (h3:idsOkB ρ (σ' x0 x1 x2 x3)=true:=by kernel_rfl) (h4:pinB ρ o.kp=true:=by kernel_rfl):At mo P T B Q st a w:=
 go_loop (X0×X1×X2×X3) (fun z=>σ' z.1 z.2.1 z.2.2.1 z.2.2.2) (fun z=>I z.1 z.2.1 z.2.2.1 z.2.2.2) (fun z=>μ z.1 z.2.1 z.2.2.1 z.2.2.2) (x0,x1,x2,x3) ρ h h0 (fun z a w K hK=>round z.1 z.2.1 z.2.2.1 z.2.2.2 a w K fun y0 y1 y2 y3 ρ _ _ _ k1 k2 k3 k4 k5 k6 k7=>hK (y0,y1,y2,y3) ρ k1 k2 k3 k4 k5 k6 k7) ht h1 h2 h3 h4
end
def numsSc:Sc->List Nat
 | .own j=>[j]
 | .mp j=>[j]
 | .ptr j _=>[j]
 | .pd j=>[j]
 | .el j _ _ _=>[j]
 | .clo _ caps=>caps.map (·.1)
 | .hd p _ _=>[p]
 |_=>[]
def reachT {α:Type 1}:Nat->List Nat->List (Nat×Option R2)->(List (Nat×Option R2)->Tr α)->Tr α
 |0,_,_,_=>.fail
 |_+1,[],acc,k=>k acc
 |f+1,j::l,acc,k=>match acc.any fun p=>Nat.beq p.1 j with
  |true=>reachT f l acc k
  |false=>.res j fun x=>reachT f ((match x with| .box _ cs=>cs.flatMap numsSc|_=>[])++l) ((j,some x)::acc) k
def partOf:Sy->Bool×List Sc
 | .one c=>(false,[c])
 | .agg cs=>(true,cs)
 | .tup _=>(false,[])
def oneSy:List Sy->Sy
 |[y]=>y
 |ys=>.tup (ys.map partOf)
def inlT (P:Program)(T:List (Con P))(hn:List (Nat×Bool))(fn:Func)(b:Nat)(caps:List (Nat×Nat))(ys:List Sy):Tr Out:=
 reachT 300 ((ys.flatMap syCells).flatMap numsSc++caps.map (·.1)) [] fun rs0=>
  match exec P T 64 false hn fn.ntmps (fn.body.getD .skip) 3000 [.run []] ⟨envOf 0 (ys++caps.map fun c=>.one (.ptr c.1 c.2)),rs0,b⟩ [] [] with
  |some x=>match topR (fn.body.getD .skip) x.st,(resT P fn.results.toList fun ys=>.ret (ULift.up.{1} ys)).run (stE x.σ) (stR x.σ) with
   |true,some zs=>guardT (fn.body.isSome && (decide ((ys++caps.map fun c=>Sy.one (.ptr c.1 c.2)).length<=fn.ntmps) && (zs.down.all fun y=>match y with| .tup _=>false|_=>true))) (.ret ⟨x.cs,x.hs,oneSy zs.down,(x.σ.nx,none)::x.σ.rs⟩)
   |_,_=>.fail
  |none=>.fail
section
variable {P:Program}{o:OrgG}{n:Nat}{A A':Asg}{S S':Stab}{F:Nat->Prop}{s:Nat->Option E2}{r:Nat->Option R2}{a:Act}{w w':World}{T:List (Con P)}
theorem reachT_run {α:Type 1}:∀ {f:Nat} {l:List Nat} {acc:List (Nat×Option R2)} {k:List (Nat×Option R2)->Tr α} {out:α},(∀p∈acc,r p.1=p.2)->(reachT f l acc k).run s r=some out->∃rs,(∀p∈rs,r p.1=p.2)/\(k rs).run s r=some out
 |0,_,_,_,_,_,h=>by cases h
 |_+1,[],acc,k,out,ha,h=>⟨acc,ha,h⟩
 |f+1,j::l,acc,k,out,ha,h=>by
  simp only[reachT] at h
  split at h
  .exact reachT_run ha h
  obtain⟨x,hx,h2⟩:=res_run h
  refine reachT_run (fun p hp=>?_) h2
  rcases List.mem_cons.1 hp with rfl|hp
  .exact hx
  exact ha p hp
theorem setM_self {rs:List (Nat×Option R2)}(h:∀p∈rs,r p.1=p.2):setM r rs=r:=by
 funext j
 induction rs with
 |nil=>rfl
 |cons p rs ih=>
  show updR (setM r rs) p.1 p.2 j=_
  by_cases q:p.1=j
  .subst q;rw[updR_same];exact(h p List.mem_cons_self).symm
  rw[updR_ne q];exact ih fun p hp=>h p (List.mem_cons_of_mem _ hp)
theorem Frm.pins {f:Nat->Option Rs}(h:Frm o w S f)(F:Nat->Prop)(A:Asg):Frm {o with pF:=F,pA:=A} w S f:=⟨h.chg,h.src,h.inb,h.ok,h.own,h.apart⟩
theorem Frm.unpin {f:Nat->Option Rs}{F:Nat->Prop}{A:Asg}(h:Frm {o with pF:=F,pA:=A} w S f):Frm o w S f:=⟨h.chg,h.src,h.inb,h.ok,h.own,h.apart⟩
theorem ArOk.pins {F:Nat->Prop}{B:Asg}{j:Nat}{x:R2}(h:ArOk o A j x):ArOk {o with pF:=F,pA:=B} A j x:=by
 cases x with
 |ext z=>cases z<;>exact h
 |_=>exact h
theorem ArOk.unpin {F:Nat->Prop}{B:Asg}{j:Nat}{x:R2}(h:ArOk {o with pF:=F,pA:=B} A j x):ArOk o A j x:=by
 cases x with
 |ext z=>cases z<;>exact h
 |_=>exact h
theorem resT_all {α:Type 1}(H:OkF o n A S F s r a w):∀ {l:List ResultVar} {k:List Sy->Tr α} {out:α},(resT P l k).run s r=some out->
  ∃ys:List Sy,(∀(acc:Array Value),(resAll a l acc).run P w= .ok (acc++(ys.map (Sy.den A)).toArray) w)/\(∀y∈ys,y.all F/\y.good A)/\(k ys).run s r=some out
 |[],k,out,h=>⟨[],fun acc=>by simp[resAll],fun _ q=>(by cases q),h⟩
 | .tmp t::l,k,out,h=>by
  simp only[resT,Tr.run] at h
  split at h
  .rename_i e he
   split at h
   .rename_i hch
    obtain⟨ys,h1,h3,h2⟩:=resT_all H h
    have hv:=(H.env t e he).1 (by rw[hch];exact fun l hl=>by cases hl)
    have hv:a.tmps.getD t undef=e.sy.den A:=by
     rw[Array.getD_eq_getD_getElem?,show a.tmps[t]?=some (e.sy.den A) from hv];rfl
    refine⟨e.sy::ys,fun acc=>?_,fun y hy=>?_,h2⟩
    .rw[resAll_cons (v:=e.sy.den A) (by simp only[resOne,hv,Sem.run_pure]),h1]
     simp
    rcases List.mem_cons.1 hy with rfl|hy
    .exact H.sall t e he (by rw[hch];exact fun l hl=>by cases hl)
    exact h3 y hy
   cases h
  cases h
 | .cell t ty::l,k,out,h=>by
  simp only[resT,Tr.run] at h
  split at h
  .rename_i e he
   split at h
   .rename_i j hch hsy
    have hv:=(H.env t e he).1 (by rw[hch];exact fun l hl=>by cases hl)
    rw[show(⟨t,e.ch,e.sy.den A⟩:Ent).val=e.sy.den A from rfl,hsy] at hv
    have hv:a.tmps.getD t undef= .pointer (some ⟨A.b j,0,none⟩):=by
     rw[Array.getD_eq_getD_getElem?,show a.tmps[t]?=some (.pointer (some ⟨A.b j,0,none⟩)) from hv];rfl
    obtain⟨x,hx,h⟩:=res_run h
    have fin:∀(y:Sy) (ys:List Sy),(loadVar ty ⟨A.b j,0,none⟩).run P w= .ok (y.den A) w->(∀(acc:Array Value),(resAll a l acc).run P w= .ok (acc++(ys.map (Sy.den A)).toArray) w)->
      ∀(acc:Array Value),(resAll a (.cell t ty::l) acc).run P w= .ok (acc++((y::ys).map (Sy.den A)).toArray) w:=by
     intro y ys hl h1 acc
     rw[resAll_cons (v:=y.den A) (by simp only[resOne,Sem.run_bind,hv,asAddr,Sem.run_pure,Result.andThen_ok,hl]),h1]
     simp
    split at h
    .rename_i bt cs
     have hall:=(H.rall j _ hx).2
     split at h
     .rename_i fs hu
      obtain⟨hg,h⟩:=guardT_run h
      rw[Bool.and_eq_true] at hg
      obtain⟨ys,h1,h3,h2⟩:=resT_all H h
      refine⟨_,fin _ ys (box_load H hx (.inl ⟨fs,hu,hg.1,beq_t hg.2,rfl⟩)) h1,fun y hy=>?_,h2⟩
      rcases List.mem_cons.1 hy with rfl|hy
      .exact⟨fun c hc=>hall.1 c (List.mem_of_mem_take hc),fun c hc=>hall.2 c (List.mem_of_mem_take hc)⟩
      exact h3 y hy
     .cases h
     .rename_i d hn1 hn2 hu
      split at h
      .rename_i c cs'
       obtain⟨ys,h1,h3,h2⟩:=resT_all H h
       refine⟨_,fin (.one c) ys (box_load H hx (.inr ⟨d,c,cs',hu,fun fs q=>hn1 fs q,fun k e q=>hn2 k e q,rfl,rfl⟩)) h1,fun y hy=>?_,h2⟩
       rcases List.mem_cons.1 hy with rfl|hy
       .exact⟨hall.1 c List.mem_cons_self,hall.2 c List.mem_cons_self⟩
       exact h3 y hy
      cases h
     cases h
    cases h
   cases h
  cases h
theorem oneSy_den {ys:List Sy}(h:(ys.all fun y=>match y with| .tup _=>false|_=>true)=true)(A:Asg):(oneSy ys).den A=oneV (ys.map (Sy.den A)):=by
 have hp:∀y∈ys,partDen A (partOf y)=y.den A:=fun y hy=>by
  have:=List.all_eq_true.1 h y hy
  cases y with
  |one c=>rfl
  |agg cs=>rfl
  |tup ps=>cases this
 match ys,hp with
 |[],_=>rfl
 |[y],_=>rfl
 |y::z::l,hp=>
  show Value.tuple (((y::z::l).map partOf).map (partDen A)).toArray= .tuple ((y::z::l).map (Sy.den A)).toArray
  rw[List.map_map]
  congr 2
  exact List.map_congr_left fun q hq=>hp q hq
theorem oneSy_all {ys:List Sy}(h:∀y∈ys,y.all F/\y.good A):(oneSy ys).all F/\(oneSy ys).good A:=by
 have hp:∀y∈ys,∀c∈(partOf y).2,c.all F/\c.good A:=fun y hy c hc=>by
  have:=h y hy
  cases y with
  |one c'=>have:=List.mem_singleton.1 hc;subst this;exact h _ hy
  |agg cs=>exact⟨this.1 c hc,this.2 c hc⟩
  |tup ps=>cases hc
 match ys,h,hp with
 |[],_,_=>exact⟨(fun p q=>by cases q),(fun p q=>by cases q)⟩
 |[y],h,_=>exact h y List.mem_cons_self
 |y::z::l,_,hp=>
  refine⟨fun p hp' c hc=>?_,fun p hp' c hc=>?_⟩
  .obtain⟨q,hq,rfl⟩:=List.mem_map.1 hp';exact(hp q hq c hc).1
  obtain⟨q,hq,rfl⟩:=List.mem_map.1 hp';exact(hp q hq c hc).2
theorem inl_ok {f:FuncId}(hn:List (Nat×Bool)){fn:Func}(hf:P.funcs[f]?=some fn):ConTr P f (inlT P T hn fn):=by
 intro o n A S F s r a w b B caps ys out H hF hys hcaps h hcs hhs hB
 unfold inlT at h
 obtain⟨rs0,hrs,h1⟩:=reachT_run (fun p q=>by cases q) h
 clear h
 split at h1
 .rename_i x hx
  split at h1
  .rename_i zs htop hres
   obtain⟨hg,h2⟩:=guardT_run h1
   clear h1
   simp only[Bool.and_eq_true,decide_eq_true_eq] at hg
   obtain⟨g1,g2,g3⟩:=hg
   have e:=ret_run h2
   subst e
   clear h2
   have hvals:ys.map (Sy.den A)++caps.map (fun c=>Value.pointer (some ⟨A.b c.1,c.2,none⟩))=(ys++caps.map fun c=>Sy.one (.ptr c.1 c.2)).map (Sy.den A):=by
    rw[List.map_append,List.map_map];rfl
   have hva:∀y∈ys++caps.map fun c=>Sy.one (.ptr c.1 c.2),y.all F/\y.good A:=fun y hy=>by
    rcases List.mem_append.1 hy with hy|hy
    .exact hys y hy
    obtain⟨c,hc,rfl⟩:=List.mem_map.1 hy
    exact⟨hcaps c hc,tv⟩
   generalize hvv:(ys++caps.map fun c=>Sy.one (.ptr c.1 c.2))=vv at*
   rw[hvals]
   have hnx:x.σ.nx<B:=hB (x.σ.nx,none) List.mem_cons_self
   refine enter fn fn.ntmps hf (fun a' ha=>?_) g1 rfl (by rw[List.length_map];exact decide_eq_true g2)
   have hslot:∀t e,stE ⟨envOf 0 vv,rs0,b⟩ t=some e->e.ch=[]/\∃y,vv[t]?=some y/\e=⟨[],y⟩:=fun t e he=>by
    obtain⟨_,y,q1,q2⟩:=envOf_get he
    exact⟨by rw[q2],y,by simpa using q1,q2⟩
   have hself:setM r rs0=r:=setM_self hrs
   have H0:OkF {o with pF:=F,pA:=A} fn.ntmps A S F (stE ⟨envOf 0 vv,rs0,b⟩) (setM r rs0) a' w:=by
    rw[hself]
    refine⟨ha.1,ha.2.1,fun t e he=>?_,fun t e he _=>?_,H.rall,H.frm.pins F A,fun j y hy=>(H.args j y hy).pins,⟨fun _ q=>q,Agr.refl _ _⟩⟩
    .obtain⟨_,y,q1,rfl⟩:=hslot t e he
     have hv:(vv.map (Sy.den A))[t]?=some (y.den A):=by rw[List.getElem?_map,q1];rfl
     have htl:=(List.getElem?_eq_some_iff.1 hv).1
     refine ha.2.2 ⟨t,[],y.den A⟩ (List.mem_map.2 ⟨(t,y.den A),?_,rfl⟩)
     refine List.mem_iff_getElem?.2 ⟨t,?_⟩
     rw[List.getElem?_zip_eq_some]
     exact⟨by rw[List.getElem?_range htl],hv⟩
    obtain⟨_,y,q1,rfl⟩:=hslot t e he
    exact hva y (List.mem_of_getElem? q1)
   have hI:OkI {o with pF:=F,pA:=A} fn.ntmps r F (· <B) ⟨envOf 0 vv,rs0,b⟩ a' w:=⟨⟨A,S,F,H0,hF,fun j hj=>.inl hj⟩,fun t e he=>(hslot t e he).1⟩
   refine wpM_pl.1 ?_
   refine(exec_ok (mo:=pl) (Q:=bodyPost P fn fun e w'=> ∃v,e= .returned v/\After o n F s r a ⟨x.cs,x.hs,oneSy zs.down,(x.σ.nx,none)::x.σ.rs⟩ v w') (r0:=r) (F0:=F) (L:=(· <B)) (fun j hj=>Nat.lt_trans hj hnx) (fun q=>by cases q) hx).2 hI hcs hhs fun a2 w2 h2=>?_
   obtain⟨⟨A2,S2,F2,H2,f1,f2⟩,ch⟩:=h2
   obtain⟨zs',r1,r2,r3⟩:=resT_all H2 (Tr.mono (fun _ _ q=>q) (stR_le r x.σ) _ hres)
   have hz:zs'=zs.down:=by have:=Option.some.inj r3;exact congrArg ULift.down this
   subst hz
   have hres':=results_run (ys:=zs.down.map (Sy.den A2)) r1
   have hAft:After o n F s r a ⟨x.cs,x.hs,oneSy zs.down,(x.σ.nx,none)::x.σ.rs⟩ (oneV (zs.down.map (Sy.den A2))) w2:=by
    refine⟨A2,S2,?_,(oneSy_den g3 A2).symm,?_⟩
    .have hFU:∀j,F2 j->FU F ((x.σ.nx,none)::x.σ.rs) j:=fun j hj=>(f2 j hj).imp id fun⟨y,hy⟩=>⟨y,List.mem_cons_of_mem _ hy⟩
     have H1:=H.agree H2.pin.2 (G:=FU F ((x.σ.nx,none)::x.σ.rs)) fun j hj=>.inl hj
     have hle:∀j y,setM r ((x.σ.nx,none)::x.σ.rs) j=some y->setM r x.σ.rs j=some y:=fun j y hy=>by
      have hy:updR (setM r x.σ.rs) x.σ.nx none j=some y:=hy
      by_cases q:x.σ.nx=j
      .subst q;rw[updR_same] at hy;cases hy
      rwa[updR_ne q] at hy
     refine⟨H1.size,H1.nodef,H1.env,H1.sall,fun j y hy=>?_,H2.frm.unpin.sub fun j rr hj=>?_,fun j y hy=>(H2.args j y (hle j y hy)).unpin,H1.pin⟩
     .have:=H2.rall j y (hle j y hy)
      exact⟨hFU j this.1,R2.mono hFU this.2.1,this.2.2⟩
     obtain⟨y,hy,rfl⟩:=Option.map_eq_some_iff.1 hj
     show(setM r x.σ.rs j).map _=_
     rw[hle j y hy];rfl
    have hFU:∀j,F2 j->FU F ((x.σ.nx,none)::x.σ.rs) j:=fun j hj=>(f2 j hj).imp id fun⟨y,hy⟩=>⟨y,List.mem_cons_of_mem _ hy⟩
    have:=oneSy_all r2
    exact⟨Sy.mono hFU this.1,this.2⟩
   unfold topR at htop
   split at htop
   .rename_i p rr hst
    rw[hst]
    show(sub _ p).wpM pl P (post pl P _ _ rr) a2 w2
    have hc:sub (fn.body.getD .skip) p= .ret:=by
     cases hc:sub (fn.body.getD .skip) p<;>rw[hc] at htop<;>first|rfl|cases htop
    rw[hc]
    exact wpM_ret (post_ret (bodyPost_ret hres' H2.nodef ⟨_,rfl,hAft⟩))
   .rename_i hst
    rw[hst]
    exact bodyPost_end hres' H2.nodef ⟨_,rfl,hAft⟩
   cases htop
  cases h1
 cases h1
def inl {f:FuncId}(T:List (Con P))(hn:List (Nat×Bool)){fn:Func}(hf:P.funcs[f]?=some fn):Con P:=⟨f,inlT P T hn fn,inl_ok (T:=T) hn hf⟩
theorem with_ {mo:Mode}{T:List (Con P)}{B:Code}{Q:Post}{st:List It}(T':List (Con P))(h:At mo P T' B Q st a w):At mo P T B Q st a w:=⟨h.get⟩
def plain {f:FuncId}{ags:List (Bool×Ty)}{rs:List Ty}{dom:ArgV ags->Prop}{fn:ArgV ags->Vals rs}(ok:ConOk P f ags rs dom fn):Con P:=⟨f,callP dom fn,con_plain ok⟩
end
def ktOf (P:Program)(k:Kc):Option TypeId:=(List.range 4000).find? fun t=>kindB P t k
theorem ktOf_ok {P:Program}{k:Kc}{t:TypeId}(h:ktOf P k=some t):P.underlying t=some (kdesc k):=kindB_ok (by have:=List.find?_some h;exact this)
structure NX where
 k:Kc
 ty:Ty
 m:MapD k (El ty)
 lf:KEl k->Bool
 cnt:Nat
 cur:Option (KEl k×El ty)
 j:Nat
 d:Nat
def nextI (P:Program)(n:Nat)(B:Code)(σ:St2):List It->Option NX
 | .run p::r=>match sub B p with
  | .region _ ops false=>match ops.toList with
   |op::_=>match op.op,op.dst,op.guard with
    | .next (.tmp t) false,some d,none=>match stE σ t with
     |some ⟨[],.one (.ptr j 0)⟩=>match stR σ j with
      |some (.iter k ty m lf cnt cur)=>match calm2 ops && (Nat.blt d n && (ktOf P k).isSome) with
       |true=>some ⟨k,ty,m,lf,cnt,cur,j,d⟩
       |false=>none
      |_=>none
     |_=>none
    |_,_,_=>none
   |_=>none
  |_=>none
 |_=>none
def nextR (P:Program)(T:List (Con P))(n:Nat)(B:Code)(σ:St2)(y:Sy)(re:List (Nat×Option R2))(d:Nat):List It->Option St2
 | .run p::_=>match sub B p with
  | .region _ ops false=>match seqU P T 4096 [] n ops (stE σ) (stR σ) (ops.toList.drop 1) (σ.nx+4096) [(d,some ⟨[],y⟩)] re with
   |some us=>match(us.all fun u=>u.cs.isEmpty && u.hs.isEmpty) && (re.all fun q=>Nat.blt q.1 (σ.nx+4096)) with
    |true=>some ⟨unch (enAll us [(d,some ⟨[],y⟩)])++σ.env,reAll us re++σ.rs,σ.nx+4096*(ops.toList.drop 1).length+4096⟩
    |false=>none
   |none=>none
  |_=>none
 |_=>none
def tlI:List It->List It
 |_::r=>r
 |[]=>[]
def nx1 (P:Program)(T:List (Con P))(n:Nat)(B:Code)(σ:St2)(st:List It)(x:Option NX):Option St2:=match x with
 |some I=>nextR P T n B σ (.tup [(false,[.b (.lit false)])]) [] I.d st
 |none=>none
def nx2 (P:Program)(T:List (Con P))(n:Nat)(B:Code)(σ:St2)(st:List It)(I:NX)(kx:KEl I.k)(v:El I.ty)(cnt':Nat):Option St2:=
 nextR P T n B σ (.tup [(false,[.b (.lit true)]),(false,[keySy I.k kx]),(isPair I.ty,(celSc true σ.nx (cels I.ty v)).1)]) ((I.j,some (.iter I.k I.ty I.m (fun z=>I.lf z && !decide (z=kx)) cnt' (some (kx,v))))::(celSc true σ.nx (cels I.ty v)).2) I.d st
def stG (x:Option St2):St2:=match x with
 |some y=>y
 |none=>⟨[],[],0⟩
section
variable {mo:Mode}{P:Program}{o:OrgG}{n:Nat}{σ σ':St2}{a:Act}{w:World}{T:List (Con P)}{B:Code}{Q:Post}{st:List It}
theorem rest_ok {p:List Nat}(r:List It){id:Nat}{ops:Array Oper}{y:Sy}{re:List (Nat×Option R2)}{d:Nat}{A:Asg}{S:Stab}{a:Act}{w:World}{op0:Oper}{l:List Oper}(hcode:sub B p= .region id ops false)(hops:ops.toList=op0::l)
  (h0:∀t e,stE σ t=some e->e.ch=[]) (np:∀j,o.pF j->j<o.kp) (hr:nextR P T n B σ y re d (.run p::r)=some σ')
  (H:OkF o n A S (FU (· <σ.nx) re) (updE (stE σ) d (some ⟨[],y⟩)) (setM (stR σ) re) a w) (k:∀a w,Okx o n σ' a w->Q .normal a w):wpList P ops Q l a w:=by
 unfold nextR at hr
 simp only[hcode,hops,List.drop_one,List.tail_cons] at hr
 split at hr
 .rename_i us hus
  split at hr
  .rename_i hall
   cases hr
   rw[Bool.and_eq_true] at hall
   have hemp:∀u∈us,u.cs=[]/\u.hs=[]:=fun u hu=>by
    have:=List.all_eq_true.1 hall.1 u hu
    rw[Bool.and_eq_true] at this
    exact⟨List.isEmpty_iff.1 this.1,List.isEmpty_iff.1 this.2⟩
   have hre:∀q∈re,q.1<σ.nx+4096:=fun q hq=>by
    have:=List.all_eq_true.1 hall.2 q hq
    simpa using Nat.blt_eq▸this
   have fin:∀ {A':Asg} {S':Stab} {F':Nat->Prop} {a':Act} {w':World},OkF o n A' S' F' (setE (stE σ) (enAll us [(d,some ⟨[],y⟩)])) (setM (stR σ) (reAll us re)) a' w'->(∀j,σ.nx+4096+4096*l.length<=j->True->¬F' j)->Okx o n ⟨unch (enAll us [(d,some ⟨[],y⟩)])++σ.env,reAll us re++σ.rs,σ.nx+4096*l.length+4096⟩ a' w':=by
    intro A' S' F' a' w' H' hF'
    refine⟨⟨A',S',?_⟩,?_,np⟩
    .rw[stE_app,stR_app]
     exact(H'.less fun t e he=>(unch_ok h0 he).1).agree (Agr.refl _ _) fun j hj=>Classical.byContradiction fun q=>hF' j (by have q:¬j<σ.nx+4096*l.length+4096:=q;omega) tv hj
    rw[stE_app]
    exact fun t e he=>(unch_ok h0 he).2
   have key:=seqU_ok (Q:=Q) (L:=fun _=>True) (rest:=[]) h0 hus H (fun j hj _ hn=>by
    rcases hn with hn|⟨x,hx⟩
    .omega
    have:=hre _ hx;simp only at this;omega) (fun _ _=>trivial) (fun u hu p hp=>by rw[(hemp u hu).1] at hp;cases hp) (fun u hu p hp=>by rw[(hemp u hu).2] at hp;cases hp) fun A' S' F' a' w' H' hF' _=>k a' w' (fin H' hF')
   rwa[List.append_nil] at key
  cases hr
 cases hr
theorem go_next (I:NX)(h:Okx o n σ a w)(k1:(∀x,I.lf x=false)->∀a w,Okx o n (stG (nx1 P T n B σ st (some I))) a w->At mo P T B Q (tlI st) a w)
  (k2:∀(x:KEl I.k) (v:El I.ty) (cnt':Nat),I.lf x=true->kwf I.k x->lookK (show List (KEl I.k×El I.ty) from I.m) x=some v->cnt'<I.cnt->∀a w,Okx o n (stG (nx2 P T n B σ st I x v cnt')) a w->At mo P T B Q (tlI st) a w)
  (hI:nextI P n B σ st=some I:=by kernel_rfl) (h1:(nx1 P T n B σ st (some I)).isSome=true:=by kernel_rfl) (h2:∀x v cnt',(nx2 P T n B σ st I x v cnt').isSome=true:=by intro x v cnt';kernel_rfl):At mo P T B Q st a w:=by
 obtain⟨⟨A,S,H⟩,h0,np⟩:=h
 have hI0:=hI
 unfold nextI at hI
 split at hI
 .rename_i p r
  split at hI
  .rename_i id ops hcode
   split at hI
   .rename_i op l hops
    split at hI
    .rename_i t d hop hdst hg
     split at hI
     .rename_i j he
      split at hI
      .rename_i kc ty m lf cnt cur hR
       split at hI
       .rename_i hguard
        cases hI
        rw[Bool.and_eq_true,Bool.and_eq_true] at hguard
        obtain⟨hcm,g1,g2⟩:=hguard
        have g1:d<n:=by simpa using Nat.blt_eq▸g1
        obtain⟨kt,hkt⟩:=Option.isSome_iff_exists.1 g2
        have hu:=ktOf_ok hkt
        obtain⟨σ1,hσ1⟩:=Option.isSome_iff_exists.1 h1
        rw[hσ1] at k1
        refine⟨?_⟩
        show(sub B p).wpM mo P (post mo P B Q r) a w
        rw[hcode]
        refine wpM_region_list hcm ?_
        rw[hops]
        simp only[wpList]
        have hw:Region.wanted op (yielded ops a.tmps)=true:=by unfold Region.wanted;rw[hg]
        rw[if_pos hw]
        have hv:=(H.env t _ he).1 (fun l hl=>by cases hl)
        have hx:a.eval (.tmp t)= .pointer (some ⟨A.b j,0,none⟩):=by
         simp only[Act.eval,Array.getD_eq_getD_getElem?]
         rw[show a.tmps[t]?=some (.pointer (some ⟨A.b j,0,none⟩)) from hv];rfl
        have hm:memF A (stR σ) j=some (iterRs (A.b j) m lf cnt cur):=by show(stR σ j).map _=_;rw[hR];rfl
        have hch:∀t e,stE σ t=some e->∀l∈e.ch,l.1≠d:=fun t e he l hl=>by rw[h0 t e he] at hl;cases hl
        have over:(∀x,lf x=false)->(Instr.next (.pointer (some ⟨A.b j,0,none⟩)) false op.type).run P w= .ok (.tuple #[.bool false]) w->op.wp P a w (wpList P ops (nrmQ (post mo P B Q r)) l) (nrmQ (post mo P B Q r)):=by
         intro hlf hrun
         have e2:(execOp a.eval op).run P w= .ok (.value (.tuple #[.bool false])) w:=by
          simp only[execOp,hop,Sem.run_bind,hx,hrun];rfl
         refine wp_value e2 ?_
         rw[hdst]
         have H1:=H.put (C:=[]) (d:=d) (y:=.tup [(false,[.b (.lit false)])]) (u:=.tuple #[.bool false]) g1 hch (fun l hl=>by cases hl) (fun _=>⟨fun q hq c hc=>by have:=List.mem_singleton.1 hq;subst this;have:=List.mem_singleton.1 hc;subst this;trivial,fun q hq c hc=>by have:=List.mem_singleton.1 hq;subst this;have:=List.mem_singleton.1 hc;subst this;trivial⟩) ⟨fun _=>rfl,fun q=>(q fun l hl=>by cases hl).elim⟩
         exact rest_ok r hcode hops h0 np (re:=[]) hσ1 (H1.agree (Agr.refl _ _) fun c hc=>.inl hc) fun a w h=>(k1 hlf a w h).get
        rcases H.frm.ok j _ hm with⟨mb,zs,cu,s1,s3,s4,s5,s6,s7⟩|⟨s1,s2,s3,since,seen,c0,s4⟩
        .rcases s3.next hu op.type with⟨hlf,hrun⟩|⟨x,v,w',cnt',n1,n2,n3,n4,n5,n6,n7,n8⟩
         .exact .inl (over hlf hrun)
         have hlk:∃z,lookK zs x=some z/\z.1=v:=by
          have e1:lookK (zs.map fun q=>(q.1,q.2.1)) x=(lookK zs x).map (·.1):=map_lookK (fun y:Value×El ty=>y.1) zs x
          rw[e1] at n3
          obtain⟨z,hz,rfl⟩:=Option.map_eq_some_iff.1 n3
          exact⟨z,hz,rfl⟩
         obtain⟨z,hz,rfl⟩:=hlk
         have hlm:lookK (show List (KEl kc×El ty) from m) x=some z.2:=by
          have e2:lookK (show List (KEl kc×El ty) from m) x=(lookK zs x).map (·.2):=by rw[s4];exact map_lookK (fun y:Value×El ty=>y.2) zs x
          rw[e2,hz];rfl
         obtain⟨σ2,hσ2⟩:=Option.isSome_iff_exists.1 (h2 x z.2 cnt')
         have k2':=k2 x z.2 cnt' n1 n2 hlm n4
         rw[hσ2] at k2'
         refine .inl ?_
         have hrun:=n5
         have e2:(execOp a.eval op).run P w= .ok (.value (.tuple #[.bool true,kval kc x,z.1])) w':=by
          simp only[execOp,hop,Sem.run_bind,hx,hrun];rfl
         refine wp_value e2 ?_
         rw[hdst]
         have hj:=(H.rall j _ hR).1
         have hkS:Keeps S w w':=fun c hc=>n7.block c (H.frm.inb c hc) fun q=>by cases q;exact(H.frm.own j _ _ hm rfl).2.2 hc
         have hbn:(A.b j)<w.heap.size:=(H.frm.own j _ _ hm rfl).2.1
         have H1:=H.swap (Agr.refl _ _) (w':=w') (S':=S) (re:=[(j,some (.iter kc ty m (fun z=>lf z && !decide (z=x)) cnt' (some (x,z.2))))]) (fun c=>c=j) (fun c hc=>by rw[show c=j from hc];exact⟨_,List.mem_singleton.2 rfl⟩)
          ((Chg.of n7).mono fun c hc=>⟨j,_,rfl,hR,by cases hc;rfl⟩) (fun _ q=>q) (fun _ q=>.inl q) (fun c y hy=>by
           cases List.mem_singleton.1 hy
           refine⟨tv,tv,rfl,.inl ⟨mb,zs,some (x,z),s1,n6,s4,fun z hz=>(s5 z hz).keep hkS,rfl,fun q hq=>?_⟩,fun c hc=>?_⟩
           .cases hq
            exact(s5 _ (lookK_mem hz)).keep hkS
           have hc:c=A.b j:=hc
           subst hc
           exact⟨.inl ⟨j,_,rfl,hR,rfl⟩,by rw[n8];exact hbn⟩) (fun c c' y y' bb q1 q2 _ _=>by cases List.mem_singleton.1 q1;cases List.mem_singleton.1 q2;rfl)
         have hrd:Rd S w' z.1 z.2:=(s5 _ (lookK_mem hz)).keep hkS
         obtain⟨vs,hvs,hv⟩:=rd_cells hrd
         have hkeys:=celSc_keys (k:=true) (cels ty z.2) σ.nx
         have hF:∀i,σ.nx<=i->¬FU (· <σ.nx) [(j,some (R2.iter kc ty m (fun z=>lf z && !decide (z=x)) cnt' (some (x,z.2))))] i:=fun i hi hn=>by
          rcases hn with hn|⟨q,hq⟩
          .omega
          cases List.mem_singleton.1 hq;omega
         obtain⟨A',c1,c2,c3,c4⟩:=celSc_ok (o:=o) (S:=S) (w:=w') (k:=true) (B:=σ.nx+(celSc true σ.nx (cels ty z.2)).2.length) _ vs σ.nx A _ hvs (fun i hi _=>hF i hi) fun q hq=>(hkeys q hq).2
         have H2:=H1.ro c1 c3
         have hfu:∀i,FU (FU (· <σ.nx) [(j,some (R2.iter kc ty m (fun z=>lf z && !decide (z=x)) cnt' (some (x,z.2))))]) (celSc true σ.nx (cels ty z.2)).2 i->FU (· <σ.nx) ((j,some (R2.iter kc ty m (fun z=>lf z && !decide (z=x)) cnt' (some (x,z.2))))::(celSc true σ.nx (cels ty z.2)).2) i:=fun i hi=>by
          rcases hi with(hi|⟨q,hq⟩)|⟨q,hq⟩
          .exact .inl hi
          .exact .inr ⟨q,by rw[List.mem_singleton.1 hq];exact List.mem_cons_self⟩
          exact .inr ⟨q,List.mem_cons_of_mem _ hq⟩
         have hsame:setM (setM (stR σ) [(j,some (R2.iter kc ty m (fun z=>lf z && !decide (z=x)) cnt' (some (x,z.2))))]) (celSc true σ.nx (cels ty z.2)).2=setM (stR σ) ((j,some (R2.iter kc ty m (fun z=>lf z && !decide (z=x)) cnt' (some (x,z.2))))::(celSc true σ.nx (cels ty z.2)).2):=by
          funext i
          show setM (updR (stR σ) j _) _ i=updR (setM (stR σ) _) j _ i
          by_cases q:j=i
          .subst q
           rw[updR_same,setM_out,updR_same]
           rintro⟨y,hy⟩
           have:=(hkeys _ hy).1
           omega
          rw[updR_ne q]
          by_cases q2:∃y,(i,y)∈(celSc true σ.nx (cels ty z.2)).2
          .exact setM_in q2 _ _
          rw[setM_out q2,setM_out q2,updR_ne q]
         rw[hsame] at H2
         have H3:=H2.agree (Agr.refl _ _) hfu
         have H4:=H3.put (C:=[]) (d:=d) (y:=.tup [(false,[.b (.lit true)]),(false,[keySy kc x]),(isPair ty,(celSc true σ.nx (cels ty z.2)).1)]) (u:=.tuple #[.bool true,kval kc x,z.1]) g1 hch (fun l hl=>by cases hl) (fun _=>by
          refine⟨fun q hq c hc=>?_,fun q hq c hc=>?_⟩
          .rcases List.mem_cons.1 hq with rfl|hq
           .have:=List.mem_singleton.1 hc;subst this;trivial
           rcases List.mem_cons.1 hq with rfl|hq
           .have:=List.mem_singleton.1 hc;subst this;exact(keySy_all (A:=A) x).1
           have:=List.mem_singleton.1 hq;subst this
           exact Sc.mono hfu (c4 c hc).1
          rcases List.mem_cons.1 hq with rfl|hq
          .have:=List.mem_singleton.1 hc;subst this;trivial
          .rcases List.mem_cons.1 hq with rfl|hq
           .have:=List.mem_singleton.1 hc;subst this;exact(keySy_all (F:=fun _=>True) x).2
           have:=List.mem_singleton.1 hq;subst this
           exact(c4 c hc).2) ⟨fun _=>by
          show Value.tuple #[_,_,_]=Value.tuple #[partDen A' (false,[.b (.lit true)]),partDen A' (false,[keySy kc x]),partDen A' (isPair ty,(celSc true σ.nx (cels ty z.2)).1)]
          unfold partDen
          simp only[List.map_cons,List.map_nil,keySy_den,c2,Bool.false_eq_true,if_false,List.headD_cons]
          rw[hv];rfl,fun q=>(q fun l hl=>by cases hl).elim⟩
         exact rest_ok r hcode hops h0 np hσ2 H4 fun a w h=>(k2' a w h).get
        refine .inl (over s3 (next_nil s4 op.type))
       cases hI
      cases hI
     cases hI
    cases hI
   cases hI
  cases hI
 cases hI
end
inductive Cp where
 |int
 |bool
 |str
 |own (j:Nat)
 |mp (j:Nat)
 |ptr (j off:Nat)
 |clo (f:FuncId) (caps:List (Nat×Nat))
 |nilp
 |nils
def CpV:Cp->Type
 | .int=>Int
 | .bool=>Bool
 | .str=>ByteArray
 |_=>Unit
def Cp.sc:(c:Cp)->CpV c->Sc
 | .int,n=>.v (.int .i64 n)
 | .bool,b=>.b (.raw b)
 | .str,s=>.v (.string s)
 | .own j,_=>.own j
 | .mp j,_=>.mp j
 | .ptr j off,_=>.ptr j off
 | .clo f caps,_=>.clo f caps
 | .nilp,_=>.v (.pointer none)
 | .nils,_=>.v (.slice none 0 0)
def Cp.below (k:Nat):Cp->Bool
 | .own j=>Nat.blt j k
 | .mp j=>Nat.blt j k
 | .ptr j _=>Nat.blt j k
 | .clo _ caps=>caps.all fun c=>Nat.blt c.1 k
 |_=>true
def CpsV:List Cp->Type
 |[]=>Unit
 |c::cs=>CpV c×CpsV cs
def scsOf:(cs:List Cp)->CpsV cs->List Sc
 |[],_=>[]
 |c::cs,x=>c.sc x.1::scsOf cs x.2
inductive Pc where
 |box (t:TypeId) (cs:List Cp)
 |row (e:TypeId) (t:Ty)
 |map (k:Kc) (t:Ty)
 |rd (t:Ty)
 |byt (e:TypeId)
def Pc.isRd:Pc->Bool
 | .rd _=>true
 |_=>false
def rdB (l:List Pc)(j:Nat):Bool:=match l[j]? with
 |some s=>s.isRd
 |none=>false
def PcV:Pc->Type
 | .box _ cs=>CpsV cs
 | .row _ t=>List (El t)
 | .map k t=>MapD k (El t)
 | .rd t=>List (El t)
 | .byt _=>ByteArray
def Pc.r2:(s:Pc)->PcV s->R2
 | .box t cs,x=>.box t (scsOf cs x)
 | .row e t,l=>.row e t l
 | .map k t,m=>.map k t m
 | .rd t,l=>.ar t l
 | .byt e,l=>.ext (.byt e l)
def Pc.below (k:Nat):Pc->Bool
 | .box _ cs=>cs.all (Cp.below k)
 |_=>true
def PcsV:List Pc->Type
 |[]=>Unit
 |s::l=>PcV s×PcsV l
def memOf:Nat->(l:List Pc)->PcsV l->List (Nat×Option R2)
 |_,[],_=>[]
 |i,s::l,x=>(i,some (s.r2 x.1))::memOf (i+1) l x.2
structure MSh where
 sh:List Pc
 ar:List Cp
 sh':List Pc
 rs:List Cp
 kp:Nat
 ag:Bool
 ga:List (Option Nat)
def MSh.X (m:MSh):Type:=PcsV m.sh×CpsV m.ar
def MSh.Y (m:MSh):Type:=PcsV m.sh'×CpsV m.rs
def syl (ag:Bool)(cs:List Sc):List Sy:=match ag with
 |false=>cs.map Sy.one
 |true=>[.agg cs]
def syG:List (Option Nat)->List Sc->List Sy
 |none::g,c::cs=>.one c::syG g cs
 |none::_,[]=>[]
 |some k::g,cs=>.agg (cs.take k)::syG g (cs.drop k)
 |[],cs=>cs.map Sy.one
def MSh.rsy (m:MSh)(y:m.Y):List Sy:=syl m.ag (scsOf m.rs y.2)
def OrgG.giv (o:OrgG)(A:Asg)(kp:Nat):OrgG:={o with pF:=fun j=>j<kp,pA:=A,kp:=kp}
def GivM (o:OrgG)(A:Asg)(m:MSh)(y:m.Y)(e:Ending)(w':World):Prop:=
 ∃v,e= .returned v/\∃A' S',Agr (· <m.kp) A A'/\Frm (o.giv A m.kp) w' S' (memF A' (setM (fun _=>none) (memOf 0 m.sh' y.1)))/\v=oneV ((m.rsy y).map (Sy.den A'))
def ConMOk (P:Program)(f:FuncId)(m:MSh)(dom:m.X->Prop)(fx:m.X->m.Y):Prop:=
 ∀(o:OrgG) (A:Asg) (x:m.X),Frm (o.giv A m.kp) o.w o.S (memF A (setM (fun _=>none) (memOf 0 m.sh x.1)))->(∀j y,setM (fun _=>none) (memOf 0 m.sh x.1) j=some y->ArOk (o.giv A m.kp) A j y)->dom x->
  Calls P f ((syG m.ga (scsOf m.ar x.2)).map (Sy.den A)).toArray o.w (GivM o A m (fx x))
section
variable {P:Program}{o:OrgG}{n:Nat}{A A':Asg}{S S':Stab}{F G:Nat->Prop}{s:Nat->Option E2}{r:Nat->Option R2}{a:Act}{w w':World}{T:List (Con P)}
theorem memOf_keys:∀ {l:List Pc} {i:Nat} {x:PcsV l} {j:Nat} {z:Option R2},(j,z)∈memOf i l x->i<=j/\j<i+l.length
 |[],_,_,_,_,h=>by cases h
 |s::l,i,x,j,z,h=>by
  rcases List.mem_cons.1 h with e|h
  .cases e;simp
  have:=memOf_keys h
  simp only[List.length_cons];omega
theorem memOf_has:∀ {l:List Pc} {i:Nat} {x:PcsV l} {j:Nat},i<=j->j<i+l.length->∃s v,s∈l/\(j,some (Pc.r2 s v))∈memOf i l x
 |[],i,_,j,h1,h2=>by simp only[List.length_nil] at h2;omega
 |s::l,i,x,j,h1,h2=>by
  by_cases q:j=i
  .subst q;exact⟨s,x.1,List.mem_cons_self,List.mem_cons_self⟩
  simp only[List.length_cons] at h2
  obtain⟨s',v,k1,k2⟩:=memOf_has (x:=x.2) (show i+1<=j by omega) (by omega)
  exact⟨s',v,List.mem_cons_of_mem _ k1,List.mem_cons_of_mem _ k2⟩
theorem memOf_at:∀ {l:List Pc} {i:Nat} {x:PcsV l} {j:Nat} {z:Option R2},(j,z)∈memOf i l x->∃s v,s∈l/\z=some (Pc.r2 s v)
 |[],_,_,_,_,h=>by cases h
 |s::l,i,x,j,z,h=>by
  rcases List.mem_cons.1 h with e|h
  .cases e;exact⟨s,x.1,List.mem_cons_self,rfl⟩
  obtain⟨s',v,k1,k2⟩:=memOf_at h;exact⟨s',v,List.mem_cons_of_mem _ k1,k2⟩
theorem setM_from0:∀ {re:List (Nat×Option R2)} {j:Nat} {x:R2},setM (fun _=>none) re j=some x->(j,some x)∈re:=by
 intro re
 induction re with
 |nil=>intro j x h;cases h
 |cons p re ih=>
  intro j x h
  have h:updR (setM (fun _=>none) re) p.1 p.2 j=some x:=h
  by_cases q:p.1=j
  .subst q;rw[updR_same] at h;rw[<-h];exact List.mem_cons_self
  rw[updR_ne q] at h;exact List.mem_cons_of_mem _ (ih h)
theorem memOf_set:∀ {l:List Pc} {i:Nat} {x:PcsV l} {j:Nat} {z:Option R2} {r0:Nat->Option R2},(j,z)∈memOf i l x->setM r0 (memOf i l x) j=z
 |[],_,_,_,_,_,h=>by cases h
 |s::l,i,x,j,z,r0,h=>by
  show updR (setM r0 (memOf (i+1) l x.2)) i (some (s.r2 x.1)) j=z
  rcases List.mem_cons.1 h with e|h
  .cases e;rw[updR_same]
  have:=memOf_keys h
  rw[updR_ne (by omega)]
  exact memOf_set h
theorem scsOf_all {k:Nat}:∀ {cs:List Cp} {x:CpsV cs},cs.all (Cp.below k)=true->∀c∈scsOf cs x,c.all (· <k)/\∀A,c.good A
 |[],_,_,_,h=>by cases h
 |c::cs,x,h,d,hd=>by
  rw[List.all_cons,Bool.and_eq_true] at h
  rcases List.mem_cons.1 hd with rfl|hd
  .cases c with
   |clo f caps=>exact⟨fun c hc=>by have:=List.all_eq_true.1 h.1 c hc;simpa[Nat.blt_eq] using this,fun _=>trivial⟩
   |own j=>exact⟨by have:=h.1;show j<k;simpa[Cp.below,Nat.blt_eq] using this,fun _=>trivial⟩
   |mp j=>exact⟨by have:=h.1;show j<k;simpa[Cp.below,Nat.blt_eq] using this,fun _=>trivial⟩
   |ptr j off=>exact⟨by have:=h.1;show j<k;simpa[Cp.below,Nat.blt_eq] using this,fun _=>trivial⟩
   |_=>exact⟨tv,fun _=>trivial⟩
  exact scsOf_all h.2 d hd
theorem Pc.r2_all {k:Nat}{s:Pc}{v:PcV s}(h:s.below k=true):(s.r2 v).all (· <k)/\(∀A,(s.r2 v).good A)/\isAr (s.r2 v)=s.isRd:=by
 cases s with
 |box t cs=>exact⟨fun c hc=>(scsOf_all h c hc).1,fun A c hc=>(scsOf_all h c hc).2 A,rfl⟩
 |row e t=>exact⟨tv,fun _=>trivial,rfl⟩
 |map k t=>exact⟨tv,fun _=>trivial,rfl⟩
 |rd t=>exact⟨tv,fun _=>trivial,rfl⟩
 |byt e=>exact⟨tv,fun _=>trivial,rfl⟩
theorem Frm.gv {f:Nat->Option Rs}{kp:Nat}(h:Frm o w S f):Frm (o.giv A kp) w S f:=⟨h.chg,h.src,h.inb,h.ok,h.own,h.apart⟩
theorem Frm.ungv {f:Nat->Option Rs}{kp:Nat}(h:Frm (o.giv A kp) w S f):Frm o w S f:=⟨h.chg,h.src,h.inb,h.ok,h.own,h.apart⟩
theorem syG_len:∀ {g:List (Option Nat)} {cs:List Sc},(syG g cs).length<=g.length+cs.length
 |none::g,c::cs=>by have:=syG_len (g:=g) (cs:=cs);simp only[syG,List.length_cons];omega
 |none::_,[]=>by simp[syG]
 |some k::g,cs=>by have:=syG_len (g:=g) (cs:=cs.drop k);simp only[syG,List.length_cons,List.length_drop] at*;omega
 |[],cs=>by simp[syG]
theorem syG_all {p:Sc->Prop}:∀ {g:List (Option Nat)} {cs:List Sc},(∀c∈cs,p c)->∀y∈syG g cs,(∃c,y= .one c/\p c)\/∃l,y= .agg l/\∀c∈l,p c
 |none::g,c::cs,h,y,hy=>by
  rcases List.mem_cons.1 hy with rfl|hy
  .exact .inl ⟨c,rfl,h _ List.mem_cons_self⟩
  exact syG_all (g:=g) (fun c hc=>h c (List.mem_cons_of_mem _ hc)) y hy
 |none::_,[],_,y,hy=>by cases hy
 |some k::g,cs,h,y,hy=>by
  rcases List.mem_cons.1 hy with rfl|hy
  .exact .inr ⟨_,rfl,fun c hc=>h c (List.mem_of_mem_take hc)⟩
  exact syG_all (g:=g) (fun c hc=>h c (List.mem_of_mem_drop hc)) y hy
 |[],cs,h,y,hy=>by
  obtain⟨c,hc,rfl⟩:=List.mem_map.1 hy
  exact .inl ⟨c,rfl,h c hc⟩
def stM (m:MSh)(x:m.X):St2:=⟨envOf 0 (syG m.ga (scsOf m.ar x.2)),memOf 0 m.sh x.1,m.sh.length⟩
theorem conM_of {f:FuncId}(fn:Func)(n:Nat)(T:List (Con P))(m:MSh){dom:m.X->Prop}{fx:m.X->m.Y}(hf:P.funcs[f]?=some fn)
  (k:∀(o:OrgG) (A:Asg) (x:m.X),dom x->∀a w,Okx (o.giv A m.kp) n (stM m x) a w->At pl P T (fn.body.getD .skip) (bodyPost P fn (GivM o A m (fx x))) [.run []] a w)
  (hb:fn.body.isSome=true:=by kernel_rfl) (hn:fn.ntmps=n:=by kernel_rfl) (hl:decide (m.ga.length+m.ar.length<=n)=true:=by kernel_rfl)
  (hw:(decide (m.kp<=m.sh.length) && (m.ar.all (Cp.below m.sh.length) && m.sh.all (Pc.below m.sh.length)))=true:=by kernel_rfl):ConMOk P f m dom fx:=by
 intro o A x hfrm har hdom
 simp only[Bool.and_eq_true,decide_eq_true_eq] at hw
 obtain⟨hw0,hw1,hw2⟩:=hw
 have hlen:(scsOf m.ar x.2).length=m.ar.length:=by
  have:∀(cs:List Cp) (x:CpsV cs),(scsOf cs x).length=cs.length:=by
   intro cs
   induction cs with
   |nil=>intro _;rfl
   |cons c cs ih=>intro x;simp[scsOf,ih]
  exact this _ _
 refine enter fn n hf (fun a ha=>?_) hb hn (by rw[List.length_map];have h1:=syG_len (g:=m.ga) (cs:=scsOf m.ar x.2);have h2:=of_decide_eq_true hl;rw[hlen] at h1;exact decide_eq_true (by omega))
 have hslot:∀t e,stE (stM m x) t=some e->e.ch=[]/\∃y,(syG m.ga (scsOf m.ar x.2))[t]?=some y/\e=⟨[],y⟩:=fun t e he=>by
  obtain⟨_,y,q1,q2⟩:=envOf_get he
  have q1:(syG m.ga (scsOf m.ar x.2))[t-0]?=some y:=q1
  rw[Nat.sub_zero] at q1
  exact⟨by rw[q2],y,q1,q2⟩
 have hfin:Okx (o.giv A m.kp) n (stM m x) a o.w:=by
  refine⟨⟨A,o.S,ha.1,ha.2.1,fun t e he=>?_,fun t e he _=>?_,fun j y hj=>?_,hfrm,har,⟨fun j q=>Nat.lt_of_lt_of_le (show j<m.kp from q) hw0,Agr.refl _ _⟩⟩,fun t e he=>(hslot t e he).1,fun _ q=>q⟩
  .obtain⟨_,c,q1,rfl⟩:=hslot t e he
   have htl:=(List.getElem?_eq_some_iff.1 q1).1
   refine ha.2.2 ⟨t,[],Sy.den A c⟩ (List.mem_map.2 ⟨(t,Sy.den A c),?_,rfl⟩)
   refine List.mem_iff_getElem?.2 ⟨t,?_⟩
   rw[List.getElem?_zip_eq_some]
   exact⟨by simp[htl],by rw[List.getElem?_map,q1];rfl⟩
  .obtain⟨_,c,q1,rfl⟩:=hslot t e he
   rcases syG_all (p:=fun c=>c.all (· <m.sh.length)/\∀A,c.good A) (scsOf_all hw1) c (List.mem_of_getElem? q1) with⟨c',rfl,h1,h2⟩|⟨l,rfl,h1⟩
   .exact⟨h1,h2 A⟩
   exact⟨fun c hc=>(h1 c hc).1,fun c hc=>(h1 c hc).2 A⟩
  have hm:=setM_from0 hj
  have hk:=memOf_keys hm
  obtain⟨s,v,q1,q2⟩:=memOf_at hm
  cases q2
  have:=Pc.r2_all (v:=v) (List.all_eq_true.1 hw2 s q1)
  exact⟨by have:=hk.2;rwa[Nat.zero_add] at this,this.1,this.2.1 A⟩
 have:=(k o A x hdom a o.w hfin).get
 have this:(sub (fn.body.getD .skip) []).wpM pl P (post pl P (fn.body.getD .skip) (bodyPost P fn (GivM o A m (fx x))) []) a o.w:=this
 exact wpM_pl.1 this
def resEnv:List ResultVar->List Sc->List (Nat×Option E2)
 | .tmp t::l,c::cs=>(t,some ⟨[],.one c⟩)::resEnv l cs
 |_,_=>[]
def resEnvG (ag:Bool)(l:List ResultVar)(cs:List Sc):List (Nat×Option E2):=match ag,l with
 |true,.cell t _::_=>[(t,some ⟨[],.one (.ptr 0 0)⟩)]
 |_,l=>resEnv l cs
def outSt (fn:Func)(m:MSh)(y:m.Y):St2:=⟨resEnvG m.ag fn.results.toList (scsOf m.rs y.2),memOf 0 m.sh' y.1,m.sh'.length⟩
theorem outM {mo:Mode}{fn:Func}{m:MSh}{fx:m.Y}{B:Code}{st:List It}{σ:St2}(y:m.Y)(ρ:List (Nat×Option Nat))(h:Okx (o.giv A m.kp) n σ a w)(e:y=fx)(ht:topR B st=true:=by kernel_rfl)
  (h1:envOkB ρ σ (outSt fn m y):=by delta envOkB;kernel_rfl) (h2:rsOkB ρ σ (outSt fn m y):=by delta rsOkB;kernel_rfl) (h3:idsOkB ρ (outSt fn m y)=true:=by kernel_rfl) (h4:pinB ρ m.kp=true:=by kernel_rfl)
  (h5:(resT P fn.results.toList fun ys=>.ret (ULift.up.{1} ys)).run (stE (outSt fn m y)) (stR (outSt fn m y))=some ⟨m.rsy y⟩:=by kernel_rfl):At mo P T B (bodyPost P fn (GivM o A m fx)) st a w:=by
 have hs:=sub_ok ρ h h1 h2 h3 h4
 obtain⟨⟨A',S',H⟩,h0,_⟩:=hs
 subst e
 obtain⟨ys,r1,r2⟩:=resT_run (P:=P) H h5
 have r2:some (ULift.up.{1} ys)=some ⟨m.rsy y⟩:=r2
 cases r2
 have hres:=results_run r1
 have hgiv:GivM o A m y (.returned (oneV ((m.rsy y).map (Sy.den A')))) w:=⟨_,rfl,A',S',H.pin.2,H.frm,rfl⟩
 unfold topR at ht
 split at ht
 .rename_i p r
  refine⟨?_⟩
  show(sub B p).wpM mo P (post mo P B _ r) a w
  have hc:sub B p= .ret:=by
   cases hc:sub B p<;>rw[hc] at ht<;>first|rfl|cases ht
  rw[hc]
  exact wpM_ret (post_ret (bodyPost_ret hres H.nodef hgiv))
 .exact⟨bodyPost_end hres H.nodef hgiv⟩
 cases ht
def LeR (ρ ρ':List (Nat×Option Nat)):Prop:=∀j v,rnOf ρ j=some v->rnOf ρ' j=some v
theorem LeR.trans {a b c:List (Nat×Option Nat)}(h:LeR a b)(k:LeR b c):LeR a c:=fun j v q=>k j v (h j v q)
theorem leR_cons {ρ:List (Nat×Option Nat)}{j:Nat}{v:Option Nat}(h:rnOf ρ j=none):LeR ρ ((j,v)::ρ):=fun i u q=>by
 unfold rnOf
 cases hb:Nat.beq j i with
 |true=>have:=beq_t hb;subst this;rw[h] at q;cases q
 |false=>exact q
theorem rnOf_head (ρ:List (Nat×Option Nat))(j:Nat)(v:Option Nat):rnOf ((j,v)::ρ) j=some v:=by
 unfold rnOf;rw[Nat.beq_refl]
def eqO:Option Nat->Option Nat->Bool
 |none,none=>true
 |some a,some b=>Nat.beq a b
 |_,_=>false
theorem eqO_t:∀ {a b:Option Nat},eqO a b=true->a=b
 |none,none,_=>rfl
 |some a,some b,h=>by rw[beq_t h]
 |none,some _,h=>by cases h
 |some _,none,h=>by cases h
def bindT {α:Type 1}(ρ:List (Nat×Option Nat))(j:Nat)(v:Option Nat)(k:List (Nat×Option Nat)->Tr α):Tr α:=match rnOf ρ j with
 |none=>k ((j,v)::ρ)
 |some v'=>match eqO v' v with
  |true=>k ((j,v)::ρ)
  |false=>.fail
def bindL {α:Type 1}:List (Nat×Nat)->List (Nat×Nat)->List (Nat×Option Nat)->(List (Nat×Option Nat)->Tr α)->Tr α
 |[],[],ρ,k=>k ρ
 |c::l,d::l',ρ,k=>match Nat.beq c.2 d.2 with
  |true=>bindT ρ c.1 (some d.1) fun ρ=>bindL l l' ρ k
  |false=>.fail
 |_,_,_,_=>.fail
def gathC1 {α:Type 1}:(c:Cp)->Sc->List (Nat×Option Nat)->(CpV c->List (Nat×Option Nat)->Tr α)->Tr α
 | .int,d,ρ,k=>match d with
  | .v (.int .i64 n)=>k n ρ
  |_=>.fail
 | .bool,d,ρ,k=>match d with
  | .b e=>k e.den ρ
  |_=>.fail
 | .str,d,ρ,k=>match d with
  | .v (.string z)=>k z ρ
  |_=>.fail
 | .own j,d,ρ,k=>match d with
  | .own q=>bindT ρ j (some q) (k ())
  | .v (.slice none 0 0)=>bindT ρ j none (k ())
  |_=>.fail
 | .mp j,d,ρ,k=>match d with
  | .mp q=>bindT ρ j (some q) (k ())
  |_=>.fail
 | .ptr j off,d,ρ,k=>match d with
  | .ptr q off'=>match Nat.beq off off' with
   |true=>bindT ρ j (some q) (k ())
   |false=>.fail
  |_=>.fail
 | .clo f caps,d,ρ,k=>match d with
  | .clo f' caps'=>guardT (Nat.beq f f') (bindL caps caps' ρ (k ()))
  |_=>.fail
 | .nilp,d,ρ,k=>match d with
  | .v (.pointer none)=>k () ρ
  |_=>.fail
 | .nils,d,ρ,k=>match d with
  | .v (.slice none 0 0)=>k () ρ
  |_=>.fail
def gathC {α:Type 1}:(cs:List Cp)->List Sc->List (Nat×Option Nat)->(CpsV cs->List (Nat×Option Nat)->Tr α)->Tr α
 |[],[],ρ,k=>k () ρ
 |c::cs,d::l,ρ,k=>gathC1 c d ρ fun v ρ=>gathC cs l ρ fun x=>k (v,x)
 |_,_,_,_=>.fail
def gathP {α:Type 1}:Nat->(sh:List Pc)->List (Nat×Option Nat)->(PcsV sh->List (Nat×Option Nat)->Tr α)->Tr α
 |_,[],ρ,k=>k () ρ
 |i,.box t cs::sh,ρ,k=>match rnOf ρ i with
  |some (some q)=>.res q fun z=>match z with
   | .box t' l=>guardT (Nat.beq t t') (gathC cs l ρ fun x ρ=>gathP (i+1) sh ρ fun xs=>k (x,xs))
   |_=>.fail
  |_=>.fail
 |i,.row e t::sh,ρ,k=>match rnOf ρ i with
  |some (some q)=>.res q fun z=>match z with
   | .row e' t' l=>match castEl (t:=.list t') (s:=.list t) (show El (.list t') from l) with
    |some l'=>guardT (Nat.beq e e') (gathP (i+1) sh ρ fun xs=>k (l',xs))
    |none=>.fail
   |_=>.fail
  |some none=>gathP (i+1) sh ρ fun xs=>k ([],xs)
  |none=>.fail
 |i,.map kc t::sh,ρ,k=>match rnOf ρ i with
  |some (some q)=>.res q fun z=>match z with
   | .map kc' t' l=>match castEl (t:=.map kc' t') (s:=.map kc t) (show El (.map kc' t') from l) with
    |some l'=>gathP (i+1) sh ρ fun xs=>k (l',xs)
    |none=>.fail
   |_=>.fail
  |_=>.fail
 |i,.rd t::sh,ρ,k=>match rnOf ρ i with
  |some (some q)=>.res q fun z=>match asList z with
   |some ⟨t',l⟩=>match castEl (t:=.list t') (s:=.list t) (show El (.list t') from l) with
    |some l'=>gathP (i+1) sh ρ fun xs=>k (l',xs)
    |none=>.fail
   |none=>.fail
  |some none=>gathP (i+1) sh ρ fun xs=>k ([],xs)
  |none=>.fail
 |i,.byt e::sh,ρ,k=>match rnOf ρ i with
  |some (some q)=>.res q fun z=>match z with
   | .ext (.byt e' l)=>guardT (Nat.beq e e') (gathP (i+1) sh ρ fun xs=>k (l,xs))
   |_=>.fail
  |_=>.fail
theorem bindT_run {α:Type 1}{ρ:List (Nat×Option Nat)}{j:Nat}{v:Option Nat}{k:List (Nat×Option Nat)->Tr α}{out:α}(h:(bindT ρ j v k).run s r=some out):LeR ρ ((j,v)::ρ)/\(k ((j,v)::ρ)).run s r=some out:=by
 unfold bindT at h
 split at h
 .rename_i hn;exact⟨leR_cons hn,h⟩
 rename_i v' hn
 split at h
 .rename_i e
  have e:=eqO_t e
  subst e
  refine⟨fun i u q=>?_,h⟩
  unfold rnOf
  cases hb:Nat.beq j i with
  |true=>have:=beq_t hb;subst this;rw[hn] at q;exact q
  |false=>exact q
 cases h
theorem bindL_run {α:Type 1}:∀ {l l':List (Nat×Nat)} {ρ:List (Nat×Option Nat)} {k:List (Nat×Option Nat)->Tr α} {out:α},(bindL l l' ρ k).run s r=some out->
  ∃ρ',(k ρ').run s r=some out/\LeR ρ ρ'/\∀A ρ'',LeR ρ' ρ''->(l.map fun c=>Value.pointer (some ⟨(asgR A ρ'').b c.1,c.2,none⟩))=l'.map fun c=>Value.pointer (some ⟨A.b c.1,c.2,none⟩)
 |[],[],ρ,k,out,h=>⟨ρ,h,fun _ _ q=>q,fun _ _ _=>rfl⟩
 |c::l,d::l',ρ,k,out,h=>by
  simp only[bindL] at h
  split at h
  .rename_i e
   have e:=beq_t e
   obtain⟨q1,h2⟩:=bindT_run h
   obtain⟨ρ',h3,h4,h5⟩:=bindL_run h2
   refine⟨ρ',h3,q1.trans h4,fun A ρ'' q=>?_⟩
   rw[List.map_cons,List.map_cons,h5 A ρ'' q,(asgR_v (A:=A) (q _ _ (h4 _ _ (rnOf_head _ _ _)))).2.1,e]
  cases h
 |[],_::_,_,_,_,h=>by cases h
 |_::_,[],_,_,_,h=>by cases h
theorem gathC1_run {α:Type 1}{c:Cp}{d:Sc}{ρ:List (Nat×Option Nat)}{k:CpV c->List (Nat×Option Nat)->Tr α}{out:α}(h:(gathC1 c d ρ k).run s r=some out):
  ∃v ρ',(k v ρ').run s r=some out/\LeR ρ ρ'/\∀A ρ'',LeR ρ' ρ''->(c.sc v).den (asgR A ρ'')=d.den A:=by
 cases c with
 |int=>
  simp only[gathC1] at h
  split at h
  .exact⟨_,ρ,h,fun _ _ q=>q,fun _ _ _=>rfl⟩
  cases h
 |bool=>
  simp only[gathC1] at h
  split at h
  .exact⟨_,ρ,h,fun _ _ q=>q,fun _ _ _=>rfl⟩
  cases h
 |str=>
  simp only[gathC1] at h
  split at h
  .exact⟨_,ρ,h,fun _ _ q=>q,fun _ _ _=>rfl⟩
  cases h
 |own j=>
  simp only[gathC1] at h
  split at h
  .obtain⟨q1,h2⟩:=bindT_run h
   exact⟨(),_,h2,q1,fun A ρ'' q=>(asgR_v (A:=A) (q _ _ (rnOf_head _ _ _))).1⟩
  .obtain⟨q1,h2⟩:=bindT_run h
   exact⟨(),_,h2,q1,fun A ρ'' q=>asgR_n (A:=A) (q _ _ (rnOf_head _ _ _))⟩
  cases h
 |mp j=>
  simp only[gathC1] at h
  split at h
  .obtain⟨q1,h2⟩:=bindT_run h
   exact⟨(),_,h2,q1,fun A ρ'' q=>by simp only[Cp.sc,Sc.den,(asgR_v (A:=A) (q _ _ (rnOf_head _ _ _))).2.2.1]⟩
  cases h
 |ptr j off=>
  simp only[gathC1] at h
  split at h
  .split at h
   .rename_i e
    have e:=beq_t e
    subst e
    obtain⟨q1,h2⟩:=bindT_run h
    exact⟨(),_,h2,q1,fun A ρ'' q=>by simp only[Cp.sc,Sc.den,(asgR_v (A:=A) (q _ _ (rnOf_head _ _ _))).2.1]⟩
   cases h
  cases h
 |clo f caps=>
  simp only[gathC1] at h
  split at h
  .obtain⟨e,h1⟩:=guardT_run h
   have e:=beq_t e
   subst e
   obtain⟨ρ',h2,h3,h4⟩:=bindL_run h1
   exact⟨(),ρ',h2,h3,fun A ρ'' q=>by simp only[Cp.sc,Sc.den,h4 A ρ'' q]⟩
  cases h
 |nilp=>
  simp only[gathC1] at h
  split at h
  .exact⟨(),ρ,h,fun _ _ q=>q,fun _ _ _=>rfl⟩
  cases h
 |nils=>
  simp only[gathC1] at h
  split at h
  .exact⟨(),ρ,h,fun _ _ q=>q,fun _ _ _=>rfl⟩
  cases h
theorem gathC_run {α:Type 1}:∀(cs:List Cp) (l:List Sc) (ρ:List (Nat×Option Nat)) (k:CpsV cs->List (Nat×Option Nat)->Tr α) {out:α},(gathC cs l ρ k).run s r=some out->
  ∃x ρ',(k x ρ').run s r=some out/\LeR ρ ρ'/\∀A ρ'',LeR ρ' ρ''->(scsOf cs x).map (Sc.den (asgR A ρ''))=l.map (Sc.den A):=by
 intro cs
 induction cs with
 |nil=>
  intro l ρ k out h
  cases l with
  |nil=>exact⟨(),ρ,h,fun _ _ q=>q,fun _ _ _=>rfl⟩
  |cons _ _=>cases h
 |cons c cs ih=>
  intro l ρ k out h
  cases l with
  |nil=>cases h
  |cons d l=>
   obtain⟨v,ρ1,h1,h2,h3⟩:=gathC1_run (show(gathC1 c d ρ fun v ρ=>gathC cs l ρ fun x=>k (v,x)).run s r=some out from h)
   obtain⟨x,ρ',h4,h5,h6⟩:=ih _ _ _ h1
   exact⟨(v,x),ρ',h4,h2.trans h5,fun A ρ'' q=>by simp only[scsOf,List.map_cons,h6 A ρ'' q,h3 A ρ'' (h5.trans q)]⟩
def PieceOk (r:Nat->Option R2)(ρ':List (Nat×Option Nat))(j:Nat)(z:R2):Prop:=∀A ρ'',LeR ρ' ρ''->
 (isAr z=false/\((∃q y,rnOf ρ'' j=some (some q)/\r q=some y/\z.den (asgR A ρ'') j=y.den A q)\/(rnOf ρ'' j=some none/\∃e t,z= .row e t ([]:List (El t)))))\/
  ∃(t:Ty) (l:List (El t)),z= .ar t l/\((∃q y,rnOf ρ'' j=some (some q)/\r q=some y/\asList y=some ⟨t,l⟩)\/(rnOf ρ'' j=some none/\l=[]))
theorem gathP_run {α:Type 1}:∀(sh:List Pc) (i:Nat) (ρ:List (Nat×Option Nat)) (k:PcsV sh->List (Nat×Option Nat)->Tr α) {out:α},(gathP i sh ρ k).run s r=some out->
  ∃xs ρ',(k xs ρ').run s r=some out/\LeR ρ ρ'/\∀j z,(j,some z)∈memOf i sh xs->PieceOk r ρ' j z:=by
 intro sh
 induction sh with
 |nil=>intro i ρ k out h;exact⟨(),ρ,h,fun _ _ q=>q,fun _ _ q=>by cases q⟩
 |cons sp sh ih=>
  intro i ρ k out h
  cases sp with
  |box t cs=>
   simp only[gathP] at h
   split at h
   .rename_i q hq
    obtain⟨y,hy,h⟩:=res_run h
    split at h
    .rename_i t' l
     obtain⟨e,h0⟩:=guardT_run h
     clear h
     have e:=beq_t e
     subst e
     obtain⟨x,ρ1,h1,h2,h3⟩:=gathC_run _ _ _ _ h0
     obtain⟨xs,ρ',h4,h5,h6⟩:=ih _ _ _ h1
     refine⟨(x,xs),ρ',h4,h2.trans h5,fun j z hj=>?_⟩
     rcases List.mem_cons.1 hj with e|hj
     .cases e
      refine fun A ρ'' hle=>.inl ⟨rfl,.inl ⟨q,_,hle _ _ (h5 _ _ (h2 _ _ hq)),hy,?_⟩⟩
      simp only[Pc.r2,R2.den,h3 A ρ'' (h5.trans hle),(asgR_v (A:=A) (hle _ _ (h5 _ _ (h2 _ _ hq)))).2.1]
     exact h6 j z hj
    cases h
   cases h
  |row e t=>
   simp only[gathP] at h
   split at h
   .rename_i q hq
    obtain⟨y,hy,h⟩:=res_run h
    split at h
    .rename_i e' t' l
     split at h
     .rename_i l' hl
      obtain⟨ee,rfl⟩:=castEl_ok hl
      cases ee
      obtain⟨e,h0⟩:=guardT_run h
      clear h
      have e:=beq_t e
      subst e
      obtain⟨xs,ρ',h4,h5,h6⟩:=ih _ _ _ h0
      refine⟨(_,xs),ρ',h4,h5,fun j z hj=>?_⟩
      rcases List.mem_cons.1 hj with e|hj
      .cases e
       refine fun A ρ'' hle=>.inl ⟨rfl,.inl ⟨q,_,hle _ _ (h5 _ _ hq),hy,?_⟩⟩
       simp only[Pc.r2,R2.den,(asgR_v (A:=A) (hle _ _ (h5 _ _ hq))).1]
      exact h6 j z hj
     cases h
    cases h
   .rename_i hq
    obtain⟨xs,ρ',h4,h5,h6⟩:=ih _ _ _ h
    refine⟨(_,xs),ρ',h4,h5,fun j z hj=>?_⟩
    rcases List.mem_cons.1 hj with e|hj
    .cases e
     exact fun A ρ'' hle=>.inl ⟨rfl,.inr ⟨hle _ _ (h5 _ _ hq),_,_,rfl⟩⟩
    exact h6 j z hj
   cases h
  |map kc t=>
   simp only[gathP] at h
   split at h
   .rename_i q hq
    obtain⟨y,hy,h⟩:=res_run h
    split at h
    .rename_i kc' t' l
     split at h
     .rename_i l' hl
      obtain⟨ee,rfl⟩:=castEl_ok hl
      cases ee
      obtain⟨xs,ρ',h4,h5,h6⟩:=ih _ _ _ h
      refine⟨(_,xs),ρ',h4,h5,fun j z hj=>?_⟩
      rcases List.mem_cons.1 hj with e|hj
      .cases e
       refine fun A ρ'' hle=>.inl ⟨rfl,.inl ⟨q,_,hle _ _ (h5 _ _ hq),hy,?_⟩⟩
       simp only[Pc.r2,R2.den,(asgR_v (A:=A) (hle _ _ (h5 _ _ hq))).2.2.1]
      exact h6 j z hj
     cases h
    cases h
   cases h
  |rd t=>
   simp only[gathP] at h
   split at h
   .rename_i q hq
    obtain⟨y,hy,h⟩:=res_run h
    split at h
    .rename_i t' l hal
     split at h
     .rename_i l' hl
      obtain⟨ee,rfl⟩:=castEl_ok hl
      cases ee
      obtain⟨xs,ρ',h4,h5,h6⟩:=ih _ _ _ h
      refine⟨(_,xs),ρ',h4,h5,fun j z hj=>?_⟩
      rcases List.mem_cons.1 hj with e|hj
      .cases e
       exact fun A ρ'' hle=>.inr ⟨_,_,rfl,.inl ⟨q,y,hle _ _ (h5 _ _ hq),hy,hal⟩⟩
      exact h6 j z hj
     cases h
    cases h
   .rename_i hq
    obtain⟨xs,ρ',h4,h5,h6⟩:=ih _ _ _ h
    refine⟨(_,xs),ρ',h4,h5,fun j z hj=>?_⟩
    rcases List.mem_cons.1 hj with e|hj
    .cases e
     exact fun A ρ'' hle=>.inr ⟨_,_,rfl,.inr ⟨hle _ _ (h5 _ _ hq),rfl⟩⟩
    exact h6 j z hj
   cases h
  |byt e=>
   simp only[gathP] at h
   split at h
   .rename_i q hq
    obtain⟨y,hy,h⟩:=res_run h
    split at h
    .rename_i e' l
     obtain⟨e,h0⟩:=guardT_run h
     clear h
     have e:=beq_t e
     subst e
     obtain⟨xs,ρ',h4,h5,h6⟩:=ih _ _ _ h0
     refine⟨(_,xs),ρ',h4,h5,fun j z hj=>?_⟩
     rcases List.mem_cons.1 hj with e|hj
     .cases e
      refine fun A ρ'' hle=>.inl ⟨rfl,.inl ⟨q,_,hle _ _ (h5 _ _ hq),hy,?_⟩⟩
      simp only[Pc.r2,R2.den,X2.den,(asgR_v (A:=A) (hle _ _ (h5 _ _ hq))).1]
     exact h6 j z hj
    cases h
   cases h
end
end Go.Proofs.YtnfdimfepbbbpaaGreatDoor
