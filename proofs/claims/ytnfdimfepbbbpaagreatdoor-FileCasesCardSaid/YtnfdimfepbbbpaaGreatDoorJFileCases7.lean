/-
  Texts joined by program: WkL, VFL1, VTR1, VTR2, VTR4, VTR3, VTF1, VTW3, VTW2, VTW4, VTR5, VTF2, VTF3, VTS1, VTF4, VTA4, FlQ, VZ3, VFP1, VFP5, VFP6, VFP7, VFP2, VFP4.
-/
import Derived.Test.YtnfdimfepbbbpaaGreatDoorJFileCases6
import Derived.WalkKit
import Derived.Deep.RegionWith
import Derived.Test.YtnfdimfepbbbpaaGreatDoorProg
import Derived.RecoverIn
set_option linter.unusedSimpArgs false
set_option linter.unusedVariables false
set_option maxRecDepth 100000
set_option maxHeartbeats 8000000
namespace Go.Proofs.YtnfdimfepbbbpaaGreatDoor
open Go.RowKit Go.Sort Go.Lib Go.Proofs.YtnfdimfepbbbpaaGreatDoor.Deep
theorem ints_row {S:Stab}{w:World}(l:List Int):RowRd S w (l.map (Value.int .i64)) l:=by
 refine⟨by show _=l.length*1;simp,fun i hi=>?_⟩
 show((l.map (Value.int .i64)).drop (i*1)).take 1=[.int .i64 l[i]]
 rw[Nat.mul_one,List.drop_eq_getElem_cons (by simpa using hi),List.take_succ_cons,List.take_zero]
 simp
theorem clone_row {o:Orig}{w:World}{S:Stab}{rs:List Res}(H:Fr o w S rs){v:Value}{l:List Int}(hv:Rd (· <w.heap.size) w v l)(hl:l.length<=1000000000):
  Calls Tryz.prog 48 #[v] w fun e w'=> ∃u,e= .returned u/\Fr o w' S (.row 3 u l::rs)/\Below w.heap.size w w':=by
 obtain⟨p,c,rfl,h1,h2,h3⟩:=rd_slice hv
 have hput:∀(u:Value) (w':World) (xs:List Value),w'.ownsRow w.heap.size 3 1 u l.length xs->xs=l.map (Value.int .i64)->Below w.heap.size w w'->Fr o w' S (.row 3 u l::rs):=by
  intro u w' xs hrow hxs hb
  refine(H.on hb).put _ ⟨xs,⟨hrow.1,?_⟩,by rw[hxs];exact ints_row l⟩ fun b hb'=>?_
  .rcases hrow.2 with h|⟨g,cap,cur,e1,e2,rest⟩
   .exact .inl h
   exact .inr ⟨g,cap,cur,e1,Nat.zero_le _,rest⟩
  rcases hrow.2 with⟨h,_⟩|⟨g,cap,cur,e1,e2,e3,_⟩
  .rw[h] at hb';cases hb'
  rw[e1] at hb'
  have e9:g=b:=Option.some.inj hb'
  have hlt:g<w'.heap.size:=(Array.getElem?_eq_some_iff.1 e3).1
  rw[<-e9]
  exact⟨Nat.le_trans H.below.size e2,hlt,fun hs=>by have:=H.inb g hs;omega,fun r hr e=>by have:=(H.own r hr g e).2.1;omega⟩
 cases p with
 |none=>
  have:l=[]:=by
   rcases h3 with h|⟨g,off,cur,t,fz,h,_⟩
   .exact h
   cases h
  subst this
  refine(Tryz.slices_Clone_int_nil 0 c w).mono fun e w' ⟨he,hw⟩=>⟨_,he,?_,?_⟩
  .subst hw;exact H.newRow 3
  subst hw;exact Below.refl _ _
 |some a=>
  by_cases hz:l=[]
  .subst hz
   refine(Tryz.slices_Clone_int_zero a c w).mono fun e w' ⟨u,he,hrow,_,hb⟩=>⟨u,he,hput u w' [] hrow rfl hb,hb⟩
  rcases h3 with h|⟨g,off,cur,t,fz,h,hg,hw,hc⟩
  .exact absurd h hz
  cases h
  refine(Tryz.slices_Clone_int g off l.length c l w (Nat.le_refl _) (by omega) fun j hj=>?_).mono fun e w' ⟨u,he,hrow,_,hb⟩=>⟨u,he,hput u w' _ hrow (by rw[List.take_length]) hb,hb⟩
  obtain⟨cs,hr,hq⟩:=hc j hj
  have hr:cs=[.int .i64 l[j]]:=hr
  have:=hq 0 (show 0<1 by decide)
  rw[hr] at this
  rw[cell_of_row w g _ cur t fz hw]
  have e:off+j*Data.size Int+0=off+j:=by show off+j*1+0=_;omega
  rw[e] at this
  rw[this]
  simp[List.getD_eq_getElem?_getD,List.getElem?_eq_getElem hj]
theorem clone_c:ConOk Tryz.prog 48 [(false,.list .int)] [.list .int] (fun x=>(show List Int from x.1).length<=1000000) (fun x=>(show List Int from x.1,())):=by
 intro o vs x hx hd
 match vs,hx with
 |[v],hx=>
  refine(clone_row (Fr.start o) (v:=v) (l:=show List Int from x.1) hx.1 (Nat.le_trans hd (by decide))).mono fun e w' ⟨u,he,H,hb⟩=>⟨u,he,?_,hb⟩
  exact H.give 0 rfl
def C_clone:Con Tryz.prog:=plain clone_c
theorem of_c:ConOk Tryz.prog 10 [(true,(.pair .int (.pair (.list .str) (.pair (.list (.pair .str (.pair .int edT))) (.pair ptT (.pair (.list (.list .int)) (.list (.list .int))))))))] [(.pair .int (.pair (.list .str) (.pair (.list (.pair .str (.pair .int edT))) (.pair ptT (.pair (.list (.list .int)) (.list (.list .int)))))))] (fun x=>(show List (ByteArray×Int×Int×Int) from x.1.2.2.1).length<=1000000) (fun x=>(((I_ x.1.1),((show List ByteArray from x.1.2.1),((show List (ByteArray×Int×Int×Int) from x.1.2.2.1),(((J_ x.1.2.2.2.1.1),(J_ x.1.2.2.2.1.2)),((K_ x.1.2.2.2.2.1),(K_ x.1.2.2.2.2.2)))))),())):=by
 refine con_of Tryz.f10 52 [] Tryz.func10 fun o x hd _ _ h=>?_
 obtain⟨⟨(K:Int),⟨(W:List ByteArray),⟨(E:List (ByteArray×Int×Int×Int)),⟨⟨(V:List Int),(L:List Int)⟩,⟨(T:List (List Int)),(S:List (List Int))⟩⟩⟩⟩⟩,_⟩:=x
 have hl0:(W.length:Int)<=9223372036854775807:=lenAt h 0 (t:=.str) (l:=W)
 have hl1:(E.length:Int)<=9223372036854775807:=lenAt h 1 (t:=(.pair .str (.pair .int edT))) (l:=E)
 have hl2:=lnI h 2 V
 have hl3:=lnI h 3 L
 have hl4:=lnL h 4 T
 have hl5:=lnL h 5 S
 change E.length<=1000000 at hd
 have hE:=hd
 refine go0 [] h fun _ _ h=>?_
 refine go_loop2 Int (List (ByteArray×Int×Int×Int)) (fun i oo=>⟨[(1,ep 0),(2,ep 1),(3,ep 2),(4,en i)],[(0,some (.box 31 [.v (.int .i64 K),.own 3,.own 4,.own 5,.own 6,.own 7,.own 8])),(1,some (.box 39 [.v (.int .i64 0),.v (.slice none 0 0),.v (.slice none 0 0),.v (.slice none 0 0),.v (.slice none 0 0),.v (.slice none 0 0),.v (.slice none 0 0)])),(2,some (.box 39 [.v (.int .i64 K),.own 3,.own 9,.own 5,.own 6,.own 7,.own 8])),(3,some (.ro .str W)),(4,some (.ro (.pair .str (.pair .int edT)) E)),(5,some (.ro .int V)),(6,some (.ro .int L)),(7,some (.ro (.list .int) T)),(8,some (.ro (.list .int) S)),(9,some (.row 84 (.pair .str (.pair .int edT)) oo))],10⟩) (fun i oo=>0<=i/\i<=(E.length:Int)/\oo=E.take i.toNat) (fun i oo=>((E.length:Int)-i).toNat) 0 [] [(0,some 6),(1,some 4102),(2,some 45062),(3,some 0),(4,some 1),(5,some 2),(6,some 3),(7,some 4),(8,some 5),(9,none)] h ⟨Int.le_refl _,Int.natCast_nonneg _,rfl⟩ fun i oo _ _ _ hK1 hI h=>?_
 obtain⟨h0,h1,h2⟩:=hI
 refine go0 [] h fun _ _ h=>?_
 refine go_if h (fun(q1:i<(E.length:Int))=>?_) (fun(q1:¬(i<(E.length:Int)))=>?_)
 .have hol:oo.length<=E.length:=by rw[h2,List.length_take];omega
  refine go (pr:=(Bnd i E.length)/\(Bnd i E.length)/\(Bnd i E.length)/\(Bnd i E.length)/\(oo.length+([(E.getD i.toNat (⟨#[]⟩,(0,(0,0))))]:List (ByteArray×Int×Int×Int)).length<=2147483647)/\(InR .i64 (i+1))) [] h ⟨bx,bx,bx,bx,ln,r64⟩ fun _ _ h=>?_
  exact lp_ (hK1 (i+1) (oo++([(E.getD i.toNat (⟨#[]⟩,(0,(0,0))))]:List (ByteArray×Int×Int×Int))) (rk [0,1,2,3,4,5,6,7,8,135178]) h ⟨by omega,by omega,by rw[tk_step (d:=ln0) h0 (by omega),h2]⟩ (by omega))
 refine go0 [] h fun _ _ h=>?_
 exact out (((K,(W,(oo,((V,L),(T,S))))):Int×(List ByteArray)×(List (ByteArray×Int×Int×Int))×((List Int)×List Int)×(List (List Int))×List (List Int)),()) h (by rw[h2,tk_all q1]<;>rfl)
def C_of:Con Tryz.prog:=plain of_c
theorem lists_c:ConOk Tryz.prog 49 [(false,(.list (.list .int)))] [(.list (.list .int))] (fun x=>szLL (K_ x.1)) (fun x=>((K_ x.1),())):=by
 refine con_of Tryz.f49 23 [C_clone] Tryz.func49 fun o x hd _ _ h=>?_
 obtain⟨(l:List (List Int)),_⟩:=x
 have hl0:=lnL h 0 l
 change szLL l at hd
 have hsz:=hd
 have hsz1:=hsz.1
 refine go (pr:=(0<=(l.length:Int)/\(l.length:Int)<=(l.length:Int)/\(l.length:Int)<=2147483647)) [] h (⟨by omega,by omega,by omega⟩) fun _ _ h=>?_
 refine go_loop2 Int (List (List Int)) (fun i oo=>⟨[(3,eo 0),(9,eo 1),(10,en (l.length:Int)),(11,en i)],[(0,some (.row 24 (.list .int) oo)),(1,some (.ar (.list .int) l))],2⟩) (fun i oo=>0<=i/\i<=(l.length:Int)/\oo=lsGo l i.toNat) (fun i oo=>((l.length:Int)-i).toNat) 0 (List.replicate (l.length:Int).toNat []) (rk [12289,0]) h ⟨Int.le_refl _,Int.natCast_nonneg _,lsGo_0 l⟩ fun i oo _ _ _ hK1 hI h=>?_
 obtain⟨h0,h1,h2⟩:=hI
 refine go0 [] h fun _ _ h=>?_
 refine go_if h (fun(q1:i<(l.length:Int))=>?_) (fun(q1:¬(i<(l.length:Int)))=>?_)
 .have hln:=hsz.2 _ (getD_mem' (l:=l) (i:=i.toNat) (d:=([]:List Int)) (by omega))
  have hol:oo.length=l.length:=by rw[h2];exact lsGo_len h0 (by omega)
  refine go (pr:=(Bnd i l.length)/\((l.getD i.toNat []).length<=1000000)/\(Bnd i oo.length)/\(Bnd i oo.length)/\(InR .i64 (i+1))) [] h ⟨bx,by omega,bx,bx,r64⟩ fun _ _ h=>?_
  exact lp_ (hK1 (i+1) (oo.set i.toNat (l.getD i.toNat [])) (ir 2) h ⟨by omega,by omega,by rw[h2];exact lsGo_set h0 (by omega)⟩ (by omega))
 refine go0 [] h fun _ _ h=>?_
 exact out ((oo:List (List Int)),()) h (by rw[h2,lsGo_all q1])
def C_lists:Con Tryz.prog:=plain lists_c
theorem case_c:ConOk Tryz.prog 20 [(false,(.pair .int (.pair (.list .str) (.pair (.list (.pair .str (.pair .int edT))) (.pair ptT (.pair (.list (.list .int)) (.list (.list .int))))))))] [(.pair grT (.pair ptT (.pair (.list (.list .int)) (.list (.list .int))))),.int] (fun x=>(show List (ByteArray×Int×Int×Int) from x.1.2.2.1).length<=1000000/\(J_ x.1.2.2.2.1.1).length<=1000000/\(J_ x.1.2.2.2.1.2).length<=1000000/\szLL (K_ x.1.2.2.2.2.1)/\szLL (K_ x.1.2.2.2.2.2)) (fun x=>((caseF (I_ x.1.1) (show List ByteArray from x.1.2.1) (show List (ByteArray×Int×Int×Int) from x.1.2.2.1) (J_ x.1.2.2.2.1.1) (J_ x.1.2.2.2.1.2) (K_ x.1.2.2.2.2.1) (K_ x.1.2.2.2.2.2)).1,(caseF (I_ x.1.1) (show List ByteArray from x.1.2.1) (show List (ByteArray×Int×Int×Int) from x.1.2.2.1) (J_ x.1.2.2.2.1.1) (J_ x.1.2.2.2.1.2) (K_ x.1.2.2.2.2.1) (K_ x.1.2.2.2.2.2)).2,())):=by
 refine con_of Tryz.f20 61 [C_clone,C_lists] Tryz.func20 fun o x hd _ _ h=>?_
 obtain⟨⟨(K:Int),⟨(W:List ByteArray),⟨(E:List (ByteArray×Int×Int×Int)),⟨⟨(V:List Int),(L:List Int)⟩,⟨(T:List (List Int)),(S:List (List Int))⟩⟩⟩⟩⟩,_⟩:=x
 have hl0:(W.length:Int)<=9223372036854775807:=lenAt h 0 (t:=.str) (l:=W)
 have hl1:(E.length:Int)<=9223372036854775807:=lenAt h 1 (t:=(.pair .str (.pair .int edT))) (l:=E)
 have hl2:=lnI h 2 V
 have hl3:=lnI h 3 L
 have hl4:=lnL h 4 T
 have hl5:=lnL h 5 S
 change E.length<=1000000/\V.length<=1000000/\L.length<=1000000/\szLL T/\szLL S at hd
 obtain⟨hE,hV,hL,hT,hS⟩:=hd
 refine go0 [] h fun _ _ h=>?_
 refine go_if h (fun(q1:¬(K=0))=>?_) (fun(q1:K=0)=>?_)
 .refine go0 [] h fun _ _ h=>?_
  exact out (((((0:Int),[]),(([],[]),([],[]))):(Int×List (Int×Int))×((List Int)×List Int)×(List (List Int))×List (List Int)),((16:Int):Int),()) h (by rw[caseF_kind q1]<;>rfl)
 refine go0 [] h fun _ _ h=>?_
 refine go_loop2 Int (List (Int×Int)) (fun i ge=>⟨[(1,ep 0),(2,ep 1),(4,ep 2),(17,eo 3),(18,en (E.length:Int)),(19,en i)],[(0,some (.box 39 [.v (.int .i64 K),.own 4,.own 3,.own 5,.own 6,.own 7,.own 8])),(1,some (.box 57 [.v (.int .i64 0),.v (.slice none 0 0),.v (.slice none 0 0),.v (.slice none 0 0),.v (.slice none 0 0),.v (.slice none 0 0)])),(2,some (.box 57 [.v (.int .i64 (W.length:Int)),.own 9,.v (.slice none 0 0),.v (.slice none 0 0),.v (.slice none 0 0),.v (.slice none 0 0)])),(3,some (.ar (.pair .str (.pair .int edT)) E)),(4,some (.ar .str W)),(5,some (.ar .int V)),(6,some (.ar .int L)),(7,some (.ar (.list .int) T)),(8,some (.ar (.list .int) S)),(9,some (.row 70 edT ge))],10⟩) (fun i ge=>0<=i/\i<=(E.length:Int)/\ge=edE (E.take i.toNat)/\∀j:Nat,(j:Int)<i->(E.getD j ln0).2.2.2=0) (fun i ge=>((E.length:Int)-i).toNat) 0 [] [(0,some 6),(1,some 4102),(2,some 45062),(3,some 1),(4,some 0),(5,some 2),(6,some 3),(7,some 4),(8,some 5),(9,none)] h ⟨Int.le_refl _,Int.natCast_nonneg _,rfl,fun j hj=>by omega⟩ fun i ge _ _ _ hK1 hI h=>?_
 obtain⟨h0,h1,h2,h3⟩:=hI
 refine go0 [] h fun _ _ h=>?_
 refine go_if h (fun(q2:i<(E.length:Int))=>?_) (fun(q2:¬(i<(E.length:Int)))=>?_)
 .have hol:ge.length<=E.length:=by rw[h2];unfold edE;rw[List.length_map,List.length_take];omega
  refine go (pr:=(Bnd i E.length)) [] h bx fun _ _ h=>?_
  refine go_if h (fun(q3:¬((((E.getD i.toNat (⟨#[]⟩,(0,(0,0)))).2).2).2=0))=>?_) (fun(q3:(((E.getD i.toNat (⟨#[]⟩,(0,(0,0)))).2).2).2=0)=>?_)
  .refine go0 [] h fun _ _ h=>?_
   exact out (((((0:Int),[]),(([],[]),([],[]))):(Int×List (Int×Int))×((List Int)×List Int)×(List (List Int))×List (List Int)),((1:Int):Int),()) h (by rw[caseF_in q1 h0 q2 q3]<;>rfl)
  refine go (pr:=(ge.length+([(((E.getD i.toNat (⟨#[]⟩,(0,(0,0)))).2).1,(((E.getD i.toNat (⟨#[]⟩,(0,(0,0)))).2).2).1)]:List (Int×Int)).length<=2147483647)/\(InR .i64 (i+1))) [] h ⟨ln,r64⟩ fun _ _ h=>?_
  exact lp_ (hK1 (i+1) (ge++([(((E.getD i.toNat (⟨#[]⟩,(0,(0,0)))).2).1,(((E.getD i.toNat (⟨#[]⟩,(0,(0,0)))).2).2).1)]:List (Int×Int))) (rk [0,1,2,3,4,5,6,7,8,69642]) h ⟨by omega,by omega,by rw[edE_take h0 (by omega),h2],fun j hj=>if z:(j:Int)<i then h3 j z else by rw[show j=i.toNat by omega];exact q3⟩ (by omega))
 refine go (pr:=(V.length<=1000000)/\(L.length<=1000000)/\(szLL T)/\(szLL S)) [] h ⟨by omega,by omega,by assumption,by assumption⟩ fun _ _ h=>?_
 exact out (((((W.length:Int),ge),((V,L),(T,S))):(Int×List (Int×Int))×((List Int)×List Int)×(List (List Int))×List (List Int)),((0:Int):Int),()) h (by rw[caseF_ok q1 q2 h3,h2,tk_all q2]<;>rfl)
noncomputable def C_case:Con Tryz.prog:=plain case_c
theorem rcase_c:ConOk Tryz.prog 21 [(true,(.pair .int (.pair (.list .str) (.pair (.list (.pair .str (.pair .int edT))) (.pair ptT (.pair (.list (.list .int)) (.list (.list .int))))))))] [(.pair grT (.pair ptT (.pair (.list (.list .int)) (.list (.list .int))))),.int] (fun x=>(show List (ByteArray×Int×Int×Int) from x.1.2.2.1).length<=1000000/\(J_ x.1.2.2.2.1.1).length<=1000000/\(J_ x.1.2.2.2.1.2).length<=1000000/\szLL (K_ x.1.2.2.2.2.1)/\szLL (K_ x.1.2.2.2.2.2)) (fun x=>((caseF (I_ x.1.1) (show List ByteArray from x.1.2.1) (show List (ByteArray×Int×Int×Int) from x.1.2.2.1) (J_ x.1.2.2.2.1.1) (J_ x.1.2.2.2.1.2) (K_ x.1.2.2.2.2.1) (K_ x.1.2.2.2.2.2)).1,(caseF (I_ x.1.1) (show List ByteArray from x.1.2.1) (show List (ByteArray×Int×Int×Int) from x.1.2.2.1) (J_ x.1.2.2.2.1.1) (J_ x.1.2.2.2.1.2) (K_ x.1.2.2.2.2.1) (K_ x.1.2.2.2.2.2)).2,())):=by
 refine con_of Tryz.f21 55 [] Tryz.func21 fun o x hd _ _ h=>?_
 obtain⟨⟨(K:Int),⟨(W:List ByteArray),⟨(E:List (ByteArray×Int×Int×Int)),⟨⟨(V:List Int),(L:List Int)⟩,⟨(T:List (List Int)),(S:List (List Int))⟩⟩⟩⟩⟩,_⟩:=x
 have hl0:(W.length:Int)<=9223372036854775807:=lenAt h 0 (t:=.str) (l:=W)
 have hl1:(E.length:Int)<=9223372036854775807:=lenAt h 1 (t:=(.pair .str (.pair .int edT))) (l:=E)
 have hl2:=lnI h 2 V
 have hl3:=lnI h 3 L
 have hl4:=lnL h 4 T
 have hl5:=lnL h 5 S
 change E.length<=1000000/\V.length<=1000000/\L.length<=1000000/\szLL T/\szLL S at hd
 obtain⟨hE,hV,hL,hT,hS⟩:=hd
 refine go0 [] h fun _ _ h=>?_
 refine go_if h (fun(q1:¬(K=0))=>?_) (fun(q1:K=0)=>?_)
 .refine go0 [] h fun _ _ h=>?_
  exact out (((((0:Int),[]),(([],[]),([],[]))):(Int×List (Int×Int))×((List Int)×List Int)×(List (List Int))×List (List Int)),((16:Int):Int),()) h (by rw[caseF_kind q1]<;>rfl)
 refine go0 [] h fun _ _ h=>?_
 refine go_loop2 Int (List (Int×Int)) (fun i ge=>⟨[(1,ep 0),(2,ep 1),(4,ep 2),(5,en i)],[(0,some (.box 31 [.v (.int .i64 K),.own 3,.own 4,.own 5,.own 6,.own 7,.own 8])),(1,some (.box 57 [.v (.int .i64 0),.v (.slice none 0 0),.v (.slice none 0 0),.v (.slice none 0 0),.v (.slice none 0 0),.v (.slice none 0 0)])),(2,some (.box 57 [.v (.int .i64 (W.length:Int)),.own 9,.own 5,.own 6,.own 7,.own 8])),(3,some (.ro .str W)),(4,some (.ro (.pair .str (.pair .int edT)) E)),(5,some (.ro .int V)),(6,some (.ro .int L)),(7,some (.ro (.list .int) T)),(8,some (.ro (.list .int) S)),(9,some (.row 70 edT ge))],10⟩) (fun i ge=>0<=i/\i<=(E.length:Int)/\ge=edE (E.take i.toNat)/\∀j:Nat,(j:Int)<i->(E.getD j ln0).2.2.2=0) (fun i ge=>((E.length:Int)-i).toNat) 0 [] [(0,some 6),(1,some 4102),(2,some 49158),(3,some 0),(4,some 1),(5,some 2),(6,some 3),(7,some 4),(8,some 5),(9,none)] h ⟨Int.le_refl _,Int.natCast_nonneg _,rfl,fun j hj=>by omega⟩ fun i ge _ _ _ hK1 hI h=>?_
 obtain⟨h0,h1,h2,h3⟩:=hI
 refine go0 [] h fun _ _ h=>?_
 refine go_if h (fun(q2:i<(E.length:Int))=>?_) (fun(q2:¬(i<(E.length:Int)))=>?_)
 .have hol:ge.length<=E.length:=by rw[h2];unfold edE;rw[List.length_map,List.length_take];omega
  refine go (pr:=(Bnd i E.length)) [] h bx fun _ _ h=>?_
  refine go_if h (fun(q3:¬((((E.getD i.toNat (⟨#[]⟩,(0,(0,0)))).2).2).2=0))=>?_) (fun(q3:(((E.getD i.toNat (⟨#[]⟩,(0,(0,0)))).2).2).2=0)=>?_)
  .refine go0 [] h fun _ _ h=>?_
   exact out (((((0:Int),[]),(([],[]),([],[]))):(Int×List (Int×Int))×((List Int)×List Int)×(List (List Int))×List (List Int)),((1:Int):Int),()) h (by rw[caseF_in q1 h0 q2 q3]<;>rfl)
  refine go (pr:=(Bnd i E.length)/\(Bnd i E.length)/\(ge.length+([(((E.getD i.toNat (⟨#[]⟩,(0,(0,0)))).2).1,(((E.getD i.toNat (⟨#[]⟩,(0,(0,0)))).2).2).1)]:List (Int×Int)).length<=2147483647)/\(InR .i64 (i+1))) [] h ⟨bx,bx,ln,r64⟩ fun _ _ h=>?_
  exact lp_ (hK1 (i+1) (ge++([(((E.getD i.toNat (⟨#[]⟩,(0,(0,0)))).2).1,(((E.getD i.toNat (⟨#[]⟩,(0,(0,0)))).2).2).1)]:List (Int×Int))) (rk [0,1,2,3,4,5,6,7,8,118794]) h ⟨by omega,by omega,by rw[edE_take h0 (by omega),h2],fun j hj=>if z:(j:Int)<i then h3 j z else by rw[show j=i.toNat by omega];exact q3⟩ (by omega))
 refine go0 [] h fun _ _ h=>?_
 exact out (((((W.length:Int),ge),((V,L),(T,S))):(Int×List (Int×Int))×((List Int)×List Int)×(List (List Int))×List (List Int)),((0:Int):Int),()) h (by rw[caseF_ok q1 q2 h3,h2,tk_all q2]<;>rfl)
noncomputable def C_rcase:Con Tryz.prog:=plain rcase_c
theorem pair_c:ConOk Tryz.prog 22 [(false,(.pair .int (.pair (.list .str) (.pair (.list (.pair .str (.pair .int edT))) (.pair ptT (.pair (.list (.list .int)) (.list (.list .int))))))))] [(.pair grT (.pair grT (.list .int))),.int] (fun x=>(show List (ByteArray×Int×Int×Int) from x.1.2.2.1).length<=1000000/\(J_ x.1.2.2.2.1.1).length<=1000000/\(J_ x.1.2.2.2.1.2).length<=1000000/\szLL (K_ x.1.2.2.2.2.1)/\szLL (K_ x.1.2.2.2.2.2)) (fun x=>((pairF (I_ x.1.1) (show List ByteArray from x.1.2.1) (show List (ByteArray×Int×Int×Int) from x.1.2.2.1) (J_ x.1.2.2.2.1.1) (J_ x.1.2.2.2.1.2) (K_ x.1.2.2.2.2.1) (K_ x.1.2.2.2.2.2)).1,(pairF (I_ x.1.1) (show List ByteArray from x.1.2.1) (show List (ByteArray×Int×Int×Int) from x.1.2.2.1) (J_ x.1.2.2.2.1.1) (J_ x.1.2.2.2.1.2) (K_ x.1.2.2.2.2.1) (K_ x.1.2.2.2.2.2)).2,())):=by
 refine con_of Tryz.f22 111 [] Tryz.func22 fun o x hd _ _ h=>?_
 obtain⟨⟨(K:Int),⟨(W:List ByteArray),⟨(E:List (ByteArray×Int×Int×Int)),⟨⟨(V:List Int),(L:List Int)⟩,⟨(T:List (List Int)),(S:List (List Int))⟩⟩⟩⟩⟩,_⟩:=x
 have hl0:(W.length:Int)<=9223372036854775807:=lenAt h 0 (t:=.str) (l:=W)
 have hl1:(E.length:Int)<=9223372036854775807:=lenAt h 1 (t:=(.pair .str (.pair .int edT))) (l:=E)
 have hl2:=lnI h 2 V
 have hl3:=lnI h 3 L
 have hl4:=lnL h 4 T
 have hl5:=lnL h 5 S
 change E.length<=1000000/\V.length<=1000000/\L.length<=1000000/\szLL T/\szLL S at hd
 obtain⟨hE,hV,hL,hT,hS⟩:=hd
 have hT1:=hT.1
 have hS1:=hS.1
 refine go0 [] h fun _ _ h=>?_
 refine go_if h (fun(q1:¬(K=1))=>?_) (fun(q1:K=1)=>?_)
 .refine go0 [] h fun _ _ h=>?_
  exact out (((((0:Int),[]),(((0:Int),[]),[])):(Int×List (Int×Int))×(Int×List (Int×Int))×List Int),((16:Int):Int),()) h (by rw[pairF_kind q1]<;>rfl)
 refine go (pr:=(InR .i64 ((V.length:Int)+(L.length:Int)))/\(InR .i64 (((V.length:Int)+(L.length:Int))+(T.length:Int)))/\(InR .i64 ((((V.length:Int)+(L.length:Int))+(T.length:Int))+(S.length:Int)))) [] h ⟨r64,r64,r64⟩ fun _ _ h=>?_
 refine go_if h (fun(q2:(0:Int)<(((V.length:Int)+(L.length:Int))+(T.length:Int))+(S.length:Int))=>?_) (fun(q2:¬((0:Int)<(((V.length:Int)+(L.length:Int))+(T.length:Int))+(S.length:Int)))=>?_)
 .refine go0 [] h fun _ _ h=>?_
  exact out (((((0:Int),[]),(((0:Int),[]),[])):(Int×List (Int×Int))×(Int×List (Int×Int))×List Int),((1:Int):Int),()) h (by rw[pairF_held q1 q2]<;>rfl)
 refine go0 [] h fun _ _ h=>?_
 refine go_loop4 Int (List (Int×Int)) (List (Int×Int)) (List Int) (fun i pa pb ps=>⟨[(2,ep 0),(4,ep 1),(43,eo 2),(44,en (E.length:Int)),(45,en i)],[(0,some (.box 63 [.v (.int .i64 0),.v (.slice none 0 0),.v (.int .i64 0),.v (.slice none 0 0),.v (.slice none 0 0)])),(1,some (.box 63 [.v (.int .i64 (W.length:Int)),.own 3,.v (.int .i64 (W.length:Int)),.own 4,.own 5])),(2,some (.ar (.pair .str (.pair .int edT)) E)),(3,some (.row 70 edT pa)),(4,some (.row 70 edT pb)),(5,some (.row 3 .int ps))],6⟩) (fun i pa pb ps=>0<=i/\i<=(E.length:Int)/\pa=(pGo (E.take i.toNat)).1/\pb=(pGo (E.take i.toNat)).2.1/\ps=(pGo (E.take i.toNat)).2.2/\∀j:Nat,(j:Int)<i->okIn (E.getD j ln0).2.2.2) (fun i pa pb ps=>((E.length:Int)-i).toNat) 0 [] [] [] [(0,some 4102),(1,some 143366),(2,some 1),(3,none),(4,none),(5,none)] h ⟨Int.le_refl _,Int.natCast_nonneg _,rfl,rfl,rfl,fun j hj=>by omega⟩ fun i pa pb ps _ _ _ hK1 hI h=>?_
 obtain⟨h0,h1,h2,h3,h4,h5⟩:=hI
 refine go0 [] h fun _ _ h=>?_
 refine go_if h (fun(q3:i<(E.length:Int))=>?_) (fun(q3:¬(i<(E.length:Int)))=>?_)
 .have hol:=pGo_lenT E i
  rw[<-h2,<-h3,<-h4] at hol
  obtain⟨hoa,hob,hos⟩:=hol
  refine go (pr:=(Bnd i E.length)) [] h bx fun _ _ h=>?_
  refine go_if h (fun(q4:(((E.getD i.toNat (⟨#[]⟩,(0,(0,0)))).2).2).2=0)=>?_) (fun(q4:¬((((E.getD i.toNat (⟨#[]⟩,(0,(0,0)))).2).2).2=0))=>?_)
  .refine go (pr:=(pa.length+([(((E.getD i.toNat (⟨#[]⟩,(0,(0,0)))).2).1,(((E.getD i.toNat (⟨#[]⟩,(0,(0,0)))).2).2).1)]:List (Int×Int)).length<=2147483647)/\(ps.length+([(pb.length:Int)]:List Int).length<=2147483647)/\(pb.length+([(((E.getD i.toNat (⟨#[]⟩,(0,(0,0)))).2).1,(((E.getD i.toNat (⟨#[]⟩,(0,(0,0)))).2).2).1)]:List (Int×Int)).length<=2147483647)/\(InR .i64 (i+1))) [] h ⟨ln,ln,ln,r64⟩ fun _ _ h=>?_
   exact lp_ (hK1 (i+1) (pa++([(((E.getD i.toNat (⟨#[]⟩,(0,(0,0)))).2).1,(((E.getD i.toNat (⟨#[]⟩,(0,(0,0)))).2).2).1)]:List (Int×Int))) (pb++([(((E.getD i.toNat (⟨#[]⟩,(0,(0,0)))).2).1,(((E.getD i.toNat (⟨#[]⟩,(0,(0,0)))).2).2).1)]:List (Int×Int))) (ps++([(pb.length:Int)]:List Int)) (rk [0,1,2,86022,163846,131078]) h ⟨by omega,by omega,by rw[pGo_take h0 (by omega),pStep_0 q4,h2],by rw[pGo_take h0 (by omega),pStep_0 q4,h3],by rw[pGo_take h0 (by omega),pStep_0 q4,h4,h3],fun j hj=>if z:(j:Int)<i then h5 j z else by rw[show j=i.toNat by omega];exact⟨by rw[q4];decide,by rw[q4];decide⟩⟩ (by omega))
  refine go0 [] h fun _ _ h=>?_
  refine go_if h (fun(q5:(((E.getD i.toNat (⟨#[]⟩,(0,(0,0)))).2).2).2=1)=>?_) (fun(q5:¬((((E.getD i.toNat (⟨#[]⟩,(0,(0,0)))).2).2).2=1))=>?_)
  .refine go (pr:=(pa.length+([(((E.getD i.toNat (⟨#[]⟩,(0,(0,0)))).2).1,(((E.getD i.toNat (⟨#[]⟩,(0,(0,0)))).2).2).1)]:List (Int×Int)).length<=2147483647)/\(ps.length+([(-1:Int)]:List Int).length<=2147483647)/\(InR .i64 (i+1))) [] h ⟨ln,ln,r64⟩ fun _ _ h=>?_
   exact lp_ (hK1 (i+1) (pa++([(((E.getD i.toNat (⟨#[]⟩,(0,(0,0)))).2).1,(((E.getD i.toNat (⟨#[]⟩,(0,(0,0)))).2).2).1)]:List (Int×Int))) pb (ps++([(-1:Int)]:List Int)) (rk [0,1,2,94214,4,122886]) h ⟨by omega,by omega,by rw[pGo_take h0 (by omega),pStep_1 q5,h2],by rw[pGo_take h0 (by omega),pStep_1 q5,h3],by rw[pGo_take h0 (by omega),pStep_1 q5,h4],fun j hj=>if z:(j:Int)<i then h5 j z else by rw[show j=i.toNat by omega];exact⟨by rw[q5];decide,by rw[q5];decide⟩⟩ (by omega))
  refine go0 [] h fun _ _ h=>?_
  refine go_if h (fun(q6:(((E.getD i.toNat (⟨#[]⟩,(0,(0,0)))).2).2).2=2)=>?_) (fun(q6:¬((((E.getD i.toNat (⟨#[]⟩,(0,(0,0)))).2).2).2=2))=>?_)
  .refine go (pr:=(pb.length+([(((E.getD i.toNat (⟨#[]⟩,(0,(0,0)))).2).1,(((E.getD i.toNat (⟨#[]⟩,(0,(0,0)))).2).2).1)]:List (Int×Int)).length<=2147483647)/\(InR .i64 (i+1))) [] h ⟨ln,r64⟩ fun _ _ h=>?_
   exact lp_ (hK1 (i+1) pa (pb++([(((E.getD i.toNat (⟨#[]⟩,(0,(0,0)))).2).1,(((E.getD i.toNat (⟨#[]⟩,(0,(0,0)))).2).2).1)]:List (Int×Int))) ps (rk [0,1,2,3,102406,5]) h ⟨by omega,by omega,by rw[pGo_take h0 (by omega),pStep_2 q4 q5,h2],by rw[pGo_take h0 (by omega),pStep_2 q4 q5,h3],by rw[pGo_take h0 (by omega),pStep_2 q4 q5,h4],fun j hj=>if z:(j:Int)<i then h5 j z else by rw[show j=i.toNat by omega];exact⟨by rw[q6];decide,by rw[q6];decide⟩⟩ (by omega))
  refine go0 [] h fun _ _ h=>?_
  exact out (((((0:Int),[]),(((0:Int),[]),[])):(Int×List (Int×Int))×(Int×List (Int×Int))×List Int),((1:Int):Int),()) h (by rw[pairF_in q1 h0 q3 (fun z=>by have z1:0<=(E.getD i.toNat (⟨#[]⟩,(0,(0,0)))).2.2.2/\(E.getD i.toNat (⟨#[]⟩,(0,(0,0)))).2.2.2<=2:=z;omega)]<;>rfl)
 refine go0 [] h fun _ _ h=>?_
 exact out (((((W.length:Int),pa),(((W.length:Int),pb),ps)):(Int×List (Int×Int))×(Int×List (Int×Int))×List Int),((0:Int):Int),()) h (by rw[pairF_ok q1 q2 q3 h5,h2,h3,h4,tk_all q3]<;>rfl)
noncomputable def C_pair:Con Tryz.prog:=plain pair_c
theorem turned_c:ConOk Tryz.prog 82 [(false,(.list .int)),(false,.int)] [(.list .int)] (fun x=>0<=(I_ x.2.1)/\(I_ x.2.1)<=((J_ x.1).length:Int)/\(J_ x.1).length<=1000000) (fun x=>(turnL (J_ x.1) (I_ x.2.1),())):=by
 refine con_of Tryz.f82 20 [] Tryz.func82 fun o x hd _ _ h=>?_
 obtain⟨(l:List Int),(i:Int),_⟩:=x
 have hl0:=lnI h 0 l
 change 0<=i/\i<=(l.length:Int)/\l.length<=1000000 at hd
 obtain⟨i0,i1,hl⟩:=hd
 refine go (pr:=(0<=(0:Int)/\(0:Int)<=(l.length:Int)/\(l.length:Int)<=2147483647)/\(0<=i/\i<=(l.length:Int))/\((List.replicate (0:Int).toNat 0).length+(l.drop i.toNat).length<=2147483647)/\(0<=i/\i<=i/\i<=(l.length:Int))/\(((List.replicate (0:Int).toNat 0)++(l.drop i.toNat)).length+(l.take i.toNat).length<=2147483647)) [] h ⟨⟨by omega,by omega,by omega⟩,ct,ln,⟨by omega,by omega,by omega⟩,ln⟩ fun _ _ h=>?_
 exact out (((((List.replicate (0:Int).toNat 0)++(l.drop i.toNat))++(l.take i.toNat)):List Int),()) h rfl
def C_turned:Con Tryz.prog:=plain turned_c
theorem first_c:ConOk Tryz.prog 54 [(false,(.list .int))] [(.list .int)] (fun x=>(J_ x.1).length<=1000000) (fun x=>(firstL (J_ x.1),())):=by
 refine con_of Tryz.f54 24 [C_turned] Tryz.func54 fun o x hd _ _ h=>?_
 obtain⟨(l:List Int),_⟩:=x
 have hl0:=lnI h 0 l
 change l.length<=1000000 at hd
 have hb:=leastF_b l l.length
 refine go0 [] h fun _ _ h=>?_
 refine go_loop2 Int Int (fun i b=>⟨[(0,eo 0),(3,en b),(6,eo 0),(7,en (l.length:Int)),(8,en i)],[(0,some (.ar .int l))],1⟩) (fun i b=>0<=i/\i<=(l.length:Int)/\b=leastF l i.toNat) (fun i b=>((l.length:Int)-i).toNat) 0 0 (ir 1) h ⟨Int.le_refl _,Int.natCast_nonneg _,rfl⟩ fun i b _ _ _ hK1 hI h=>?_
 obtain⟨h0,h1,h2⟩:=hI
 refine go0 [] h fun _ _ h=>?_
 refine go_if h (fun(q1:i<(l.length:Int))=>?_) (fun(q1:¬(i<(l.length:Int)))=>?_)
 .obtain⟨b0,b1⟩:=leastF_b l i.toNat
  rw[<-h2] at b0 b1
  refine go (pr:=(Bnd i l.length)/\(Bnd b l.length)) [] h ⟨bx,bx⟩ fun _ _ h=>?_
  refine go_if h (fun(q2:(l.getD i.toNat 0)<(l.getD b.toNat 0))=>?_) (fun(q2:¬((l.getD i.toNat 0)<(l.getD b.toNat 0)))=>?_)
  .refine go (pr:=(InR .i64 (i+1))) [] h r64 fun _ _ h=>?_
   exact lp_ (hK1 (i+1) i (ir 1) h ⟨by omega,by omega,by rw[leastF_snoc l h0,<-h2,if_pos q2]⟩ (by omega))
  refine go (pr:=(InR .i64 (i+1))) [] h r64 fun _ _ h=>?_
  exact lp_ (hK1 (i+1) b (ir 1) h ⟨by omega,by omega,by rw[leastF_snoc l h0,<-h2,if_neg q2]⟩ (by omega))
 obtain⟨b0,b1⟩:=leastF_b l i.toNat
 rw[<-h2] at b0 b1
 have he:i.toNat=l.length:=by omega
 rw[he] at h2
 refine go (pr:=(0<=b/\b<=(l.length:Int)/\l.length<=1000000)) [] h (⟨by omega,by omega,by omega⟩) fun _ _ h=>?_
 exact out ((turnL l b:List Int),()) h (by rw[h2];rfl)
def C_first:Con Tryz.prog:=plain first_c
theorem take_c:ConOk Tryz.prog 118 [(false,(.list (.list .int))),(true,(.map .int .int)),(true,(.list .int))] [(.ptr (.pair (.list (.list .int)) (.pair (.map .int .int) (.pair (.map .int .int) (.list .int)))))] (fun x=>inLL (K_ x.1)/\szLL (K_ x.1)) (fun x=>(some ((K_ x.1).map firstL,(show MapD .int Int from x.2.1),plcF (K_ x.1) (K_ x.1).length,(J_ x.2.2.1)),())):=by
 refine con_of Tryz.f118 54 [C_first] Tryz.func118 fun o x hd _ _ h=>?_
 obtain⟨(turn:List (List Int)),(lv:MapD .int Int),(ds:List Int),_⟩:=x
 have hl0:=lnL h 0 turn
 have hl2:=lnI h 2 ds
 change inLL turn/\szLL turn at hd
 obtain⟨hin,hsz⟩:=hd
 have hsz1:=hsz.1
 refine go0 [] h fun _ _ h=>?_
 refine go_loop3 Int (List (List Int)) (List (Int×Int)) (fun i ts pl=>⟨[(7,ep 0),(20,eo 1),(21,en (turn.length:Int)),(22,en i)],[(0,some (.box 196 [.own 2,.mp 3,.mp 4,.own 5])),(1,some (.ar (.list .int) turn)),(2,some (.row 24 (.list .int) ts)),(3,some (.mro .int .int lv)),(4,some (.map .int .int pl)),(5,some (.ro .int ds))],6⟩) (fun i ts pl=>0<=i/\i<=(turn.length:Int)/\ts=(turn.take i.toNat).map firstL/\pl=plcF turn i.toNat) (fun i ts pl=>((turn.length:Int)-i).toNat) 0 [] [] [(0,some 28675),(1,some 0),(2,none),(3,some 1),(4,some 16387),(5,some 2)] h ⟨Int.le_refl _,Int.natCast_nonneg _,rfl,rfl⟩ fun i ts pl _ _ _ hK1 hI h=>?_
 obtain⟨h0,h1,h2,h3⟩:=hI
 refine go0 [] h fun _ _ h=>?_
 refine go_if h (fun(q1:i<(turn.length:Int))=>?_) (fun(q1:¬(i<(turn.length:Int)))=>?_)
 .have hm:(turn.getD i.toNat [])∈turn:=getD_mem' (by omega)
  have hs2:=hsz.2 _ hm
  have hpl:=plcF_len hsz i.toNat
  have hfl:=firstL_len (turn.getD i.toNat [])
  have hts:ts.length=i.toNat:=by rw[h2,List.length_map,List.length_take];omega
  have hpc:=plc1_len (plcF turn i.toNat) (firstL (turn.getD i.toNat []))
  refine go (pr:=(Bnd i turn.length)/\((turn.getD i.toNat []).length<=1000000)) [] h ⟨bx,by omega⟩ fun _ _ h=>?_
  refine go_loop2 Int (List (Int×Int)) (fun j pm=>⟨[(7,ep 0),(10,eo 1),(20,eo 2),(21,en (turn.length:Int)),(22,en i),(28,eo 1),(29,en ((firstL (turn.getD i.toNat [])).length:Int)),(30,en j)],[(0,some (.box 196 [.own 3,.mp 4,.mp 5,.own 6])),(1,some (.ro .int (firstL (turn.getD i.toNat [])))),(2,some (.ar (.list .int) turn)),(3,some (.row 24 (.list .int) ts)),(4,some (.mro .int .int lv)),(5,some (.map .int .int pm)),(6,some (.ro .int ds))],7⟩) (fun j pm=>0<=j/\j<=((firstL (turn.getD i.toNat [])).length:Int)/\pm=plc1 (plcF turn i.toNat) (firstL (turn.getD i.toNat [])) j.toNat) (fun j pm=>(((firstL (turn.getD i.toNat [])).length:Int)-j).toNat) 0 pl (rk [0,20486,1,2,3,4,5]) h ⟨Int.le_refl _,Int.natCast_nonneg _,h3⟩ fun j pm _ _ _ hK2 hI h=>?_
  obtain⟨j0,j1,j2⟩:=hI
  refine go0 [] h fun _ _ h=>?_
  refine go_if h (fun(q2:j<((firstL (turn.getD i.toNat [])).length:Int))=>?_) (fun(q2:¬(j<((firstL (turn.getD i.toNat [])).length:Int)))=>?_)
  .have hk:=hin _ hm _ (firstL_mem (getD_mem' (l:=firstL (turn.getD i.toNat [])) (i:=j.toNat) (d:=0) (by omega)))
   have hpj:=hpc j.toNat
   rw[<-j2] at hpj
   refine go (pr:=(Bnd j (firstL (turn.getD i.toNat [])).length)/\(kwf .int ((firstL (turn.getD i.toNat [])).getD j.toNat 0))/\(pm.length<=2147483647)/\(InR .i64 (j+1))) [] h ⟨bx,wk,ln,r64⟩ fun _ _ h=>?_
   exact lp_ (hK2 (j+1) (ptI pm ((firstL (turn.getD i.toNat [])).getD j.toNat 0) j) (ir 7) h ⟨by omega,by omega,by rw[plc1_snoc j0,<-j2]⟩ (by omega))
  have hj:j.toNat=(firstL (turn.getD i.toNat [])).length:=by omega
  have hpm:=j2
  rw[hj] at hpm
  refine go (pr:=(ts.length+([firstL (turn.getD i.toNat [])]:List (List Int)).length<=2147483647)/\(InR .i64 (i+1))) [] h ⟨ln,r64⟩ fun _ _ h=>?_
  exact lp_ (hK1 (i+1) (ts++([firstL (turn.getD i.toNat [])]:List (List Int))) pm (rk [0,2,32775,4,5,6]) h ⟨by omega,by omega,by rw[map_snocI [] h0 q1,<-h2],by rw[plcF_snoc h0];exact hpm⟩ (by omega))
 have he:i.toNat=turn.length:=by omega
 rw[he] at h2 h3
 rw[List.take_length] at h2
 refine go0 [] h fun _ _ h=>?_
 exact out (((some (ts,(lv,(pl,ds)))):Option ((List (List Int))×(MapD .int Int)×(MapD .int Int)×List Int)),()) h (by rw[h2,h3];rfl)
def C_take:Con Tryz.prog:=plain take_c
theorem rnew_c:ConOk Tryz.prog 89 [(false,grT),(false,ptT),(false,(.list (.list .int)))] [(.ptr (.pair (.list (.list .int)) (.pair (.map .int .int) (.pair (.map .int .int) (.list .int))))),.int] (fun x=>inR (I_ x.1.1)/\inLL (K_ x.2.2.1)/\szLL (K_ x.2.2.1)) (fun x=>((newF (I_ x.1.1) (E_ x.1.2) (J_ x.2.1.1) (J_ x.2.1.2) (K_ x.2.2.1)).1,(newF (I_ x.1.1) (E_ x.1.2) (J_ x.2.1.1) (J_ x.2.1.2) (K_ x.2.2.1)).2,())):=by
 refine con_of Tryz.f89 135 [C_rpart,C_take] Tryz.func89 fun o x hd _ _ h=>?_
 obtain⟨⟨(n:Int),(E:List (Int×Int))⟩,⟨(V:List Int),(L:List Int)⟩,(T:List (List Int)),_⟩:=x
 have hl0:=lnE h 0 E
 have hl1:=lnI h 1 V
 have hl2:=lnI h 2 L
 have hl3:=lnL h 3 T
 change inR n/\inLL T/\szLL T at hd
 obtain⟨hn,hin,hsz⟩:=hd
 have hsz1:=hsz.1
 refine go (pr:=(inR n)) [] h hn fun _ _ h=>?_
 refine go_if h (fun(q1:¬(partE n E V L=0))=>?_) (fun(q1:partE n E V L=0)=>?_)
 .refine go0 [] h fun _ _ h=>?_
  exact out ((none:Option ((List (List Int))×(MapD .int Int)×(MapD .int Int)×List Int)),(partE n E V L:Int),()) h (by simp only[newF,if_pos q1];rfl)
 have hp0:=q1
 obtain⟨hr,_,hL,_⟩:=partE_0 hp0
 obtain⟨r1,r2,r3,_⟩:=rightE_0 hr
 have hLl:=rises_len hL (by omega)
 refine go0 [] h fun _ _ h=>?_
 refine go_if h (fun(q2:¬((T.length:Int)=n))=>?_) (fun(q2:(T.length:Int)=n)=>?_)
 .refine go0 [] h fun _ _ h=>?_
  exact out ((none:Option ((List (List Int))×(MapD .int Int)×(MapD .int Int)×List Int)),((5:Int):Int),()) h (by rw[newF_len hp0 q2];rfl)
 have hT:=q2
 refine go (pr:=(InR .i64 (2*(L.length:Int)))/\(InR .i64 (2*(L.length:Int)))/\(0<=(0:Int)/\(0:Int)<=2*(L.length:Int)/\2*(L.length:Int)<=2147483647)) [] h ⟨r64,r64,⟨by omega,by omega,by omega⟩⟩ fun _ _ h=>?_
 refine go_loop3 Int (List (Int×Int)) (List Int) (fun i lv ds=>⟨[(2,eo 0),(3,ep 1),(9,em 2),(10,eo 3),(44,eo 4),(45,en (L.length:Int)),(46,en i)],[(0,some (.ar (.list .int) T)),(1,some (.box 55 [.v (.int .i64 n),.own 5])),(2,some (.map .int .int lv)),(3,some (.row 3 .int ds)),(4,some (.ar .int L)),(5,some (.ar edT E))],6⟩) (fun i lv ds=>0<=i/\i<=(L.length:Int)/\lv=lvF E L i.toNat/\ds=dsF L i.toNat) (fun i lv ds=>((L.length:Int)-i).toNat) 0 [] [] (rk [3,4,77828,102404,2,0]) h ⟨Int.le_refl _,Int.natCast_nonneg _,rfl,rfl⟩ fun i lv ds _ _ _ hK1 hI h=>?_
 obtain⟨i0,i1,i2,i3⟩:=hI
 refine go0 [] h fun _ _ h=>?_
 refine go_if h (fun(q3:i<(L.length:Int))=>?_) (fun(q3:¬(i<(L.length:Int)))=>?_)
 .obtain⟨k1,k2,_⟩:=hL i.toNat (by omega)
  have hll:=lvF_len E L i.toNat
  rw[<-i2] at hll
  have hdl:=dsF_len L i.toNat
  rw[<-i3] at hdl
  have hs1:=entE_len lv (2*(L.getD i.toNat 0)) (E.getD (L.getD i.toNat 0).toNat (0,0)).1
  have hs4:=ptI_len (entE lv (2*(L.getD i.toNat 0)) (E.getD (L.getD i.toNat 0).toNat (0,0)).1) (2*(L.getD i.toNat 0)+1) ((lkI (entE lv (2*(L.getD i.toNat 0)) (E.getD (L.getD i.toNat 0).toNat (0,0)).1) (2*(L.getD i.toNat 0)+1)).getD 0)
  unfold entE at hs1 hs4
  have hs2:=ptI_len lv (2*(L.getD i.toNat 0)) ((lkI lv (2*(L.getD i.toNat 0))).getD 0)
  refine go (pr:=(Bnd i L.length)/\(InR .i64 (2*(L.getD i.toNat 0)))/\(InR .i64 (2*(L.getD i.toNat 0)))/\(InR .i64 ((2*(L.getD i.toNat 0))+1))/\(Bnd (L.getD i.toNat 0) E.length)/\(Bnd (L.getD i.toNat 0) E.length)/\(kwf .int (2*(L.getD i.toNat 0)))/\(lv.length<=2147483647)/\(klit .int (2*(L.getD i.toNat 0))=klit .int (2*(L.getD i.toNat 0)))/\(kwf .int (2*(L.getD i.toNat 0)))/\((ptI lv (2*(L.getD i.toNat 0)) ((lkI lv (2*(L.getD i.toNat 0))).getD 0)).length<=2147483647)/\(kwf .int ((2*(L.getD i.toNat 0))+1))/\((ptI (ptI lv (2*(L.getD i.toNat 0)) ((lkI lv (2*(L.getD i.toNat 0))).getD 0)) (2*(L.getD i.toNat 0)) ((E.getD (L.getD i.toNat 0).toNat (0,0)).1)).length<=2147483647)/\(klit .int ((2*(L.getD i.toNat 0))+1)=klit .int ((2*(L.getD i.toNat 0))+1))/\(kwf .int ((2*(L.getD i.toNat 0))+1))/\((ptI (ptI (ptI lv (2*(L.getD i.toNat 0)) ((lkI lv (2*(L.getD i.toNat 0))).getD 0)) (2*(L.getD i.toNat 0)) ((E.getD (L.getD i.toNat 0).toNat (0,0)).1)) ((2*(L.getD i.toNat 0))+1) ((lkI (ptI (ptI lv (2*(L.getD i.toNat 0)) ((lkI lv (2*(L.getD i.toNat 0))).getD 0)) (2*(L.getD i.toNat 0)) ((E.getD (L.getD i.toNat 0).toNat (0,0)).1)) ((2*(L.getD i.toNat 0))+1)).getD 0)).length<=2147483647)/\(InR .i64 (2*(L.getD i.toNat 0)))/\(InR .i64 (2*(L.getD i.toNat 0)))/\(InR .i64 ((2*(L.getD i.toNat 0))+1))/\(ds.length+([2*(L.getD i.toNat 0),(2*(L.getD i.toNat 0))+1]:List Int).length<=2147483647)/\(InR .i64 (i+1))) [] h ⟨bx,r64,r64,r64,bx,bx,wk,ln,rfl,wk,ln,wk,ln,rfl,wk,ln,r64,r64,r64,ln,r64⟩ fun _ _ h=>?_
  exact lp_ (hK1 (i+1) (ptI (ptI (ptI (ptI lv (2*(L.getD i.toNat 0)) ((lkI lv (2*(L.getD i.toNat 0))).getD 0)) (2*(L.getD i.toNat 0)) ((E.getD (L.getD i.toNat 0).toNat (0,0)).1)) ((2*(L.getD i.toNat 0))+1) ((lkI (ptI (ptI lv (2*(L.getD i.toNat 0)) ((lkI lv (2*(L.getD i.toNat 0))).getD 0)) (2*(L.getD i.toNat 0)) ((E.getD (L.getD i.toNat 0).toNat (0,0)).1)) ((2*(L.getD i.toNat 0))+1)).getD 0)) ((2*(L.getD i.toNat 0))+1) ((E.getD (L.getD i.toNat 0).toNat (0,0)).2)) (ds++([2*(L.getD i.toNat 0),(2*(L.getD i.toNat 0))+1]:List Int)) (rk [0,1,2,147462,4,5]) h ⟨by omega,by omega,by rw[lvF_snoc i0,<-i2];rfl,by rw[dsF_snoc i0,<-i3]⟩ (by omega))
 have he:i.toNat=L.length:=by omega
 rw[he] at i2 i3
 have hlv:=i2
 have hds:=i3
 refine go0 [] h fun _ _ h=>?_
 refine go_loop2 Int (List (Int×Int)) (fun v P=>⟨[(2,eo 0),(9,em 1),(10,eo 2),(13,em 3),(85,eo 0),(86,en (T.length:Int)),(87,en v)],[(0,some (.ar (.list .int) T)),(1,some (.map .int .int lv)),(2,some (.row 3 .int ds)),(3,some (.map .int .int P))],4⟩) (fun v P=>0<=v/\v<=(T.length:Int)/\ckF lv T v.toNat=some P) (fun v P=>((T.length:Int)-v).toNat) 0 [] (rk [0,2,3,12294]) h ⟨Int.le_refl _,Int.natCast_nonneg _,rfl⟩ fun v P _ _ _ hK2 hI h=>?_
 obtain⟨v0,v1,v2⟩:=hI
 refine go0 [] h fun _ _ h=>?_
 refine go_if h (fun(q4:v<(T.length:Int))=>?_) (fun(q4:¬(v<(T.length:Int)))=>?_)
 .have hm:(T.getD v.toNat [])∈T:=getD_mem' (by omega)
  have hs3:=hsz.2 _ hm
  have hPl:=ckF_len hsz v2
  refine go (pr:=(Bnd v T.length)) [] h bx fun _ _ h=>?_
  refine go_loop2 Int (List (Int×Int)) (fun j Q=>⟨[(2,eo 0),(9,em 1),(10,eo 2),(13,em 3),(14,en v),(85,eo 0),(86,en (T.length:Int)),(87,en v),(92,eo 4),(93,en ((T.getD v.toNat []).length:Int)),(94,en j)],[(0,some (.ar (.list .int) T)),(1,some (.map .int .int lv)),(2,some (.row 3 .int ds)),(3,some (.map .int .int Q)),(4,some (.ar .int (T.getD v.toNat [])))],5⟩) (fun j Q=>0<=j/\j<=((T.getD v.toNat []).length:Int)/\ck1 lv v (T.getD v.toNat []) P j.toNat=some Q) (fun j Q=>(((T.getD v.toNat []).length:Int)-j).toNat) 0 P (rk [0,1,2,3,12292]) h ⟨Int.le_refl _,Int.natCast_nonneg _,rfl⟩ fun j Q _ _ _ hK3 hI h=>?_
  obtain⟨j0,j1,j2⟩:=hI
  refine go0 [] h fun _ _ h=>?_
  refine go_if h (fun(q5:j<((T.getD v.toNat []).length:Int))=>?_) (fun(q5:¬(j<((T.getD v.toNat []).length:Int)))=>?_)
  .have hk:=hin _ hm _ (getD_mem' (l:=(T.getD v.toNat [])) (i:=j.toNat) (d:=0) (by omega))
   have hQl:=ck1_len j2
   refine go (pr:=(Bnd j (T.getD v.toNat []).length)/\(kwf .int ((T.getD v.toNat []).getD j.toNat 0))/\(kwf .int ((T.getD v.toNat []).getD j.toNat 0))) [] h ⟨bx,wk,wk⟩ fun _ _ h=>?_
   refine go_if h (fun(q6:((((lkI lv ((T.getD v.toNat []).getD j.toNat 0)).isSome)=false)\/(¬(((lkI lv ((T.getD v.toNat []).getD j.toNat 0)).getD 0)=v)))\/(((lkI Q ((T.getD v.toNat []).getD j.toNat 0)).isSome)=true))=>?_) (fun(q6:((((lkI lv ((T.getD v.toNat []).getD j.toNat 0)).isSome)=true)/\(((lkI lv ((T.getD v.toNat []).getD j.toNat 0)).getD 0)=v))/\(((lkI Q ((T.getD v.toNat []).getD j.toNat 0)).isSome)=false))=>?_)
   .have hnk:¬((lkI lv ((T.getD v.toNat []).getD j.toNat 0)).isSome=true/\(lkI lv ((T.getD v.toNat []).getD j.toNat 0)).getD 0=v/\(lkI Q ((T.getD v.toNat []).getD j.toNat 0)).isSome=false):=fun hc=>by obtain⟨y1,y2,y3⟩:=hc;rcases q6 with(z|z)|z<;>first|exact z y2|(rw[y1] at z;cases z)|(rw[y3] at z;cases z)
    have hb1:ck1 lv v (T.getD v.toNat []) P (j+1).toNat=none:=by rw[ck1_step j0 j2,if_neg hnk]
    have hb2:=ck1_none hb1 (m:=(T.getD v.toNat []).length) (by omega)
    have hb3:ckF lv T (v+1).toNat=none:=by rw[ckF_step v0 v2];exact hb2
    have hbad:=ckF_none hb3 (m:=T.length) (by omega)
    refine go0 [] h fun _ _ h=>?_
    exact out ((none:Option ((List (List Int))×(MapD .int Int)×(MapD .int Int)×List Int)),((5:Int):Int),()) h (by rw[newF_bad hp0 hT (by rw[<-hlv];exact hbad)];rfl)
   have hck:(lkI lv ((T.getD v.toNat []).getD j.toNat 0)).isSome=true/\(lkI lv ((T.getD v.toNat []).getD j.toNat 0)).getD 0=v/\(lkI Q ((T.getD v.toNat []).getD j.toNat 0)).isSome=false:=by obtain⟨⟨z1,z2⟩,z3⟩:=q6;exact⟨z1,z2,z3⟩
   refine go (pr:=(kwf .int ((T.getD v.toNat []).getD j.toNat 0))/\(Q.length<=2147483647)/\(InR .i64 (j+1))) [] h ⟨wk,ln,r64⟩ fun _ _ h=>?_
   exact lp_ (hK3 (j+1) (ptI Q ((T.getD v.toNat []).getD j.toNat 0) j) (ir 5) h ⟨by omega,by omega,by rw[ck1_step j0 j2,if_pos hck]⟩ (by omega))
  have hje:j.toNat=(T.getD v.toNat []).length:=by omega
  have hj2:=j2
  rw[hje] at hj2
  refine go (pr:=(InR .i64 (v+1))) [] h r64 fun _ _ h=>?_
  exact lp_ (hK2 (v+1) Q (ir 4) h ⟨by omega,by omega,by rw[ckF_step v0 v2];exact hj2⟩ (by omega))
 have hve:v.toNat=T.length:=by omega
 have hck2:=v2
 rw[hve] at hck2
 have hPl:=ckF_len hsz v2
 refine go0 [] h fun _ _ h=>?_
 refine go_if h (fun(q7:¬((P.length:Int)=(lv.length:Int)))=>?_) (fun(q7:(P.length:Int)=(lv.length:Int))=>?_)
 .refine go0 [] h fun _ _ h=>?_
  exact out ((none:Option ((List (List Int))×(MapD .int Int)×(MapD .int Int)×List Int)),((5:Int):Int),()) h (by rw[hlv] at hck2 q7;rw[newF_cnt hp0 hT hck2 q7];rfl)
 refine go (pr:=(inLL T/\szLL T)) [] h (⟨hin,hsz⟩) fun _ _ h=>?_
 exact out ((some (T.map firstL,lv,plcF T T.length,ds):Option ((List (List Int))×(MapD .int Int)×(MapD .int Int)×List Int)),((0:Int):Int),()) h (by rw[hlv] at hck2 q7;rw[newF_ok hp0 hT hck2 q7,hlv,hds];rfl)
def C_rnew:Con Tryz.prog:=plain rnew_c
theorem beside_c:ConOk Tryz.prog 120 [(false,(.ptr (.pair (.list (.list .int)) (.pair (.map .int .int) (.pair (.map .int .int) (.list .int)))))),(false,.int),(false,.int)] [.int,.bool] (fun x=>RotD (show Option ((List (List Int))×(MapD .int Int)×(MapD .int Int)×List Int) from x.1) (I_ x.2.1)/\-1<=(I_ x.2.2.1)/\(I_ x.2.2.1)<=1/\-9223372036854775808<=(I_ x.2.1)/\(I_ x.2.1)<=9223372036854775807) (fun x=>((besideF (show Option ((List (List Int))×(MapD .int Int)×(MapD .int Int)×List Int) from x.1) (I_ x.2.1) (I_ x.2.2.1)).1,(besideF (show Option ((List (List Int))×(MapD .int Int)×(MapD .int Int)×List Int) from x.1) (I_ x.2.1) (I_ x.2.2.1)).2,())):=by
 refine con_of Tryz.f120 48 [] Tryz.func120 fun o x hd _ _ h=>?_
 obtain⟨(r:Option ((List (List Int))×(MapD .int Int)×(MapD .int Int)×List Int)),(d:Int),(s:Int),_⟩:=x
 change RotD r d/\-1<=s/\s<=1/\-9223372036854775808<=d/\d<=9223372036854775807 at hd
 obtain⟨hr,s0,s1,d0,d1⟩:=hd
 obtain⟨⟨T,lv,pl,ds⟩,rfl⟩:=RotD.some hr
 change ∀v,lkI lv d=some v->_ at hr
 refine go0 [] h fun _ _ h=>?_
 refine go_if h (fun(q1:((some (T,lv,pl,ds)).isNone)=true)=>?_) (fun(q1:((some (T,lv,pl,ds)).isNone)=false)=>?_)
 .cases q1
 refine go (pr:=((some (T,lv,pl,ds)).isSome=true)/\(kwf .int d)) [] h ⟨rfl,wk⟩ fun _ _ h=>?_
 refine go_if h (fun(q2:((lkI lv d).isSome)=false)=>?_) (fun(q2:((lkI lv d).isSome)=true)=>?_)
 .have hv:lkI lv d=none:=by cases hq:lkI lv d with|none=>rfl|some _=>rw[hq] at q2;simp at q2
  refine go0 [] h fun _ _ h=>?_
  exact out (((0:Int):Int),(false:Bool),()) h (by simp only[besideF,hv];rfl)
 obtain⟨v,hv⟩:∃v,lkI lv d=some v:=Option.isSome_iff_exists.1 (by simpa using q2)
 have hg:(lkI lv d).getD 0=v:=by rw[hv];rfl
 obtain⟨v0,v1,v2,v3,v4⟩:=hr v hv
 rw[<-hg] at v0 v1 v2 v4
 have hmd:=Int.emod_nonneg ((lkI pl d).getD 0+s+(T.getD ((lkI lv d).getD 0).toNat []).length) (show((T.getD ((lkI lv d).getD 0).toNat []).length:Int)≠0 by omega)
 have hme:=Int.emod_lt_of_pos ((lkI pl d).getD 0+s+(T.getD ((lkI lv d).getD 0).toNat []).length) (show 0<((T.getD ((lkI lv d).getD 0).toNat []).length:Int) by omega)
 refine go (pr:=((some (T,lv,pl,ds)).isSome=true)/\(Bnd ((lkI lv d).getD 0) T.length)/\((some (T,lv,pl,ds)).isSome=true)/\(kwf .int d)/\(InR .i64 (((lkI pl d).getD 0)+s))/\(InR .i64 ((((lkI pl d).getD 0)+s)+((T.getD ((lkI lv d).getD 0).toNat []).length:Int)))/\(0<=(((lkI pl d).getD 0)+s)+((T.getD ((lkI lv d).getD 0).toNat []).length:Int)/\0<((T.getD ((lkI lv d).getD 0).toNat []).length:Int))/\(Bnd (((((lkI pl d).getD 0)+s)+((T.getD ((lkI lv d).getD 0).toNat []).length:Int))%((T.getD ((lkI lv d).getD 0).toNat []).length:Int)) (T.getD ((lkI lv d).getD 0).toNat []).length)) [] h ⟨rfl,bx,rfl,wk,r64,r64,⟨by omega,by omega⟩,bx⟩ fun _ _ h=>?_
 exact out ((((T.getD ((lkI lv d).getD 0).toNat []).getD (((((lkI pl d).getD 0)+s)+((T.getD ((lkI lv d).getD 0).toNat []).length:Int))%((T.getD ((lkI lv d).getD 0).toNat []).length:Int)).toNat 0):Int),(true:Bool),()) h (by simp only[besideF,hv];rfl)
def C_beside:Con Tryz.prog:=plain beside_c
theorem rnext_c:ConOk Tryz.prog 91 [(false,(.ptr (.pair (.list (.list .int)) (.pair (.map .int .int) (.pair (.map .int .int) (.list .int)))))),(false,.int)] [.int,.bool] (fun x=>RotD (show Option ((List (List Int))×(MapD .int Int)×(MapD .int Int)×List Int) from x.1) (twinE (I_ x.2.1))/\0<=(I_ x.2.1)/\(I_ x.2.1)<=1000000) (fun x=>((besideF (show Option ((List (List Int))×(MapD .int Int)×(MapD .int Int)×List Int) from x.1) (twinE (I_ x.2.1)) (-1)).1,(besideF (show Option ((List (List Int))×(MapD .int Int)×(MapD .int Int)×List Int) from x.1) (twinE (I_ x.2.1)) (-1)).2,())):=by
 refine con_of Tryz.f91 12 [C_beside] Tryz.func91 fun o x hd _ _ h=>?_
 obtain⟨(r:Option ((List (List Int))×(MapD .int Int)×(MapD .int Int)×List Int)),(d:Int),_⟩:=x
 change RotD r (twinE d)/\0<=d/\d<=1000000 at hd
 obtain⟨hr,d0,d1⟩:=hd
 obtain⟨t0,t1⟩:0<=(if d%2=0 then d+1 else d-1)/\(if d%2=0 then d+1 else d-1)<=1000001:=by split<;>omega
 refine go (pr:=(0<=d/\d<=9223372036854775807)/\(RotD r (if d%2=0 then d+1 else d-1)/\-1<=(-1:Int)/\(-1:Int)<=1/\-9223372036854775808<=(if d%2=0 then d+1 else d-1)/\(if d%2=0 then d+1 else d-1)<=9223372036854775807)) [] h ⟨⟨by omega,by omega⟩,⟨hr,by omega,by omega,by omega,by omega⟩⟩ fun _ _ h=>?_
 exact out (((besideF r (if d%2=0 then d+1 else d-1) (-1:Int)).1:Int),((besideF r (if d%2=0 then d+1 else d-1) (-1:Int)).2:Bool),()) h rfl
def C_rnext:Con Tryz.prog:=plain rnext_c
theorem walks_c:ConOk Tryz.prog 68 [(false,grT),(false,ptT),(false,(.list (.list .int)))] [(.list (.pair .int (.list .int))),.int] (fun x=>inR (I_ x.1.1)/\inLL (K_ x.2.2.1)/\szLL (K_ x.2.2.1)) (fun x=>((walksF (I_ x.1.1) (E_ x.1.2) (J_ x.2.1.1) (J_ x.2.1.2) (K_ x.2.2.1)).1,(walksF (I_ x.1.1) (E_ x.1.2) (J_ x.2.1.1) (J_ x.2.1.2) (K_ x.2.2.1)).2,())):=by
 refine con_ofD Tryz.f68 103 [C_rnew,C_rnext,inl [] [] Tryz.func90] Tryz.func68 fun o x hd _ _ h=>?_
 obtain⟨⟨(n:Int),(E:List (Int×Int))⟩,⟨(V:List Int),(L:List Int)⟩,(T:List (List Int)),_⟩:=x
 have hl0:=lnE h 0 E
 have hl1:=lnI h 1 V
 have hl2:=lnI h 2 L
 have hl3:=lnL h 3 T
 change inR n/\inLL T/\szLL T at hd
 obtain⟨hn,hin,hsz⟩:=hd
 have hsz1:=hsz.1
 refine go (pr:=(inR n/\inLL T/\szLL T)) [] h (⟨hn,hin,hsz⟩) fun _ _ h=>?_
 refine go_if h (fun(q1:¬((newF n E V L T).2=0))=>?_) (fun(q1:(newF n E V L T).2=0)=>?_)
 .refine go0 [] h fun _ _ h=>?_
  exact outD [] [] (([]:List (Int×List Int)),((newF n E V L T).2:Int),()) h (by simp only[walksF,if_pos q1];rfl)
 obtain⟨hp0,hT,hr⟩:=newF_0 q1
 obtain⟨hrt,hV,hL,_⟩:=partE_0 hp0
 obtain⟨r1,r2,r3,_⟩:=rightE_0 hrt
 have hVl:=rises_len hV r1
 have hLl:=rises_len hL (by omega)
 have hTl:=hT.len
 have hdl:=dsF_len L L.length
 refine go (pr:=(InR .i64 ((V.length:Int)-1))) [] h r64 fun _ _ h=>?_
 refine go_loop2 Int (List (Int×List Int)) (fun i out=>⟨[(2,eo 0),(4,ep 1),(8,ep 2),(10,ep 3),(11,en i)],[(0,some (.ar (.list .int) T)),(1,some (.box 26 [.own 4,.own 5])),(2,some (.box 163 [.pd 6])),(3,some (.box 141 [.own 7])),(4,some (.ar .int V)),(5,some (.ar .int L)),(6,some (.ext (.pro (.pair (.list (.list .int)) (.pair (.map .int .int) (.pair (.map .int .int) (.list .int)))) ((newF n E V L T).1)))),(7,some (.row 145 (.pair .int (.list .int)) out))],8⟩) (fun i out=> -1<=i/\i<(V.length:Int)/\out=lnF V T (V.length-(i+1).toNat)) (fun i out=>(i+1).toNat) ((V.length:Int)-1) [] [(0,some 3),(1,some 4100),(2,some 45060),(3,some 65540),(4,some 1),(5,some 2),(6,some 28676),(7,none)] h ⟨by omega,by omega,by rw[show V.length-((V.length:Int)-1+1).toNat=0 by omega];rfl⟩ fun i out _ _ _ hK1 hI h=>?_
 obtain⟨h0,h1,h2⟩:=hI
 refine go0 [] h fun _ _ h=>?_
 refine go_if h (fun(q2:(0:Int)<=i)=>?_) (fun(q2:¬((0:Int)<=i))=>?_)
 .have i0:0<=i:=q2
  have i1:=h1
  obtain⟨v0,v1,_⟩:=hV i.toNat (by omega)
  have hol:=lnF_len V T (V.length-(i+1).toNat)
  rw[<-h2] at hol
  refine go (pr:=(Bnd i V.length)/\(Bnd (V.getD i.toNat 0) T.length)) [] h ⟨bx,bx⟩ fun _ _ h=>?_
  refine go_if h (fun(q3:((T.getD (V.getD i.toNat 0).toNat []).length:Int)=0)=>?_) (fun(q3:¬(((T.getD (V.getD i.toNat 0).toNat []).length:Int)=0))=>?_)
  .refine go (pr:=(InR .i64 ((-1)-(V.getD i.toNat 0)))/\(out.length+([((-1)-(V.getD i.toNat 0),[])]:List (Int×List Int)).length<=2147483647)/\(InR .i64 (i-1))) [] h ⟨r64,ln,r64⟩ fun _ _ h=>?_
   exact lp_ (hK1 (i-1) (out++([((-1)-(V.getD i.toNat 0),[])]:List (Int×List Int))) (rk [0,1,2,3,4,5,6,77832]) h ⟨by omega,by omega,by rw[lnF_step i0 i1,if_pos (by omega),<-h2]⟩ (by omega))
  refine go (pr:=(InR .i64 (i-1))) [] h r64 fun _ _ h=>?_
  exact lp_ (hK1 (i-1) out (ir 8) h ⟨by omega,by omega,by rw[lnF_step i0 i1,if_neg (by omega),<-h2]⟩ (by omega))
 have hi:V.length-(i+1).toNat=V.length:=by omega
 rw[hi] at h2
 have hol:=lnF_len V T V.length
 rw[<-h2] at hol
 refine go0 [] h fun _ _ h=>?_
 refine go_range (Y:=(List (Int×Int))) darts_it (fun m=>⟨[(8,ep 0),(10,ep 1),(13,ep 2),(58,some ⟨[],.one (.clo 119 [(3,0)])⟩)],[(0,some (.box 163 [.pd 4])),(1,some (.box 141 [.own 5])),(2,some (.box 140 [.mp 6])),(3,some (.box 163 [.pd 4])),(4,some (.ext (.pro (.pair (.list (.list .int)) (.pair (.map .int .int) (.pair (.map .int .int) (.list .int)))) ((newF n E V L T).1)))),(5,some (.row 145 (.pair .int (.list .int)) out)),(6,some (.map .int .int m))],7⟩) 5 (fun k=>fun m=>m=idM (dsF L L.length) k/\True) ([]) (rk [2,3,12296,24584,6,7,8200]) (show PtrD (El rotT) from(newF n E V L T).1) (T.map firstL,(lvF E L L.length,(plcF T T.length,dsF L L.length))) h hr ⟨rfl,tv⟩ (fun k m _ _ _ _ _ _ _ _ _ hK2 hk_ hI h=>?_) (fun m D1 _ _ hI h=>?_)
 .obtain⟨h4,_⟩:=hI
  change k<(dsF L L.length).length at hk_
  have hxd:isDart L ((dsF L L.length).getD k 0):=(dsF_all _).1 (mem_getDA.2 ⟨k,hk_,rfl⟩)
  obtain⟨_,x0,x1⟩:=next_rot hp0 hT hsz hxd
  have hml:=id_len (dsF L L.length) k
  rw[<-h4] at hml
  refine go (pr:=(kwf .int ((dsF L L.length).getD k 0))/\(m.length<=2147483647)) [] h ⟨wk,ln⟩ fun _ _ h=>?_
  exact rg_ (hK2 (ptI m ((dsF L L.length).getD k 0) ((dsF L L.length).getD k 0)) (ir 7) h ⟨by rw[h4];rfl,tv⟩)
 obtain⟨h4,_⟩:=hI
 change m=idM (dsF L L.length) (dsF L L.length).length at h4
 have hmd:∀y,(lkI m y).isSome=true->isDart L y:=fun y hy=>(dsF_all y).1 (by rw[h4] at hy;have:=(id_look (Nat.le_refl _) y).1 hy;rwa[List.take_length] at this)
 have hml:=id_len (dsF L L.length) (dsF L L.length).length
 rw[<-h4] at hml
 refine go0 [] h fun _ _ h=>?_
 refine go_range (Y:=(List (Int×Int))×(List (Int×List Int))) darts_it (fun x_=>(fun(m2:List (Int×Int)) (o2:List (Int×List Int))=>⟨[(8,ep 0),(10,ep 1),(13,ep 2),(64,some ⟨[],.one (.clo 119 [(3,0)])⟩)],[(0,some (.box 163 [.pd 4])),(1,some (.box 141 [.own 6])),(2,some (.box 140 [.mp 7])),(3,some (.box 163 [.pd 4])),(4,some (.ext (.pro (.pair (.list (.list .int)) (.pair (.map .int .int) (.pair (.map .int .int) (.list .int)))) ((newF n E V L T).1)))),(5,some (.ext (.dfr D1))),(6,some (.row 145 (.pair .int (.list .int)) o2)),(7,some (.map .int .int m2))],8⟩) x_.1 x_.2) 5 (fun k=>fun x_=>(fun(m2:List (Int×Int)) (o2:List (Int×List Int))=>RunInv L (newF n E V L T).1 (dsF L L.length) out k m2 o2) x_.1 x_.2) (m,out) (rk [0,1,2,4104,4,7,5,6]) (show PtrD (El rotT) from(newF n E V L T).1) (T.map firstL,(lvF E L L.length,(plcF T T.length,dsF L L.length))) h hr ⟨by rw[h4];rfl,rfl,by rw[h4];exact kn_id _ _,hmd,Nat.le_refl _⟩ (fun k x_ _ _ _ _ _ _ _ _ _ hK3 hk_ hI h=>?_) (fun x_ D2 _ _ hI h=>?_)
 .obtain⟨m2,o2⟩:=x_
  obtain⟨k1,k2,k3,k4,k5⟩:=hI
  dsimp only at k1 k2 k3 k4 k5
  change k<(dsF L L.length).length at hk_
  have hxd:isDart L ((dsF L L.length).getD k 0):=(dsF_all _).1 (mem_getDA.2 ⟨k,hk_,rfl⟩)
  obtain⟨_,x0,x1⟩:=next_rot hp0 hT hsz hxd
  have hm2:m2.length<=(dsF L L.length).length:=kn_le_ds k3 k4
  refine go (pr:=(kwf .int ((dsF L L.length).getD k 0))) [] h wk fun _ _ h=>?_
  refine go_if h (fun(q4:((lkI m2 ((dsF L L.length).getD k 0)).isSome)=false)=>?_) (fun(q4:((lkI m2 ((dsF L L.length).getD k 0)).isSome)=true)=>?_)
  .refine go0 [] h fun _ _ h=>?_
   exact rg_ (hK3 (m2,o2) (ir 8) h (runW_no (by rw[<-k1];exact q4) ⟨k1,k2,k3,k4,k5⟩))
  have hyes:(lkI m2 ((dsF L L.length).getD k 0)).isSome=true:=q4
  refine go0 [] h fun _ _ h=>?_
  refine go_loop4 Int Bool (List (Int×Int)) (List Int) (fun x ok mm acc=>⟨[(8,ep 0),(10,ep 1),(13,ep 2),(15,en ((dsF L L.length).getD k 0)),(18,ep 5),(19,en x),(20,some ⟨[],.one (.b (.raw ok))⟩),(65,en ((dsF L L.length).getD k 0))],[(0,some (.box 163 [.pd 4])),(1,some (.box 141 [.own 7])),(2,some (.box 140 [.mp 8])),(3,some (.box 163 [.pd 4])),(4,some (.ext (.pro (.pair (.list (.list .int)) (.pair (.map .int .int) (.pair (.map .int .int) (.list .int)))) ((newF n E V L T).1)))),(5,some (.box 145 [.v (.int .i64 ((dsF L L.length).getD k 0)),.own 9])),(6,some (.ext (.dfr D1))),(7,some (.row 145 (.pair .int (.list .int)) o2)),(8,some (.map .int .int mm)),(9,some (.row 3 .int acc))],10⟩) (fun x ok mm acc=>(ok=true/\(lkI mm x).isSome=true/\orbF (newF n E V L T).1 mm.length mm x acc=orbF (newF n E V L T).1 m2.length m2 ((dsF L L.length).getD k 0) []\/ok=false/\(mm,acc)=orbF (newF n E V L T).1 m2.length m2 ((dsF L L.length).getD k 0) [])/\KN mm/\(∀y,(lkI mm y).isSome=true->isDart L y)/\acc.length+mm.length<=10000) (fun x ok mm acc=>mm.length) ((dsF L L.length).getD k 0) true m2 [] [(0,some 0),(1,some 1),(2,some 2),(3,some 3),(4,some 4),(5,some 53256),(6,some 5),(7,some 6),(8,some 7),(9,none)] h ⟨.inl ⟨rfl,hyes,rfl⟩,k3,k4,by simp only[List.length_nil];omega⟩ fun x ok mm acc _ _ _ hK4 hI h=>?_
  obtain⟨hor,kk,kd,kl⟩:=hI
  refine go0 [] h fun _ _ h=>?_
  refine go_if h (fun(q5:ok=true)=>?_) (fun(q5:ok=false)=>?_)
  .obtain⟨_,hs,ho⟩:=hor.resolve_right fun z=>by rw[q5] at z;cases z.1
   have hxn:=kd x hs
   obtain⟨hnr,y0,y1⟩:=next_rot hp0 hT hsz hxn
   have hnr:RotD (newF n E V L T).1 (twinE x):=by rw[hr];exact hnr
   have hdl2:=kn_dl_len kk hs
   have hnn:isDart L (besideF (newF n E V L T).1 (twinE x) (-1)).1:=by rw[hr];exact(next_dart hp0 hT hxn).1
   obtain⟨_,z0,z1⟩:=next_rot hp0 hT hsz hnn
   refine go (pr:=(kwf .int x)/\(acc.length+([x]:List Int).length<=2147483647)/\(RotD ((newF n E V L T).1) (twinE x)/\0<=x/\x<=1000000)/\(kwf .int ((besideF ((newF n E V L T).1) (twinE x) (-1)).1))) [] h ⟨wk,ln,⟨hnr,by omega,by omega⟩,wk⟩ fun _ _ h=>?_
   exact lp_ (hK4 ((besideF ((newF n E V L T).1) (twinE x) (-1)).1) ((lkI (dlI mm x) ((besideF ((newF n E V L T).1) (twinE x) (-1)).1)).isSome) (dlI mm x) (acc++([x]:List Int)) (rk [0,1,2,3,4,5,6,7,8,32778]) h ⟨orb_inv kk hs ho,kn_dl kk x,dl_dart kd x,by rw[List.length_append];simp only[List.length_cons,List.length_nil];omega⟩ (by omega))
  obtain⟨_,hR⟩:=hor.resolve_left fun z=>by rw[q5] at z;cases z.1
  refine go (pr:=(o2.length+([(((dsF L L.length).getD k 0),acc)]:List (Int×List Int)).length<=2147483647)) [] h ln fun _ _ h=>?_
  exact rg_ (hK3 (mm,(o2++([(((dsF L L.length).getD k 0),acc)]:List (Int×List Int)))) (rk [0,1,2,3,4,6,16394,8]) h (runW_yes hk_ (by rw[<-k1];exact hyes) (by rw[<-k1];exact hR) kk kd ⟨k1,k2,k3,k4,k5⟩))
 obtain⟨m2,o2⟩:=x_
 obtain⟨k1,k2,k3,k4,k5⟩:=hI
 dsimp only at k1 k2 k3 k4 k5
 change o2=(runW (newF n E V L T).1 (dsF L L.length) out (dsF L L.length).length).2 at k2
 refine go0 [] h fun _ _ h=>?_
 exact outD [8,5] [D2,D1] ((o2:List (Int×List Int)),((0:Int):Int),()) h (by rw[k2,h2,walksF_ok q1])
def C_walks:Con Tryz.prog:=plain walks_c
theorem wtarget_c:ConOk Tryz.prog 178 [(false,grT),(false,.int)] [.int] (fun x=>0<=(I_ x.2.1)/\(I_ x.2.1)/2<((E_ x.1.2).length:Int)/\(I_ x.2.1)<=1000000) (fun x=>(headE (E_ x.1.2) (I_ x.2.1),())):=by
 refine con_of Tryz.f178 22 [] Tryz.func178 fun o x hd _ _ h=>?_
 obtain⟨⟨(n:Int),(E:List (Int×Int))⟩,(d:Int),_⟩:=x
 have hl0:=lnE h 0 E
 change 0<=d/\d/2<(E.length:Int)/\d<=1000000 at hd
 obtain⟨d0,d1,d2⟩:=hd
 refine go (pr:=(0<=d/\0<(2:Int))) [] h (⟨by omega,by omega⟩) fun _ _ h=>?_
 refine go_if h (fun(q1:d%2=0)=>?_) (fun(q1:¬(d%2=0))=>?_)
 .refine go (pr:=(0<=d/\0<(2:Int)/\InR .i64 d)/\(Bnd (d/2) E.length)) [] h ⟨⟨by omega,by omega,⟨by omega,by omega⟩⟩,bx⟩ fun _ _ h=>?_
  exact out (((E.getD (d/2).toNat (0,0)).2:Int),()) h (by unfold headE;first|rw[if_pos q1];rfl|rw[if_neg q1];rfl)
 refine go (pr:=(0<=d/\0<(2:Int)/\InR .i64 d)/\(Bnd (d/2) E.length)) [] h ⟨⟨by omega,by omega,⟨by omega,by omega⟩⟩,bx⟩ fun _ _ h=>?_
 exact out (((E.getD (d/2).toNat (0,0)).1:Int),()) h (by unfold headE;first|rw[if_pos q1];rfl|rw[if_neg q1];rfl)
def C_target:Con Tryz.prog:=plain wtarget_c
theorem reach_c:ConOk Tryz.prog 165 [(false,grT),(false,(.map .int (.list .int))),(false,.int),(false,.int)] [(.map .int .int)] (fun x=>rightE (I_ x.1.1) (E_ x.1.2)=0/\DOk (E_ x.1.2) (show MapD .int (List Int) from x.2.1)/\0<=(I_ x.2.2.1)/\(I_ x.2.2.1)<1024) (fun x=>(reachF (E_ x.1.2) (show MapD .int (List Int) from x.2.1) (I_ x.2.2.1) (I_ x.2.2.2.1),())):=by
 refine con_of Tryz.f165 74 [C_target,inl [] [(6,false)] Tryz.func183,inl [] [] Tryz.func177,inl [] [] Tryz.func182] Tryz.func165 fun o x hd _ _ h=>?_
 obtain⟨⟨(n:Int),(E:List (Int×Int))⟩,(M:MapD .int (List Int)),(a:Int),(shut:Int),_⟩:=x
 have hl0:=lnE h 0 E
 change rightE n E=0/\DOk E M/\0<=a/\a<1024 at hd
 obtain⟨hr,hD,ha0,ha1⟩:=hd
 obtain⟨hn0,hn1,hE,_⟩:=rightE_0 hr
 refine go (pr:=(kwf .int a)/\(([]:MapD .int Int).length<=2147483647)/\(([]:List Int).length+([a]:List Int).length<=2147483647)/\(¬((([a]:List Int).length:Int)=0))/\(Bnd (0:Int) ([a]:List Int).length)/\(0<=(1:Int)/\(1:Int)<=(([a]:List Int).length:Int))) [] h ⟨wk,ln,ln,by simp,bx,ct⟩ fun _ _ h=>?_
 refine go_loop (Int×Bool×List Int×(List (Int×Int))×Nat) (fun x_=>(fun(v:Int) (ok:Bool) (q:List Int) (m:List (Int×Int)) (k:Nat)=>⟨[(1,em 0),(3,en shut),(4,ep 1),(9,em 2),(10,some ⟨[],.one (.clo 182 [(3,0)])⟩),(11,some ⟨[],.one (.clo 183 [(3,0)])⟩),(12,en v),(13,some ⟨[],.one (.b (.raw ok))⟩)],[(0,some (.mar .int (.list .int) M)),(1,some (.box 55 [.v (.int .i64 n),.own 4])),(2,some (.map .int .int m)),(3,some (.box 24 [.own 5])),(4,some (.ar edT E)),(5,some (.row 3 .int q))],6⟩) x_.1 x_.2.1 x_.2.2.1 x_.2.2.2.1 x_.2.2.2.2) (fun x_=>(fun(v:Int) (ok:Bool) (q:List Int) (m:List (Int×Int)) (k:Nat)=>RInv E M a shut v ok q m k/\True) x_.1 x_.2.1 x_.2.2.1 x_.2.2.2.1 x_.2.2.2.2) (fun x_=>(fun(v:Int) (ok:Bool) (q:List Int) (m:List (Int×Int)) (k:Nat)=>2*E.length+3-k) x_.1 x_.2.1 x_.2.2.1 x_.2.2.2.1 x_.2.2.2.2) (a,true,[],[(a,0)],0) (rk [1,2,8194,28802,0,70274]) h ⟨RInv.init E M a shut,tv⟩ fun x_ _ _ _ hK1 hI h=>?_
 obtain⟨v,ok,q,m,k⟩:=x_
 obtain⟨hR,_⟩:=hI
 dsimp only at hR
 refine go0 [] h fun _ _ h=>?_
 refine go_if h (fun(q1:ok=true)=>?_) (fun(q1:ok=false)=>?_)
 .have g1:=(hR.go q1).1
  obtain⟨b1,b2⟩:=g1.bd
  obtain⟨v1,v2⟩:=univ_bd hr ha0 ha1 v g1.vU
  refine go (pr:=(kwf .int v)) [] h wk fun _ _ h=>?_
  refine go_loop3 Int (List (Int×Int)) (List Int) (fun i ml ql=>⟨[(1,em 0),(3,en shut),(4,ep 1),(9,em 2),(10,some ⟨[],.one (.clo 182 [(3,0)])⟩),(11,some ⟨[],.one (.clo 183 [(3,0)])⟩),(12,en v),(42,eo 4),(43,en (((lkI M v).getD []).length:Int)),(44,en i)],[(0,some (.mar .int (.list .int) M)),(1,some (.box 55 [.v (.int .i64 n),.own 5])),(2,some (.map .int .int ml)),(3,some (.box 24 [.own 6])),(4,some (.ar .int ((lkI M v).getD []))),(5,some (.ar edT E)),(6,some (.row 3 .int ql))],7⟩) (fun i ml ql=>0<=i/\i<=(((lkI M v).getD []).length:Int)/\(((lkI M v).getD []).take i.toNat).foldl (rdart E v shut) (m,q)=(ml,ql)/\Mid E a v k ml ql) (fun i ml ql=>((((lkI M v).getD []).length:Int)-i).toNat) 0 m q (rk [0,1,2,3,12294,4,5]) h ⟨by omega,by omega,rfl,g1⟩ fun i ml ql _ _ _ hK2 hI h=>?_
  obtain⟨i0,i1,hf,hM⟩:=hI
  have i2:(((lkI M v).getD []).length:Int)<=9223372036854775807:=lenAt h 4 (t:=.int) (l:=((lkI M v).getD []))
  refine go0 [] h fun _ _ h=>?_
  refine go_if h (fun(q2:i<(((lkI M v).getD []).length:Int))=>?_) (fun(q2:¬(i<(((lkI M v).getD []).length:Int)))=>?_)
  .have q2_:=q2
   obtain⟨d1,d2⟩:=hD v (((lkI M v).getD []).getD i.toNat 0) (mem_getD.2 ⟨i.toNat,by omega,rfl⟩)
   obtain⟨w1,w2,w3⟩:=headE_in hr d1 d2
   obtain⟨b3,b4⟩:=hM.bd
   have c1:=hM.c
   have c2:=hM.n
   refine go (pr:=(Bnd i ((lkI M v).getD []).length)/\(0<=(((lkI M v).getD []).getD i.toNat 0)/\(((lkI M v).getD []).getD i.toNat 0)/2<(E.length:Int)/\(((lkI M v).getD []).getD i.toNat 0)<=1000000)/\(kwf .int (headE E (((lkI M v).getD []).getD i.toNat 0)))) [] h ⟨bx,⟨d1,d2,by omega⟩,wk⟩ fun _ _ h=>?_
   refine go_if h (fun(q3:(((lkI ml (headE E (((lkI M v).getD []).getD i.toNat 0))).isSome)=true)\/(headE E (((lkI M v).getD []).getD i.toNat 0)=shut))=>?_) (fun(q3:(((lkI ml (headE E (((lkI M v).getD []).getD i.toNat 0))).isSome)=false)/\(¬(headE E (((lkI M v).getD []).getD i.toNat 0)=shut)))=>?_)
   .refine go (pr:=(InR .i64 (i+1))) [] h r64 fun _ _ h=>?_
    exact lp_ (hK2 (i+1) ml ql (ir 7) h ⟨by omega,by omega,by rw[foldl_snoc _ _ i0 q2_,hf];exact if_pos q3,hM⟩ (lt_))
   refine go (pr:=(kwf .int v)/\(InR .i64 (((lkI ml v).getD 0)+1))/\(kwf .int (headE E (((lkI M v).getD []).getD i.toNat 0)))/\(ml.length<=2147483647)/\(ql.length+([headE E (((lkI M v).getD []).getD i.toNat 0)]:List Int).length<=2147483647)/\(InR .i64 (i+1))) [] h ⟨wk,r64,wk,ln,ln,r64⟩ fun _ _ h=>?_
   exact lp_ (hK2 (i+1) (ptI ml (headE E (((lkI M v).getD []).getD i.toNat 0)) (((lkI ml v).getD 0)+1)) (ql++([headE E (((lkI M v).getD []).getD i.toNat 0)]:List Int)) (rk [0,1,2,3,4,5,127175]) h ⟨by omega,by omega,by rw[foldl_snoc _ _ i0 q2_,hf];exact if_neg (nor_ q3),hM.dart (List.mem_cons_of_mem _ w3) (nor_ q3)⟩ (lt_))
  have hS {q3:List Int}:=hR.step (q2:=q3) (by assumption) (show rdarts E M v shut (m,q)=(ml,ql) by rw[List.take_of_length_le (by omega)] at hf;exact hf) hM
  have c2:=hM.n
  obtain⟨b3,b4⟩:=hM.bd
  by_cases z1:ql=[]
  .refine with_ [C_target,inl [] [(6,true)] Tryz.func183,inl [] [] Tryz.func177,inl [] [] Tryz.func182] ?_
   refine go (pr:=((ql.length:Int)=0)) [] h (by rw[z1];rfl) fun _ _ h=>?_
   exact lp_ (hK1 (0,false,ql,ml,k+1) (rk [0,1,2,3,5,6]) h ⟨hS.1 z1,tv⟩ (by have:=hR.kB;dsimp only;omega))
  have hz1:0<ql.length:=List.length_pos_iff.2 z1
  refine with_ [C_target,inl [] [(6,false)] Tryz.func183,inl [] [] Tryz.func177,inl [] [] Tryz.func182] ?_
  refine go (pr:=(¬((ql.length:Int)=0))/\(Bnd (0:Int) ql.length)/\(0<=(1:Int)/\(1:Int)<=(ql.length:Int))) [] h ⟨by omega,bx,ct⟩ fun _ _ h=>?_
  exact lp_ (hK1 ((ql.getD 0 0),true,(ql.drop 1),ml,k+1) (rk [0,1,2,3,5,8839]) h ⟨(hS (q3:=[])).2 _ _ (cons_of z1),tv⟩ (by have:=hR.kB;dsimp only;omega))
 refine go0 [] h fun _ _ h=>?_
 exact out ((m:MapD .int Int),()) h (congrArg (·,()) (hR.done q1))
def C_reach:Con Tryz.prog:=plain reach_c
theorem leav_c:ConOk Tryz.prog 164 [(false,grT),(false,ptT)] [(.map .int (.list .int))] (fun x=>partE (I_ x.1.1) (E_ x.1.2) (J_ x.2.1.1) (J_ x.2.1.2)=0) (fun x=>(leavF (E_ x.1.2) (J_ x.2.1.2),())):=by
 refine con_of Tryz.f164 51 [] Tryz.func164 fun o x hd _ _ h=>?_
 obtain⟨⟨(n:Int),(E:List (Int×Int))⟩,⟨(V:List Int),(L:List Int)⟩,_⟩:=x
 have hl0:=lnE h 0 E
 have hl1:=lnI h 1 V
 have hl2:=lnI h 2 L
 change partE n E V L=0 at hd
 refine go0 [(10,true)] h fun _ _ h=>?_
 refine go_loop2 Int (List (Int×List Int)) (fun i m=>⟨[(2,ep 0),(5,em 1),(12,eo 2),(13,en (L.length:Int)),(14,en i)],[(0,some (.box 55 [.v (.int .i64 n),.own 3])),(1,some (.ext (.nmap 4 .int none .int 3 m))),(2,some (.ar .int L)),(3,some (.ar edT E))],5⟩) (fun i m=>0<=i/\i<=(L.length:Int)/\m=leavF E (L.take i.toNat)) (fun i m=>((L.length:Int)-i).toNat) 0 [] (rk [3,12291,2,0,12291]) h ⟨by omega,by omega,rfl⟩ fun i m _ _ _ hK1 hI h=>?_
 obtain⟨h0,h0b,hm⟩:=hI
 refine go0 [] h fun _ _ h=>?_
 refine go_if h (fun(q1:i<(L.length:Int))=>?_) (fun(q1:¬(i<(L.length:Int)))=>?_)
 .obtain⟨⟨f1,f2,f3⟩,⟨f4,f5,f6,f7⟩,f8,f9,f10,f11⟩:=leav_facts hd hm h0 q1
  refine go (pr:=(Bnd i L.length)/\(Bnd (L.getD i.toNat 0) E.length)/\(Bnd (L.getD i.toNat 0) E.length)/\(kwf .int ((E.getD (L.getD i.toNat 0).toNat (0,0)).1))/\(InR .i64 (2*(L.getD i.toNat 0)))/\(((lkI m ((E.getD (L.getD i.toNat 0).toNat (0,0)).1)).getD []).length+([2*(L.getD i.toNat 0)]:List Int).length<=2147483647)/\(kwf .int ((E.getD (L.getD i.toNat 0).toNat (0,0)).1))/\(holeK (k:=.int) (some ((E.getD (L.getD i.toNat 0).toNat (0,0)).1)) ((E.getD (L.getD i.toNat 0).toNat (0,0)).1))/\(m.length<=2147483647)/\(kwf .int ((E.getD (L.getD i.toNat 0).toNat (0,0)).2))/\(InR .i64 (2*(L.getD i.toNat 0)))/\(InR .i64 ((2*(L.getD i.toNat 0))+1))/\(((lkI (ptI m ((E.getD (L.getD i.toNat 0).toNat (0,0)).1) (((lkI m ((E.getD (L.getD i.toNat 0).toNat (0,0)).1)).getD [])++([2*(L.getD i.toNat 0)]:List Int))) ((E.getD (L.getD i.toNat 0).toNat (0,0)).2)).getD []).length+([(2*(L.getD i.toNat 0))+1]:List Int).length<=2147483647)/\(kwf .int ((E.getD (L.getD i.toNat 0).toNat (0,0)).2))/\(holeK (k:=.int) (some ((E.getD (L.getD i.toNat 0).toNat (0,0)).2)) ((E.getD (L.getD i.toNat 0).toNat (0,0)).2))/\((ptI m ((E.getD (L.getD i.toNat 0).toNat (0,0)).1) (((lkI m ((E.getD (L.getD i.toNat 0).toNat (0,0)).1)).getD [])++([2*(L.getD i.toNat 0)]:List Int))).length<=2147483647)/\(InR .i64 (i+1))) [] h ⟨bx,bx,bx,wk,r64,ln,wk,rfl,ln,wk,r64,r64,ln,wk,rfl,ln,r64⟩ fun _ _ h=>?_
  exact lp_ (hK1 (i+1) (ptI (ptI m ((E.getD (L.getD i.toNat 0).toNat (0,0)).1) (((lkI m ((E.getD (L.getD i.toNat 0).toNat (0,0)).1)).getD [])++([2*(L.getD i.toNat 0)]:List Int))) ((E.getD (L.getD i.toNat 0).toNat (0,0)).2) (((lkI (ptI m ((E.getD (L.getD i.toNat 0).toNat (0,0)).1) (((lkI m ((E.getD (L.getD i.toNat 0).toNat (0,0)).1)).getD [])++([2*(L.getD i.toNat 0)]:List Int))) ((E.getD (L.getD i.toNat 0).toNat (0,0)).2)).getD [])++([(2*(L.getD i.toNat 0))+1]:List Int))) (rk [0,1,2,3,155653]) h ⟨by omega,by omega,by rw[leavF_snoc h0 q1,<-hm];rfl⟩ (lt_))
 refine go0 [] h fun _ _ h=>?_
 exact out ((m:MapD .int (List Int)),()) h (by rw[hm,List.take_of_length_le (by omega)])
def C_leav:Con Tryz.prog:=plain leav_c
theorem pieces_c:ConOk Tryz.prog 136 [(false,grT),(false,ptT)] [(.list ptT),.int] (fun x=>inR (I_ x.1.1)) (fun x=>(if partE (I_ x.1.1) (E_ x.1.2) (J_ x.2.1.1) (J_ x.2.1.2)≠0 then[] else piecesF (E_ x.1.2) (J_ x.2.1.1) (J_ x.2.1.2),partE (I_ x.1.1) (E_ x.1.2) (J_ x.2.1.1) (J_ x.2.1.2),())):=by
 refine con_of Tryz.f136 106 [C_leav,C_reach,C_rpart] Tryz.func136 fun o x hd _ _ h=>?_
 obtain⟨⟨(n:Int),(E:List (Int×Int))⟩,⟨(V:List Int),(L:List Int)⟩,_⟩:=x
 have hl0:=lnE h 0 E
 have hl1:=lnI h 1 V
 have hl2:=lnI h 2 L
 change inR n at hd
 refine go (pr:=(inR n)) [] h hd fun _ _ h=>?_
 refine go_if h (fun(q1:¬(partE n E V L=0))=>?_) (fun(q1:partE n E V L=0)=>?_)
 .refine go0 [] h fun _ _ h=>?_
  exact out (([]:List ((List Int)×List Int)),(partE n E V L:Int),()) h (congrArg (fun z=>(z,partE n E V L,())) (if_pos (c:=partE n E V L≠0) q1).symm)
 have hp:=q1
 obtain⟨hr,hVr,hLr,hok⟩:=partE_0 hp
 obtain⟨hn0,hn1,hEn,_⟩:=rightE_0 hr
 have hVn:=rises_len hVr hn0
 have hLn:=rises_len hLr (by omega)
 refine go (pr:=(partE n E V L=0)) [] h hp fun _ _ h=>?_
 refine go_loop3 Int (List (Int×Int)) (List (List Int×List Int)) (fun i pm ou=>⟨[(2,ep 0),(3,ep 1),(7,em 2),(8,em 3),(9,eo 4),(30,eo 5),(31,en (V.length:Int)),(32,en i)],[(0,some (.box 55 [.v (.int .i64 n),.own 6])),(1,some (.box 26 [.own 5,.own 7])),(2,some (.mro .int (.list .int) (leavF E L))),(3,some (.map .int .int pm)),(4,some (.ext (.nest 8 none 26 ptT 3 ou))),(5,some (.ar .int V)),(6,some (.ar edT E)),(7,some (.ar .int L))],9⟩) (fun i pm ou=>0<=i/\i<=(V.length:Int)/\PInv E V L i pm ou) (fun i pm ou=>((V.length:Int)-i).toNat) 0 [] [] [(0,some 3),(1,some 4099),(2,some 49155),(3,some 57347),(4,none),(5,some 1),(6,some 0),(7,some 2),(8,none)] h ⟨by omega,by omega,PInv.zero E V L⟩ fun i pm ou _ _ _ hK1 hI h=>?_
 obtain⟨i0,i1,hP⟩:=hI
 refine go0 [] h fun _ _ h=>?_
 refine go_if h (fun(q2:i<(V.length:Int))=>?_) (fun(q2:¬(i<(V.length:Int)))=>?_)
 .obtain⟨x1,x2,_⟩:=hVr i.toNat (by omega)
  have nP:=Nat.le_trans hP.n (Nat.mul_le_mul_right 3000 (show i.toNat<=1024 by omega))
  have oP:=hP.o
  refine go (pr:=(Bnd i V.length)/\(kwf .int (V.getD i.toNat 0))) [] h ⟨bx,wk⟩ fun _ _ h=>?_
  refine go_if h (fun(q3:((lkI pm (V.getD i.toNat 0)).isSome)=false)=>?_) (fun(q3:((lkI pm (V.getD i.toNat 0)).isSome)=true)=>?_)
  .obtain⟨R1,_,R3,_⟩:=reach_ok (shut:= -1) (dok_head hr (leav_DOk hp) (V.getD i.toNat 0))
   refine go (pr:=(rightE n E=0/\DOk E (leavF E L)/\0<=(V.getD i.toNat 0)/\(V.getD i.toNat 0)<1024)) [] h (⟨hr,leav_DOk hp,x1,by omega⟩) fun _ _ h=>?_
   refine go_loop4 (Int->Bool) Nat (Option (Int×Int)) (List (Int×Int)) (fun lf cnt cur pm2=>⟨[(2,ep 0),(3,ep 1),(7,em 2),(8,em 3),(9,eo 4),(11,en (V.getD i.toNat 0)),(30,eo 5),(31,en (V.length:Int)),(32,en i),(48,ep 6)],[(0,some (.box 55 [.v (.int .i64 n),.own 7])),(1,some (.box 26 [.own 5,.own 8])),(2,some (.mro .int (.list .int) (leavF E L))),(3,some (.map .int .int pm2)),(4,some (.ext (.nest 9 none 26 ptT 3 ou))),(5,some (.ar .int V)),(6,some (.iter .int .int (reachF E (leavF E L) (V.getD i.toNat 0) (-1:Int)) lf cnt cur)),(7,some (.ar edT E)),(8,some (.ar .int L))],10⟩) (fun lf cnt cur pm2=>ItI (reachF E (leavF E L) (V.getD i.toNat 0) (-1)) pm (ou.length:Int) lf cnt pm2/\True) (fun lf cnt cur pm2=>cnt) (fun z=>(lkI (reachF E (leavF E L) (V.getD i.toNat 0) (-1)) z).isSome) ((reachF E (leavF E L) (V.getD i.toNat 0) (-1)).length) none pm (rk [0,1,2,3,4,5,73737,6,7,8]) h ⟨ItI.start _ _ _,tv⟩ fun lf cnt cur pm2 _ _ _ hK2 hI h=>?_
   obtain⟨hT,_⟩:=hI
   refine go0 [] h fun _ _ h=>?_
   refine go_next ⟨.int,.int,(reachF E (leavF E L) (V.getD i.toNat 0) (-1:Int)),lf,cnt,cur,6,49⟩ h (fun(hl1:∀x:Int,lf x=false) _ _ h=>?_) (fun(k1:Int) (v1:Int) (c1:Nat) (hl1:lf k1=true) (hw1: -9223372036854775808<=k1/\k1<=9223372036854775807) (hk1:lkI (reachF E (leavF E L) (V.getD i.toNat 0) (-1:Int)) k1=some v1) (hc1:c1<cnt) _ _ h=>?_)
   .obtain⟨hI2,hS2⟩:=hP.new i0 q2 q3 R3 (by omega) (hT.fin hl1)
    obtain⟨⟨a1,a2⟩,a3⟩:=PInv.at2 hS2
    refine go (pr:=(ou.length+([([],[])]:List ((List Int)×List Int)).length<=2147483647)/\(kwf .int (V.getD i.toNat 0))/\(Bnd ((lkI pm2 (V.getD i.toNat 0)).getD 0) (ou++([([],[])]:List ((List Int)×List Int))).length)/\((((ou++([([],[])]:List ((List Int)×List Int))).getD ((lkI pm2 (V.getD i.toNat 0)).getD 0).toNat ([],[])).1).length+([(V.getD i.toNat 0)]:List Int).length<=2147483647)/\(Bnd ((lkI pm2 (V.getD i.toNat 0)).getD 0) (ou++([([],[])]:List ((List Int)×List Int))).length)/\(Bnd ((lkI pm2 (V.getD i.toNat 0)).getD 0) (ou++([([],[])]:List ((List Int)×List Int))).length)/\(Bnd ((lkI pm2 (V.getD i.toNat 0)).getD 0) (ou++([([],[])]:List ((List Int)×List Int))).length)/\(holeP (some (((lkI pm2 (V.getD i.toNat 0)).getD 0).toNat*2+0)) (((lkI pm2 (V.getD i.toNat 0)).getD 0).toNat*2+0))/\(InR .i64 (i+1))) [(59,true)] h ⟨ln,wk,bx,ln,bx,bx,bx,rfl,r64⟩ fun _ _ h=>?_
    exact lp_ (hK1 (i+1) pm2 ((ou++([([],[])]:List ((List Int)×List Int))).set ((lkI pm2 (V.getD i.toNat 0)).getD 0).toNat (((((ou++([([],[])]:List ((List Int)×List Int))).getD ((lkI pm2 (V.getD i.toNat 0)).getD 0).toNat ([],[])).1)++([(V.getD i.toNat 0)]:List Int)),((ou++([([],[])]:List ((List Int)×List Int))).getD ((lkI pm2 (V.getD i.toNat 0)).getD 0).toNat ([],[])).2)) (rk [0,1,2,3,20490,5,7,8,94218]) h ⟨by omega,by omega,hI2⟩ (lt_))
   have nT:=hT.n
   refine go (pr:=(kwf .int k1)/\(pm2.length<=2147483647)) [] h ⟨wk,ln⟩ fun _ _ h=>?_
   exact lp_ (hK2 (fun z=>lf z && !decide (z=k1)) c1 (some (k1,v1)) (ptI pm2 k1 (ou.length:Int)) (ir 10) h ⟨hT.step hl1 hk1 hc1,tv⟩ (hc1))
  obtain⟨⟨a1,a2⟩,a3⟩:=hP.at_ i0 i1 (x:=(V.getD i.toNat 0)) q3
  have hI1:=hP.met i0 q2 q3
  refine go (pr:=(kwf .int (V.getD i.toNat 0))/\(Bnd ((lkI pm (V.getD i.toNat 0)).getD 0) ou.length)/\(((ou.getD ((lkI pm (V.getD i.toNat 0)).getD 0).toNat ([],[])).1).length+([(V.getD i.toNat 0)]:List Int).length<=2147483647)/\(Bnd ((lkI pm (V.getD i.toNat 0)).getD 0) ou.length)/\(Bnd ((lkI pm (V.getD i.toNat 0)).getD 0) ou.length)/\(Bnd ((lkI pm (V.getD i.toNat 0)).getD 0) ou.length)/\(holeP (some (((lkI pm (V.getD i.toNat 0)).getD 0).toNat*2+0)) (((lkI pm (V.getD i.toNat 0)).getD 0).toNat*2+0))/\(InR .i64 (i+1))) [] h ⟨wk,bx,ln,bx,bx,bx,rfl,r64⟩ fun _ _ h=>?_
  exact lp_ (hK1 (i+1) pm (ou.set ((lkI pm (V.getD i.toNat 0)).getD 0).toNat ((((ou.getD ((lkI pm (V.getD i.toNat 0)).getD 0).toNat ([],[])).1)++([(V.getD i.toNat 0)]:List Int)),(ou.getD ((lkI pm (V.getD i.toNat 0)).getD 0).toNat ([],[])).2)) (rk [0,1,2,3,4,5,6,7,122889]) h ⟨by omega,by omega,hI1⟩ (lt_))
 have hF:=hP.fin q2
 refine go0 [] h fun _ _ h=>?_
 refine go_loop2 Int (List (List Int×List Int)) (fun j o2=>⟨[(2,ep 0),(8,em 1),(9,eo 2),(78,eo 3),(79,en (L.length:Int)),(80,en j)],[(0,some (.box 55 [.v (.int .i64 n),.own 4])),(1,some (.map .int .int pm)),(2,some (.ext (.nest 5 none 26 ptT 3 o2))),(3,some (.ar .int L)),(4,some (.ar edT E))],6⟩) (fun j o2=>0<=j/\j<=(L.length:Int)/\EInv E V L j ou.length o2) (fun j o2=>((L.length:Int)-j).toNat) 0 ou (rk [0,3,4,7,6,8]) h ⟨by omega,by omega,hF.2.2⟩ fun j o2 _ _ _ hK3 hI h=>?_
 obtain⟨j0,j1,hE⟩:=hI
 refine go0 [] h fun _ _ h=>?_
 refine go_if h (fun(q4:j<(L.length:Int))=>?_) (fun(q4:¬(j<(L.length:Int)))=>?_)
 .obtain⟨⟨f1,f2,f3⟩,⟨f4,f5,f6,f7⟩,_⟩:=leav_facts hp rfl j0 q4
  obtain⟨⟨a1,a2⟩,_⟩:=hP.at_ i0 i1 (x:=(E.getD (L.getD j.toNat 0).toNat (0,0)).1) (hP.all q2 (part_ends hp j0 q4).1)
  have n2:=hE.n
  have n3:=hE.at_ ((lkI pm (E.getD (L.getD j.toNat 0).toNat (0,0)).1).getD 0).toNat
  refine go (pr:=(Bnd j L.length)/\(Bnd (L.getD j.toNat 0) E.length)/\(kwf .int ((E.getD (L.getD j.toNat 0).toNat (0,0)).1))/\(Bnd ((lkI pm ((E.getD (L.getD j.toNat 0).toNat (0,0)).1)).getD 0) o2.length)/\(((o2.getD ((lkI pm ((E.getD (L.getD j.toNat 0).toNat (0,0)).1)).getD 0).toNat ([],[])).2).length+([(L.getD j.toNat 0)]:List Int).length<=2147483647)/\(Bnd ((lkI pm ((E.getD (L.getD j.toNat 0).toNat (0,0)).1)).getD 0) o2.length)/\(Bnd ((lkI pm ((E.getD (L.getD j.toNat 0).toNat (0,0)).1)).getD 0) o2.length)/\(Bnd ((lkI pm ((E.getD (L.getD j.toNat 0).toNat (0,0)).1)).getD 0) o2.length)/\(holeP (some (((lkI pm ((E.getD (L.getD j.toNat 0).toNat (0,0)).1)).getD 0).toNat*2+1)) (((lkI pm ((E.getD (L.getD j.toNat 0).toNat (0,0)).1)).getD 0).toNat*2+1))/\(InR .i64 (j+1))) [] h ⟨bx,bx,wk,bx,ln,bx,bx,bx,rfl,r64⟩ fun _ _ h=>?_
  exact lp_ (hK3 (j+1) (o2.set ((lkI pm ((E.getD (L.getD j.toNat 0).toNat (0,0)).1)).getD 0).toNat ((o2.getD ((lkI pm ((E.getD (L.getD j.toNat 0).toNat (0,0)).1)).getD 0).toNat ([],[])).1,(((o2.getD ((lkI pm ((E.getD (L.getD j.toNat 0).toNat (0,0)).1)).getD 0).toNat ([],[])).2)++([(L.getD j.toNat 0)]:List Int)))) (rk [0,1,2,3,4,102406]) h ⟨by omega,by omega,hE.step hF.1 j0 q4⟩ (lt_))
 refine go0 [] h fun _ _ h=>?_
 exact out ((o2:List ((List Int)×List Int)),((0:Int):Int),()) h (by have e1:=hE.f;rw[List.take_of_length_le (by omega)] at e1;exact pieces_ret hp e1)
def C_pieces:Con Tryz.prog:=plain pieces_c
theorem fleaves_c:ConOk Tryz.prog 163 [(false,grT),(false,.int)] [.int] (fun x=>0<=(I_ x.2.1)/\(I_ x.2.1)/2<((E_ x.1.2).length:Int)/\(I_ x.2.1)<=1000000) (fun x=>(tailE (E_ x.1.2) (I_ x.2.1),())):=by
 refine con_of Tryz.f163 22 [] Tryz.func163 fun o x hd _ _ h=>?_
 obtain⟨⟨(n:Int),(E:List (Int×Int))⟩,(d:Int),_⟩:=x
 have hl0:=lnE h 0 E
 change 0<=d/\d/2<(E.length:Int)/\d<=1000000 at hd
 obtain⟨d0,d1,d2⟩:=hd
 refine go (pr:=(0<=d/\0<(2:Int))) [] h (⟨by omega,by omega⟩) fun _ _ h=>?_
 refine go_if h (fun(q1:d%2=0)=>?_) (fun(q1:¬(d%2=0))=>?_)
 .refine go (pr:=(0<=d/\0<(2:Int)/\InR .i64 d)/\(Bnd (d/2) E.length)) [] h ⟨⟨by omega,by omega,⟨by omega,by omega⟩⟩,bx⟩ fun _ _ h=>?_
  exact out (((E.getD (d/2).toNat (0,0)).1:Int),()) h (by simp only[tailE,if_pos q1];rfl)
 refine go (pr:=(0<=d/\0<(2:Int)/\InR .i64 d)/\(Bnd (d/2) E.length)) [] h ⟨⟨by omega,by omega,⟨by omega,by omega⟩⟩,bx⟩ fun _ _ h=>?_
 exact out (((E.getD (d/2).toNat (0,0)).2:Int),()) h (by simp only[tailE,if_neg q1];rfl)
def C_fleaves:Con Tryz.prog:=plain fleaves_c
theorem genus_c:ConOk Tryz.prog 135 [(false,grT),(false,ptT),(false,(.list (.list .int)))] [(.list .int),.int] (fun x=>inR (I_ x.1.1)/\inLL (K_ x.2.2.1)/\szLL (K_ x.2.2.1)) (fun x=>((genusF (I_ x.1.1) (E_ x.1.2) (J_ x.2.1.1) (J_ x.2.1.2) (K_ x.2.2.1)).1,(genusF (I_ x.1.1) (E_ x.1.2) (J_ x.2.1.1) (J_ x.2.1.2) (K_ x.2.2.1)).2,())):=by
 refine con_of Tryz.f135 120 [C_fleaves,C_pieces,C_walks] Tryz.func135 fun o x hd _ _ h=>?_
 obtain⟨⟨(n:Int),(E:List (Int×Int))⟩,⟨(V:List Int),(L:List Int)⟩,(T:List (List Int)),_⟩:=x
 have hl0:=lnE h 0 E
 have hl1:=lnI h 1 V
 have hl2:=lnI h 2 L
 have hl3:=lnL h 3 T
 change inR n/\inLL T/\szLL T at hd
 obtain⟨hn,hin,hsz⟩:=hd
 refine go (pr:=(inR n/\inLL T/\szLL T)) [] h (⟨hn,hin,hsz⟩) fun _ _ h=>?_
 refine go_if h (fun(q1:¬((walksF n E V L T).2=0))=>?_) (fun(q1:(walksF n E V L T).2=0)=>?_)
 .refine go0 [] h fun _ _ h=>?_
  exact out (([]:List Int),((walksF n E V L T).2:Int),()) h (by simp only[genusF,if_pos q1];rfl)
 have hw0:=q1
 obtain⟨hp0,hT,hW⟩:=walks_ok hw0
 have hP:=pieG_ok hp0
 obtain⟨hrt,hV,hL,_⟩:=partE_0 hp0
 obtain⟨r1,r2,r3,_⟩:=rightE_0 hrt
 have hVl:=rises_len hV r1
 have hLl:=rises_len hL (by omega)
 have hPl:=hP.len
 have hWl:=hW.len
 have hAl:=atF_len (fun k=>(hP.bd k).1) (P:=(pieG n E V L))
 refine go (pr:=(inR n)) [] h hn fun _ _ h=>?_
 refine go_if h (fun(q2:¬(partE n E V L=0))=>?_) (fun(q2:partE n E V L=0)=>?_)
 .exact(q2 hp0).elim
 refine go0 [] h fun _ _ h=>?_
 refine go_loop2 Int (List (Int×Int)) (fun i m=>⟨[(3,ep 0),(8,eo 1),(10,eo 2),(11,em 3),(46,eo 2),(47,en ((pieG n E V L).length:Int)),(48,en i)],[(0,some (.box 55 [.v (.int .i64 n),.own 4])),(1,some (.ro (.pair .int (.list .int)) ((walksF n E V L T).1))),(2,some (.ro ptT (pieG n E V L))),(3,some (.map .int .int m)),(4,some (.ar edT E))],5⟩) (fun i m=>0<=i/\i<=((pieG n E V L).length:Int)/\m=atF (pieG n E V L) i.toNat) (fun i m=>(((pieG n E V L).length:Int)-i).toNat) 0 [] (rk [4,28676,69636,114692,0]) h ⟨Int.le_refl _,Int.natCast_nonneg _,rfl⟩ fun i m _ _ _ hK1 hI h=>?_
 obtain⟨i0,i1,i2⟩:=hI
 refine go0 [] h fun _ _ h=>?_
 refine go_if h (fun(q3:i<((pieG n E V L).length:Int))=>?_) (fun(q3:¬(i<((pieG n E V L).length:Int)))=>?_)
 .obtain⟨qb1,qb2⟩:=hP.bd i.toNat
  have hml:=hAl i.toNat
  have hmu:i.toNat*V.length<=1048576:=Nat.le_trans (Nat.mul_le_mul (show i.toNat<=1024 by omega) (show V.length<=1024 by omega)) (by decide)
  rw[<-i2] at hml
  refine go (pr:=(Bnd i (pieG n E V L).length)) [] h bx fun _ _ h=>?_
  refine go_loop2 Int (List (Int×Int)) (fun j mm=>⟨[(3,ep 0),(8,eo 1),(10,eo 2),(11,em 3),(12,en i),(46,eo 2),(47,en ((pieG n E V L).length:Int)),(48,en i),(54,eo 4),(55,en ((((pieG n E V L).getD i.toNat ([],[])).1).length:Int)),(56,en j)],[(0,some (.box 55 [.v (.int .i64 n),.own 5])),(1,some (.ro (.pair .int (.list .int)) ((walksF n E V L T).1))),(2,some (.ro ptT (pieG n E V L))),(3,some (.map .int .int mm)),(4,some (.ro .int (((pieG n E V L).getD i.toNat ([],[])).1))),(5,some (.ar edT E))],6⟩) (fun j mm=>0<=j/\j<=(((pieG n E V L).getD i.toNat ([],[])).1.length:Int)/\mm=at1 (atF (pieG n E V L) i.toNat) ((pieG n E V L).getD i.toNat ([],[])).1 i j.toNat) (fun j mm=>((((pieG n E V L).getD i.toNat ([],[])).1.length:Int)-j).toNat) 0 m (rk [0,1,2,3,12293,4]) h ⟨Int.le_refl _,Int.natCast_nonneg _,i2⟩ fun j mm _ _ _ hK2 hI h=>?_
  obtain⟨j0,j1,j2⟩:=hI
  refine go0 [] h fun _ _ h=>?_
  refine go_if h (fun(q4:j<((((pieG n E V L).getD i.toNat ([],[])).1).length:Int))=>?_) (fun(q4:¬(j<((((pieG n E V L).getD i.toNat ([],[])).1).length:Int)))=>?_)
  .have hvm:=hP.sub i.toNat _ (getD_mem' (l:=((pieG n E V L).getD i.toNat ([],[])).1) (i:=j.toNat) (d:=0) (by omega))
   have hvb:=(rises_iff.1 hV).2 _ hvm
   have hal:=at1_len (m:=atF (pieG n E V L) i.toNat) (vs:=((pieG n E V L).getD i.toNat ([],[])).1) (c:=i) j.toNat
   rw[<-j2,<-i2] at hal
   refine go (pr:=(Bnd j (((pieG n E V L).getD i.toNat ([],[])).1).length)/\(kwf .int ((((pieG n E V L).getD i.toNat ([],[])).1).getD j.toNat 0))/\(mm.length<=2147483647)/\(InR .i64 (j+1))) [] h ⟨bx,wk,ln,r64⟩ fun _ _ h=>?_
   exact lp_ (hK2 (j+1) (ptI mm ((((pieG n E V L).getD i.toNat ([],[])).1).getD j.toNat 0) i) (ir 6) h ⟨by omega,by omega,by rw[at1_snoc j0,<-j2]⟩ (by omega))
  have hje:j.toNat=((pieG n E V L).getD i.toNat ([],[])).1.length:=by omega
  have hj2:=j2
  rw[hje] at hj2
  refine go (pr:=(InR .i64 (i+1))) [] h r64 fun _ _ h=>?_
  exact lp_ (hK1 (i+1) mm (rk [0,1,2,3,5]) h ⟨by omega,by omega,by rw[atF_snoc i0,<-hj2]⟩ (by omega))
 have hie:i.toNat=(pieG n E V L).length:=by omega
 rw[hie] at i2
 refine go (pr:=(0<=((pieG n E V L).length:Int)/\((pieG n E V L).length:Int)<=((pieG n E V L).length:Int)/\((pieG n E V L).length:Int)<=2147483647)) [] h (⟨by omega,by omega,by omega⟩) fun _ _ h=>?_
 refine go_loop2 Int (List Int) (fun i fs=>⟨[(3,ep 0),(10,eo 1),(11,em 2),(16,eo 3),(68,eo 4),(69,en (((walksF n E V L T).1).length:Int)),(70,en i)],[(0,some (.box 55 [.v (.int .i64 n),.own 5])),(1,some (.ro ptT (pieG n E V L))),(2,some (.map .int .int m)),(3,some (.row 3 .int fs)),(4,some (.ro (.pair .int (.list .int)) ((walksF n E V L T).1))),(5,some (.ar edT E))],6⟩) (fun i fs=>0<=i/\i<=((walksF n E V L T).1.length:Int)/\fs=facF E (pieG n E V L) (walksF n E V L T).1 i.toNat) (fun i fs=>(((walksF n E V L T).1.length:Int)-i).toNat) 0 (List.replicate (pieG n E V L).length 0) (rk [0,2,3,12293,1,4]) h ⟨Int.le_refl _,Int.natCast_nonneg _,rfl⟩ fun i fs _ _ _ hK3 hI h=>?_
 obtain⟨k0,k1,k2⟩:=hI
 refine go0 [] h fun _ _ h=>?_
 refine go_if h (fun(q5:i<(((walksF n E V L T).1).length:Int))=>?_) (fun(q5:¬(i<(((walksF n E V L T).1).length:Int)))=>?_)
 .have hwm:((walksF n E V L T).1.getD i.toNat (0,[]))∈(walksF n E V L T).1:=getD_mem' (by omega)
  have hcv:=corn_in hp0 hW hwm
  obtain⟨pi,pi0,_,pi1⟩:=atF_in hP hcv
  have hfl:=fac_len (E:=E) (P:=(pieG n E V L)) (W:=(walksF n E V L T).1) i.toNat
  rw[<-k2] at hfl
  have hfb:=fac_b (E:=E) (P:=(pieG n E V L)) (W:=(walksF n E V L T).1) i.toNat
  rw[<-k2] at hfb
  have hkb:=key_b hp0 hW hwm
  have hky:=hW.key _ hwm
  rw[<-i2] at pi1
  refine go (pr:=(Bnd i ((walksF n E V L T).1).length)/\(InR .i64 ((-1)-((((walksF n E V L T).1).getD i.toNat (0,[])).1)))) [] h ⟨bx,r64⟩ fun _ _ h=>?_
  refine go_if h (fun(q6:(0:Int)<(((((walksF n E V L T).1).getD i.toNat (0,[])).2).length:Int))=>?_) (fun(q6:¬((0:Int)<(((((walksF n E V L T).1).getD i.toNat (0,[])).2).length:Int)))=>?_)
  .have hco:cornE E ((walksF n E V L T).1.getD i.toNat (0,[]))=tailE E ((walksF n E V L T).1.getD i.toNat (0,[])).1:=if_neg (by omega)
   obtain⟨_,hdd⟩:=hky.resolve_left fun z=>by omega
   obtain⟨_,d0,d1,d2⟩:=dart_tail hp0 hdd
   rw[hco] at pi1 hcv
   have pi2:(lkI m (tailE E ((walksF n E V L T).1.getD i.toNat (0,[])).1)).getD 0=(pi:Int):=by rw[pi1];rfl
   have hvb:=(rises_iff.1 hV).2 _ hcv
   have hfb2:=hfb ((lkI m (tailE E ((walksF n E V L T).1.getD i.toNat (0,[])).1)).getD 0).toNat
   refine go (pr:=(0<=((((walksF n E V L T).1).getD i.toNat (0,[])).1)/\((((walksF n E V L T).1).getD i.toNat (0,[])).1)/2<(E.length:Int)/\((((walksF n E V L T).1).getD i.toNat (0,[])).1)<=1000000)/\(kwf .int (tailE E ((((walksF n E V L T).1).getD i.toNat (0,[])).1)))/\(Bnd ((lkI m (tailE E ((((walksF n E V L T).1).getD i.toNat (0,[])).1))).getD 0) fs.length)/\(InR .i64 ((fs.getD ((lkI m (tailE E ((((walksF n E V L T).1).getD i.toNat (0,[])).1))).getD 0).toNat 0)+1))/\(Bnd ((lkI m (tailE E ((((walksF n E V L T).1).getD i.toNat (0,[])).1))).getD 0) fs.length)/\(Bnd ((lkI m (tailE E ((((walksF n E V L T).1).getD i.toNat (0,[])).1))).getD 0) fs.length)/\(InR .i64 (i+1))) [] h ⟨⟨by omega,by omega,by omega⟩,wk,bx,r64,bx,bx,r64⟩ fun _ _ h=>?_
   exact lp_ (hK3 (i+1) (fs.set ((lkI m (tailE E ((((walksF n E V L T).1).getD i.toNat (0,[])).1))).getD 0).toNat ((fs.getD ((lkI m (tailE E ((((walksF n E V L T).1).getD i.toNat (0,[])).1))).getD 0).toNat 0)+1)) (ir 6) h ⟨by omega,by omega,by rw[facF_snoc k0,hco,<-k2,<-i2]⟩ (by omega))
  have hco:cornE E ((walksF n E V L T).1.getD i.toNat (0,[]))= -1-((walksF n E V L T).1.getD i.toNat (0,[])).1:=if_pos (by omega)
  rw[hco] at pi1 hcv
  have pi2:(lkI m (-1-((walksF n E V L T).1.getD i.toNat (0,[])).1)).getD 0=(pi:Int):=by rw[pi1];rfl
  have hvb:=(rises_iff.1 hV).2 _ hcv
  have hfb2:=hfb ((lkI m (-1-((walksF n E V L T).1.getD i.toNat (0,[])).1)).getD 0).toNat
  refine go (pr:=(kwf .int ((-1)-((((walksF n E V L T).1).getD i.toNat (0,[])).1)))/\(Bnd ((lkI m ((-1)-((((walksF n E V L T).1).getD i.toNat (0,[])).1))).getD 0) fs.length)/\(InR .i64 ((fs.getD ((lkI m ((-1)-((((walksF n E V L T).1).getD i.toNat (0,[])).1))).getD 0).toNat 0)+1))/\(Bnd ((lkI m ((-1)-((((walksF n E V L T).1).getD i.toNat (0,[])).1))).getD 0) fs.length)/\(Bnd ((lkI m ((-1)-((((walksF n E V L T).1).getD i.toNat (0,[])).1))).getD 0) fs.length)/\(InR .i64 (i+1))) [] h ⟨wk,bx,r64,bx,bx,r64⟩ fun _ _ h=>?_
  exact lp_ (hK3 (i+1) (fs.set ((lkI m ((-1)-((((walksF n E V L T).1).getD i.toNat (0,[])).1))).getD 0).toNat ((fs.getD ((lkI m ((-1)-((((walksF n E V L T).1).getD i.toNat (0,[])).1))).getD 0).toNat 0)+1)) (ir 6) h ⟨by omega,by omega,by rw[facF_snoc k0,hco,<-k2,<-i2]⟩ (by omega))
 have hke:i.toNat=(walksF n E V L T).1.length:=by omega
 rw[hke] at k2
 have hfl:=fac_len (E:=E) (P:=(pieG n E V L)) (W:=(walksF n E V L T).1) (walksF n E V L T).1.length
 rw[<-k2] at hfl
 refine go0 [] h fun _ _ h=>?_
 refine go_loop2 Int (List Int) (fun i gs=>⟨[(16,eo 0),(20,eo 1),(94,eo 2),(95,en ((pieG n E V L).length:Int)),(96,en i)],[(0,some (.row 3 .int fs)),(1,some (.row 3 .int gs)),(2,some (.ro ptT (pieG n E V L)))],3⟩) (fun i gs=>0<=i/\i<=((pieG n E V L).length:Int)/\gs=genF (pieG n E V L) fs i.toNat) (fun i gs=>(((pieG n E V L).length:Int)-i).toNat) 0 [] [(0,some 3),(1,none),(2,some 1)] h ⟨Int.le_refl _,Int.natCast_nonneg _,rfl⟩ fun i gs _ _ _ hK4 hI h=>?_
 obtain⟨g0,g1,g2⟩:=hI
 refine go0 [] h fun _ _ h=>?_
 refine go_if h (fun(q7:i<((pieG n E V L).length:Int))=>?_) (fun(q7:¬(i<((pieG n E V L).length:Int)))=>?_)
 .obtain⟨qb1,qb2⟩:=hP.bd i.toNat
  have hfb:=fac_b (E:=E) (P:=(pieG n E V L)) (W:=(walksF n E V L T).1) (walksF n E V L T).1.length i.toNat
  rw[<-k2] at hfb
  have hgl:=gen_len (P:=(pieG n E V L)) (fs:=fs) i.toNat
  rw[<-g2] at hgl
  refine go (pr:=(Bnd i (pieG n E V L).length)/\(InR .i64 (2-((((pieG n E V L).getD i.toNat ([],[])).1).length:Int)))/\(InR .i64 ((2-((((pieG n E V L).getD i.toNat ([],[])).1).length:Int))+((((pieG n E V L).getD i.toNat ([],[])).2).length:Int)))/\(Bnd i fs.length)/\(InR .i64 (((2-((((pieG n E V L).getD i.toNat ([],[])).1).length:Int))+((((pieG n E V L).getD i.toNat ([],[])).2).length:Int))-(fs.getD i.toNat 0)))/\(0<(2:Int)/\InR .i64 (((2-((((pieG n E V L).getD i.toNat ([],[])).1).length:Int))+((((pieG n E V L).getD i.toNat ([],[])).2).length:Int))-(fs.getD i.toNat 0)))/\(gs.length+([Int.tdiv (((2-((((pieG n E V L).getD i.toNat ([],[])).1).length:Int))+((((pieG n E V L).getD i.toNat ([],[])).2).length:Int))-(fs.getD i.toNat 0)) 2]:List Int).length<=2147483647)/\(InR .i64 (i+1))) [(115,true)] h ⟨bx,r64,r64,bx,r64,⟨by omega,⟨by omega,by omega⟩⟩,ln,r64⟩ fun _ _ h=>?_
  exact lp_ (hK4 (i+1) (gs++([Int.tdiv (((2-((((pieG n E V L).getD i.toNat ([],[])).1).length:Int))+((((pieG n E V L).getD i.toNat ([],[])).2).length:Int))-(fs.getD i.toNat 0)) 2]:List Int)) (rk [0,94211,2]) h ⟨by omega,by omega,by rw[genF_snoc g0,<-g2]⟩ (by omega))
 have hge:i.toNat=(pieG n E V L).length:=by omega
 rw[hge] at g2
 refine go0 [] h fun _ _ h=>?_
 exact out ((gs:List Int),((0:Int):Int),()) h (by simp only[genusF,if_neg (show ¬(walksF n E V L T).2≠0 by rw[hw0];exact fun q=>q rfl)];rw[<-k2,<-g2])
def C_genus:Con Tryz.prog:=plain genus_c
theorem flat_c:ConOk Tryz.prog 98 [(false,grT),(false,ptT),(false,(.list (.list .int)))] [.int] (fun x=>inR (I_ x.1.1)/\inLL (K_ x.2.2.1)/\szLL (K_ x.2.2.1)) (fun x=>(flatF (I_ x.1.1) (E_ x.1.2) (J_ x.2.1.1) (J_ x.2.1.2) (K_ x.2.2.1),())):=by
 refine con_of Tryz.f98 30 [C_genus] Tryz.func98 fun o x hd _ _ h=>?_
 obtain⟨⟨(n:Int),(E:List (Int×Int))⟩,⟨(V:List Int),(L:List Int)⟩,(T:List (List Int)),_⟩:=x
 have hl0:=lnE h 0 E
 have hl1:=lnI h 1 V
 have hl2:=lnI h 2 L
 have hl3:=lnL h 3 T
 change inR n/\inLL T/\szLL T at hd
 obtain⟨hn,hin,hsz⟩:=hd
 refine go (pr:=(inR n/\inLL T/\szLL T)) [] h (⟨hn,hin,hsz⟩) fun _ _ h=>?_
 refine go_if h (fun(q1:¬((genusF n E V L T).2=0))=>?_) (fun(q1:(genusF n E V L T).2=0)=>?_)
 .refine go0 [] h fun _ _ h=>?_
  exact out (((genusF n E V L T).2:Int),()) h (by simp only[flatF,if_pos q1];rfl)
 have hgl:=genus_len q1
 have hpv:=genus_vlen q1
 refine go0 [] h fun _ _ h=>?_
 refine go_loop (Int) (fun i=>⟨[(21,eo 0),(22,en (((genusF n E V L T).1).length:Int)),(23,en i)],[(0,some (.ro .int ((genusF n E V L T).1)))],1⟩) (fun i=>0<=i/\∀j:Nat,(j:Int)<i->(genusF n E V L T).1.getD j 0=0) (fun i=>(((genusF n E V L T).1.length:Int)-i).toNat) (0) (rk [24580]) h ⟨Int.le_refl _,fun j hj=>by omega⟩ fun i _ _ _ hK1 hI h=>?_
 obtain⟨i0,i1⟩:=hI
 refine go0 [] h fun _ _ h=>?_
 refine go_if h (fun(q2:i<(((genusF n E V L T).1).length:Int))=>?_) (fun(q2:¬(i<(((genusF n E V L T).1).length:Int)))=>?_)
 .refine go (pr:=(Bnd i ((genusF n E V L T).1).length)) [] h bx fun _ _ h=>?_
  refine go_if h (fun(q3:¬((((genusF n E V L T).1).getD i.toNat 0)=0))=>?_) (fun(q3:(((genusF n E V L T).1).getD i.toNat 0)=0)=>?_)
  .refine go0 [] h fun _ _ h=>?_
   exact out (((6:Int):Int),()) h (by rw[flat_bad q1 i0 q2 q3])
  refine go (pr:=(InR .i64 (i+1))) [] h r64 fun _ _ h=>?_
  exact lp_ (hK1 (i+1) (ir 1) h ⟨by omega,fun j hj=>if z:(j:Int)<i then i1 j z else by rw[show j=i.toNat by omega];exact q3⟩ (by omega))
 refine go0 [] h fun _ _ h=>?_
 exact out (((0:Int):Int),()) h (by rw[flat_ok q1 (fun j hj=>i1 j (by omega))])
def C_flat:Con Tryz.prog:=plain flat_c
theorem corner_c:ConOk Tryz.prog 137 [(false,grT),(false,(.pair .int (.list .int)))] [.int] (fun x=>((J_ x.2.1.2).length=0/\-1<=-1-(I_ x.2.1.1)/\-1-(I_ x.2.1.1)<=1000000)\/((J_ x.2.1.2).length≠0/\0<=(I_ x.2.1.1)/\(I_ x.2.1.1)/2<((E_ x.1.2).length:Int)/\(I_ x.2.1.1)<=1000000)) (fun x=>(cornE (E_ x.1.2) ((I_ x.2.1.1),(J_ x.2.1.2)),())):=by
 refine con_of Tryz.f137 34 [] Tryz.func137 fun o x hd _ _ h=>?_
 obtain⟨⟨(n:Int),(E:List (Int×Int))⟩,⟨(k:Int),(ds:List Int)⟩,_⟩:=x
 have hl0:=lnE h 0 E
 have hl1:=lnI h 1 ds
 change (ds.length=0/\-1<=-1-k/\-1-k<=1000000)\/(ds.length≠0/\0<=k/\k/2<(E.length:Int)/\k<=1000000) at hd
 refine go0 [] h fun _ _ h=>?_
 refine go_if h (fun(q1:(ds.length:Int)=0)=>?_) (fun(q1:¬((ds.length:Int)=0))=>?_)
 .have hk:=hd.resolve_right fun z=>z.1 (by omega)
  refine go (pr:=(InR .i64 ((-1)-k))) [] h r64 fun _ _ h=>?_
  exact out (((-1)-k:Int),()) h (by unfold cornE;rw[if_pos (show(k,ds).2.length=0 by show ds.length=0;omega)])
 have hk:=hd.resolve_left fun z=>by omega
 refine go (pr:=(0<=k/\0<(2:Int))) [] h (⟨by omega,by omega⟩) fun _ _ h=>?_
 refine go_if h (fun(q2:k%2=0)=>?_) (fun(q2:¬(k%2=0))=>?_)
 .refine go (pr:=(0<=k/\0<(2:Int)/\InR .i64 k)/\(Bnd (k/2) E.length)) [] h ⟨⟨by omega,by omega,⟨by omega,by omega⟩⟩,bx⟩ fun _ _ h=>?_
  exact out (((E.getD (k/2).toNat (0,0)).1:Int),()) h (by unfold cornE tailE;rw[if_neg (show ¬(k,ds).2.length=0 by show ¬ds.length=0;omega),if_pos (show(k,ds).1%2=0 from q2)])
 refine go (pr:=(0<=k/\0<(2:Int)/\InR .i64 k)/\(Bnd (k/2) E.length)) [] h ⟨⟨by omega,by omega,⟨by omega,by omega⟩⟩,bx⟩ fun _ _ h=>?_
 exact out (((E.getD (k/2).toNat (0,0)).2:Int),()) h (by unfold cornE tailE;rw[if_neg (show ¬(k,ds).2.length=0 by show ¬ds.length=0;omega),if_neg (show ¬(k,ds).1%2=0 from q2)])
def C_corner:Con Tryz.prog:=plain corner_c
theorem owners_c:ConOk Tryz.prog 99 [(false,grT),(false,ptT),(false,(.list (.list .int)))] [(.map .int .int),.int] (fun x=>inR (I_ x.1.1)/\inLL (K_ x.2.2.1)/\szLL (K_ x.2.2.1)/\(walksF (I_ x.1.1) (E_ x.1.2) (J_ x.2.1.1) (J_ x.2.1.2) (K_ x.2.2.1)).2=0) (fun x=>(ownF (E_ x.1.2) (pieG (I_ x.1.1) (E_ x.1.2) (J_ x.2.1.1) (J_ x.2.1.2)) (walksF (I_ x.1.1) (E_ x.1.2) (J_ x.2.1.1) (J_ x.2.1.2) (K_ x.2.2.1)).1 (walksF (I_ x.1.1) (E_ x.1.2) (J_ x.2.1.1) (J_ x.2.1.2) (K_ x.2.2.1)).1.length,((pieG (I_ x.1.1) (E_ x.1.2) (J_ x.2.1.1) (J_ x.2.1.2)).length:Int),())):=by
 refine con_of Tryz.f99 72 [C_corner,C_pieces,C_walks] Tryz.func99 fun o x hd _ _ h=>?_
 obtain⟨⟨(n:Int),(E:List (Int×Int))⟩,⟨(V:List Int),(L:List Int)⟩,(T:List (List Int)),_⟩:=x
 have hl0:=lnE h 0 E
 have hl1:=lnI h 1 V
 have hl2:=lnI h 2 L
 have hl3:=lnL h 3 T
 change inR n/\inLL T/\szLL T/\(walksF n E V L T).2=0 at hd
 obtain⟨hn,hin,hsz,hw0⟩:=hd
 obtain⟨hp0,hT,hW⟩:=walks_ok hw0
 have hP:=pieG_ok hp0
 obtain⟨hrt,hV,hL,_⟩:=partE_0 hp0
 obtain⟨r1,r2,r3,_⟩:=rightE_0 hrt
 have hVl:=rises_len hV r1
 have hLl:=rises_len hL (by omega)
 have hPl:=hP.len
 have hWl:=hW.len
 have hAl:=atF_len (fun k=>(hP.bd k).1) (P:=(pieG n E V L))
 refine go (pr:=(inR n)) [] h hn fun _ _ h=>?_
 refine go_loop2 Int (List (Int×Int)) (fun i m=>⟨[(2,eo 0),(3,ep 1),(4,ep 2),(8,eo 3),(10,em 4),(27,eo 3),(28,en ((pieG n E V L).length:Int)),(29,en i)],[(0,some (.ar (.list .int) T)),(1,some (.box 55 [.v (.int .i64 n),.own 5])),(2,some (.box 26 [.own 6,.own 7])),(3,some (.ro ptT (pieG n E V L))),(4,some (.map .int .int m)),(5,some (.ar edT E)),(6,some (.ar .int V)),(7,some (.ar .int L))],8⟩) (fun i m=>0<=i/\i<=((pieG n E V L).length:Int)/\m=atF (pieG n E V L) i.toNat) (fun i m=>(((pieG n E V L).length:Int)-i).toNat) 0 [] (rk [3,4,4100,24580,49156,0,1,2]) h ⟨Int.le_refl _,Int.natCast_nonneg _,rfl⟩ fun i m _ _ _ hK1 hI h=>?_
 obtain⟨i0,i1,i2⟩:=hI
 refine go0 [] h fun _ _ h=>?_
 refine go_if h (fun(q1:i<((pieG n E V L).length:Int))=>?_) (fun(q1:¬(i<((pieG n E V L).length:Int)))=>?_)
 .obtain⟨qb1,qb2⟩:=hP.bd i.toNat
  have hml:=hAl i.toNat
  have hmu:i.toNat*V.length<=1048576:=Nat.le_trans (Nat.mul_le_mul (show i.toNat<=1024 by omega) (show V.length<=1024 by omega)) (by decide)
  rw[<-i2] at hml
  refine go (pr:=(Bnd i (pieG n E V L).length)) [] h bx fun _ _ h=>?_
  refine go_loop2 Int (List (Int×Int)) (fun j mm=>⟨[(2,eo 0),(3,ep 1),(4,ep 2),(8,eo 3),(10,em 4),(11,en i),(27,eo 3),(28,en ((pieG n E V L).length:Int)),(29,en i),(35,eo 5),(36,en ((((pieG n E V L).getD i.toNat ([],[])).1).length:Int)),(37,en j)],[(0,some (.ar (.list .int) T)),(1,some (.box 55 [.v (.int .i64 n),.own 6])),(2,some (.box 26 [.own 7,.own 8])),(3,some (.ro ptT (pieG n E V L))),(4,some (.map .int .int mm)),(5,some (.ro .int (((pieG n E V L).getD i.toNat ([],[])).1))),(6,some (.ar edT E)),(7,some (.ar .int V)),(8,some (.ar .int L))],9⟩) (fun j mm=>0<=j/\j<=(((pieG n E V L).getD i.toNat ([],[])).1.length:Int)/\mm=at1 (atF (pieG n E V L) i.toNat) ((pieG n E V L).getD i.toNat ([],[])).1 i j.toNat) (fun j mm=>((((pieG n E V L).getD i.toNat ([],[])).1.length:Int)-j).toNat) 0 m (rk [0,1,2,3,4,12296,5,6,7]) h ⟨Int.le_refl _,Int.natCast_nonneg _,i2⟩ fun j mm _ _ _ hK2 hI h=>?_
  obtain⟨j0,j1,j2⟩:=hI
  refine go0 [] h fun _ _ h=>?_
  refine go_if h (fun(q2:j<((((pieG n E V L).getD i.toNat ([],[])).1).length:Int))=>?_) (fun(q2:¬(j<((((pieG n E V L).getD i.toNat ([],[])).1).length:Int)))=>?_)
  .have hvm:=hP.sub i.toNat _ (getD_mem' (l:=((pieG n E V L).getD i.toNat ([],[])).1) (i:=j.toNat) (d:=0) (by omega))
   have hvb:=(rises_iff.1 hV).2 _ hvm
   have hal:=at1_len (m:=atF (pieG n E V L) i.toNat) (vs:=((pieG n E V L).getD i.toNat ([],[])).1) (c:=i) j.toNat
   rw[<-j2,<-i2] at hal
   refine go (pr:=(Bnd j (((pieG n E V L).getD i.toNat ([],[])).1).length)/\(kwf .int ((((pieG n E V L).getD i.toNat ([],[])).1).getD j.toNat 0))/\(mm.length<=2147483647)/\(InR .i64 (j+1))) [] h ⟨bx,wk,ln,r64⟩ fun _ _ h=>?_
   exact lp_ (hK2 (j+1) (ptI mm ((((pieG n E V L).getD i.toNat ([],[])).1).getD j.toNat 0) i) (ir 9) h ⟨by omega,by omega,by rw[at1_snoc j0,<-j2]⟩ (by omega))
  have hje:j.toNat=((pieG n E V L).getD i.toNat ([],[])).1.length:=by omega
  have hj2:=j2
  rw[hje] at hj2
  refine go (pr:=(InR .i64 (i+1))) [] h r64 fun _ _ h=>?_
  exact lp_ (hK1 (i+1) mm (rk [0,1,2,3,4,6,7,8]) h ⟨by omega,by omega,by rw[atF_snoc i0,<-hj2]⟩ (by omega))
 have hie:i.toNat=(pieG n E V L).length:=by omega
 rw[hie] at i2
 refine go (pr:=(inR n/\inLL T/\szLL T)) [] h (⟨hn,hin,hsz⟩) fun _ _ h=>?_
 refine go_loop2 Int (List (Int×Int)) (fun i om=>⟨[(3,ep 0),(8,eo 1),(10,em 2),(15,em 3),(54,eo 4),(55,en (((walksF n E V L T).1).length:Int)),(56,en i)],[(0,some (.box 55 [.v (.int .i64 n),.own 5])),(1,some (.ro ptT (pieG n E V L))),(2,some (.map .int .int m)),(3,some (.map .int .int om)),(4,some (.ro (.pair .int (.list .int)) ((walksF n E V L T).1))),(5,some (.ar edT E))],6⟩) (fun i om=>0<=i/\i<=((walksF n E V L T).1.length:Int)/\om=ownF E (pieG n E V L) (walksF n E V L T).1 i.toNat) (fun i om=>(((walksF n E V L T).1.length:Int)-i).toNat) 0 [] (rk [1,3,4,4104,24584,5]) h ⟨Int.le_refl _,Int.natCast_nonneg _,rfl⟩ fun i om _ _ _ hK3 hI h=>?_
 obtain⟨k0,k1,k2⟩:=hI
 refine go0 [] h fun _ _ h=>?_
 refine go_if h (fun(q3:i<(((walksF n E V L T).1).length:Int))=>?_) (fun(q3:¬(i<(((walksF n E V L T).1).length:Int)))=>?_)
 .have hwm:((walksF n E V L T).1.getD i.toNat (0,[]))∈(walksF n E V L T).1:=getD_mem' (by omega)
  have hcv:=corn_in hp0 hW hwm
  have hvb:=(rises_iff.1 hV).2 _ hcv
  have hkb:=key_b hp0 hW hwm
  have hcd:=corn_dom hp0 hW hwm
  have hol:=own_len (E:=E) (P:=(pieG n E V L)) (W:=(walksF n E V L T).1) i.toNat
  rw[<-k2] at hol
  refine go (pr:=(Bnd i ((walksF n E V L T).1).length)/\(((((walksF n E V L T).1).getD i.toNat (0,[])).2.length=0/\-1<=-1-(((walksF n E V L T).1).getD i.toNat (0,[])).1/\-1-(((walksF n E V L T).1).getD i.toNat (0,[])).1<=1000000)\/((((walksF n E V L T).1).getD i.toNat (0,[])).2.length≠0/\0<=(((walksF n E V L T).1).getD i.toNat (0,[])).1/\(((walksF n E V L T).1).getD i.toNat (0,[])).1/2<(E.length:Int)/\(((walksF n E V L T).1).getD i.toNat (0,[])).1<=1000000))/\(kwf .int (cornE E (((walksF n E V L T).1).getD i.toNat (0,[]))))/\(kwf .int ((((walksF n E V L T).1).getD i.toNat (0,[])).1))/\(om.length<=2147483647)/\(InR .i64 (i+1))) [] h ⟨bx,hcd,wk,wk,ln,r64⟩ fun _ _ h=>?_
  exact lp_ (hK3 (i+1) (ptI om ((((walksF n E V L T).1).getD i.toNat (0,[])).1) ((lkI m (cornE E (((walksF n E V L T).1).getD i.toNat (0,[])))).getD 0)) (ir 6) h ⟨by omega,by omega,by rw[ownF_snoc k0,<-k2,<-i2]⟩ (by omega))
 have hke:i.toNat=(walksF n E V L T).1.length:=by omega
 rw[hke] at k2
 refine go0 [] h fun _ _ h=>?_
 exact out ((om:MapD .int Int),(((pieG n E V L).length:Int):Int),()) h (by rw[<-k2])
def C_owners:Con Tryz.prog:=plain owners_c
abbrev MS_put:MSh:=⟨[.box 218 [.mp 1,.own 2,.own 3,.int],.map .int .int,.row 3 .int,.row 3 .int],[.ptr 0 0,.int],[.box 218 [.mp 1,.own 2,.own 3,.int],.map .int .int,.row 3 .int,.row 3 .int],[.int],1,false,[]⟩
theorem put_m:ConMOk Tryz.prog 139 MS_put (fun x=>(-9223372036854775808<=(I_ x.2.2.1)/\(I_ x.2.2.1)<=9223372036854775807)/\(show MapD .int Int from x.1.2.1).length<=1000000/\(J_ x.1.2.2.1).length<=1000000/\(J_ x.1.2.2.2.1).length<=1000000/\-1000000<=(I_ x.1.1.2.2.2.1)/\(I_ x.1.1.2.2.2.1)<=1000000) (fun x=>((((),(),(),putG (show MapD .int Int from x.1.2.1) (I_ x.1.1.2.2.2.1) (I_ x.2.2.1),()),putM (show MapD .int Int from x.1.2.1) (J_ x.1.2.2.1) (I_ x.2.2.1),putL (show MapD .int Int from x.1.2.1) (J_ x.1.2.2.1) (I_ x.2.2.1),putU (show MapD .int Int from x.1.2.1) (J_ x.1.2.2.1) (J_ x.1.2.2.2.1) (I_ x.2.2.1),()),(putI (show MapD .int Int from x.1.2.1) (J_ x.1.2.2.1) (I_ x.2.2.1),()))):=by
 refine conM_of Tryz.f139 58 [] MS_put Tryz.func139 fun o A x hd _ _ h=>?_
 obtain⟨⟨⟨_,_,_,(g:Int),_⟩,(M:MapD .int Int),(L:List Int),(U:List Int),_⟩,⟨_,(x:Int),_⟩⟩:=x
 have hl2:=lnI h 2 L
 have hl3:=lnI h 3 U
 change (-9223372036854775808<=x/\x<=9223372036854775807)/\M.length<=1000000/\L.length<=1000000/\U.length<=1000000/\-1000000<=g/\g<=1000000 at hd
 obtain⟨⟨x0,x1⟩,hM,hL,hU,g0,g1⟩:=hd
 refine go (pr:=(kwf .int x)) [] h wk fun _ _ h=>?_
 refine go_if h (fun(q1:((lkI M x).isSome)=true)=>?_) (fun(q1:((lkI M x).isSome)=false)=>?_)
 .refine go0 [] h fun _ _ h=>?_
  obtain⟨i,hi⟩:=Option.isSome_iff_exists.1 q1
  exact outM ((((),(),(),g,()),M,L,U,()),(((lkI M x).getD 0),())) (ir 4) h (by simp only[putM,putL,putU,putG,putI,hi];rfl)
 refine go (pr:=(kwf .int x)/\(M.length<=2147483647)/\(L.length+([x]:List Int).length<=2147483647)/\(U.length+([(L.length:Int)]:List Int).length<=2147483647)/\(InR .i64 (g+1))) [] h ⟨wk,ln,ln,ln,r64⟩ fun _ _ h=>?_
 have hi:lkI M x=none:=by cases hq:lkI M x with|none=>rfl|some _=>rw[hq] at q1;cases q1
 exact outM ((((),(),(),g+1,()),(ptI M x (L.length:Int)),(L++([x]:List Int)),(U++([(L.length:Int)]:List Int)),()),((L.length:Int),())) (rk [0,1,135172,180228]) h (by simp only[putM,putL,putU,putG,putI,hi];rfl)
def C_put:Con Tryz.prog:=memc put_m
abbrev MS_root:MSh:=⟨[.box 218 [.mp 1,.own 2,.own 3,.int],.map .int .int,.row 3 .int,.row 3 .int],[.ptr 0 0,.int],[.box 218 [.mp 1,.own 2,.own 3,.int],.map .int .int,.row 3 .int,.row 3 .int],[.int],1,false,[]⟩
theorem root_m:ConMOk Tryz.prog 140 MS_root (fun x=>OkUp (J_ x.1.2.2.2.1)/\0<=(I_ x.2.2.1)/\(I_ x.2.2.1)<((J_ x.1.2.2.2.1).length:Int)/\(J_ x.1.2.2.2.1).length<=1000000) (fun x=>((((),(),(),(I_ x.1.1.2.2.2.1),()),(show MapD .int Int from x.1.2.1),(J_ x.1.2.2.1),hvU (J_ x.1.2.2.2.1) (I_ x.2.2.1),()),(hvI (J_ x.1.2.2.2.1) (I_ x.2.2.1),()))):=by
 refine conM_of Tryz.f140 41 [] MS_root Tryz.func140 fun o A x hd _ _ h=>?_
 obtain⟨⟨⟨_,_,_,(g:Int),_⟩,(M:MapD .int Int),(L:List Int),(U:List Int),_⟩,⟨_,(i:Int),_⟩⟩:=x
 have hl2:=lnI h 2 L
 have hl3:=lnI h 3 U
 change OkUp U/\0<=i/\i<(U.length:Int)/\U.length<=1000000 at hd
 obtain⟨hU,i0,i1,hUl⟩:=hd
 refine go0 [] h fun _ _ h=>?_
 refine go_loop3 Int (List Int) Nat (fun k c f=>⟨[(0,ep 0),(1,en k)],[(0,some (.box 218 [.mp 1,.own 2,.own 3,.v (.int .i64 g)])),(1,some (.map .int .int M)),(2,some (.row 3 .int L)),(3,some (.row 3 .int c))],4⟩) (fun k c f=>0<=k/\k<(c.length:Int)/\OkUp c/\c.length=U.length/\k.toNat<f/\hvF f c k=hvF (i.toNat+1) U i) (fun k c f=>f) i U (i.toNat+1) (ir 4) h ⟨i0,i1,hU,rfl,Nat.lt_succ_self _,rfl⟩ fun k c f _ _ _ hK1 hI h=>?_
 obtain⟨k0,k1,k2,k3,k4,k5⟩:=hI
 refine go (pr:=(Bnd k c.length)) [] h bx fun _ _ h=>?_
 refine go_if h (fun(q1:¬((c.getD k.toNat 0)=k))=>?_) (fun(q1:(c.getD k.toNat 0)=k)=>?_)
 .have hy:=okUp_at k2 k0 (show k<(c.length:Int) by omega)
  have hz:=okUp_at k2 hy.1 (show c.getD k.toNat 0<(c.length:Int) by omega)
  have hsl:(c.set k.toNat (c.getD (c.getD k.toNat 0).toNat 0)).length=c.length:=List.length_set ..
  have hn:(c.set k.toNat (c.getD (c.getD k.toNat 0).toNat 0)).getD k.toNat 0=c.getD (c.getD k.toNat 0).toNat 0:=by rw[getD_set (by omega),if_pos rfl]
  refine go (pr:=(Bnd k c.length)/\(Bnd (c.getD k.toNat 0) c.length)/\(Bnd k c.length)/\(Bnd k c.length)/\(Bnd k (c.set k.toNat (c.getD (c.getD k.toNat 0).toNat 0)).length)) [] h ⟨bx,bx,bx,bx,bx⟩ fun _ _ h=>?_
  exact lp_ (hK1 ((c.set k.toNat (c.getD (c.getD k.toNat 0).toNat 0)).getD k.toNat 0) (c.set k.toNat (c.getD (c.getD k.toNat 0).toNat 0)) (f-1) (ir 4) h ⟨by rw[hn];exact hz.1,by rw[hn,hsl];omega,(half_ok k2 k0 (by omega)).1,by omega,by rw[hn];omega,by rw[<-k5,hvS (by omega) q1]⟩ (by omega))
 refine go0 [] h fun _ _ h=>?_
 have he:hvF (i.toNat+1) U i=(c,k):=by rw[<-k5];exact hvE (by omega) q1
 exact outM ((((),(),(),g,()),M,L,c,()),(k,())) (ir 4) h (by simp only[hvU,hvI,he];rfl)
def C_root:Con Tryz.prog:=memc root_m
abbrev MS_add:MSh:=⟨[.box 218 [.mp 1,.own 2,.own 3,.int],.map .int .int,.row 3 .int,.row 3 .int],[.ptr 0 0,.int],[.box 218 [.mp 1,.own 2,.own 3,.int],.map .int .int,.row 3 .int,.row 3 .int],[.bool],1,false,[]⟩
theorem add_m:ConMOk Tryz.prog 101 MS_add (fun x=>(-9223372036854775808<=(I_ x.2.2.1)/\(I_ x.2.2.1)<=9223372036854775807)/\(show MapD .int Int from x.1.2.1).length<=900000/\(J_ x.1.2.2.1).length<=900000/\(J_ x.1.2.2.2.1).length<=900000/\-900000<=(I_ x.1.1.2.2.2.1)/\(I_ x.1.1.2.2.2.1)<=900000) (fun x=>((((),(),(),putG (show MapD .int Int from x.1.2.1) (I_ x.1.1.2.2.2.1) (I_ x.2.2.1),()),putM (show MapD .int Int from x.1.2.1) (J_ x.1.2.2.1) (I_ x.2.2.1),putL (show MapD .int Int from x.1.2.1) (J_ x.1.2.2.1) (I_ x.2.2.1),putU (show MapD .int Int from x.1.2.1) (J_ x.1.2.2.1) (J_ x.1.2.2.2.1) (I_ x.2.2.1),()),(decide (putI (show MapD .int Int from x.1.2.1) (J_ x.1.2.2.1) (I_ x.2.2.1)=((J_ x.1.2.2.1).length:Int)),()))):=by
 refine conM_of Tryz.f101 20 [C_can,C_put] MS_add Tryz.func101 fun o A x hd _ _ h=>?_
 obtain⟨⟨⟨_,_,_,(g:Int),_⟩,(M:MapD .int Int),(L:List Int),(U:List Int),_⟩,⟨_,(x:Int),_⟩⟩:=x
 have hl2:=lnI h 2 L
 have hl3:=lnI h 3 U
 change (-9223372036854775808<=x/\x<=9223372036854775807)/\M.length<=900000/\L.length<=900000/\U.length<=900000/\-900000<=g/\g<=900000 at hd
 obtain⟨⟨x0,x1⟩,hM,hL,hU,g0,g1⟩:=hd
 refine go (pr:=(kwf .int x)) [] h wk fun _ _ h=>?_
 refine go_if h (fun(q1:true=false)=>?_) (fun(q1:true=true)=>?_)
 .cases q1
 refine go (pr:=((-9223372036854775808<=x/\x<=9223372036854775807)/\M.length<=1000000/\L.length<=1000000/\U.length<=1000000/\-1000000<=g/\g<=1000000)) [] h (⟨⟨by omega,by omega⟩,by omega,by omega,by omega,by omega,by omega⟩) fun _ _ h=>?_
 exact outM ((((),(),(),putG M g x,()),putM M L x,putL M L x,putU M L U x,()),(decide (putI M L x=(L.length:Int)),())) (rk [0,53253,53254,53255]) h rfl
def C_add:Con Tryz.prog:=memc add_m
abbrev MS_count:MSh:=⟨[.box 218 [.mp 1,.own 2,.own 3,.int],.map .int .int,.row 3 .int,.row 3 .int],[.ptr 0 0],[.box 218 [.mp 1,.own 2,.own 3,.int],.map .int .int,.row 3 .int,.row 3 .int],[.int],1,false,[]⟩
theorem count_m:ConMOk Tryz.prog 103 MS_count (fun _=>True) (fun x=>((((),(),(),(I_ x.1.1.2.2.2.1),()),(show MapD .int Int from x.1.2.1),(J_ x.1.2.2.1),(J_ x.1.2.2.2.1),()),((I_ x.1.1.2.2.2.1),()))):=by
 refine conM_of Tryz.f103 9 [] MS_count Tryz.func103 fun o A x hd _ _ h=>?_
 obtain⟨⟨⟨_,_,_,(g:Int),_⟩,(M:MapD .int Int),(L:List Int),(U:List Int),_⟩,⟨_,_⟩⟩:=x
 have hl2:=lnI h 2 L
 have hl3:=lnI h 3 U
 refine go0 [] h fun _ _ h=>?_
 exact outM ((((),(),(),g,()),M,L,U,()),(g,())) (ir 4) h rfl
def C_count:Con Tryz.prog:=memc count_m
abbrev MS_new:MSh:=⟨[.row 3 .int],[.own 0],[.box 218 [.mp 1,.own 2,.own 3,.int],.map .int .int,.row 3 .int,.row 3 .int],[.ptr 0 0],0,false,[]⟩
theorem new_m:ConMOk Tryz.prog 100 MS_new (fun x=>(J_ x.1.1)=[]) (fun x=>((((),(),(),(0:Int),()),([]:List (Int×Int)),([]:List Int),([]:List Int),()),((),()))):=by
 refine conM_of Tryz.f100 20 [] MS_new Tryz.func100 fun o A x hd _ _ h=>?_
 obtain⟨⟨(Z:List Int),_⟩,⟨_,_⟩⟩:=x
 have hl0:=lnI h 0 Z
 change Z=[] at hd
 have hz:Z.length=0:=by rw[hd];rfl
 refine go0 [] h fun _ _ h=>?_
 refine go_loop (Int) (fun i=>⟨[(3,ep 0),(9,eo 1),(10,en (Z.length:Int)),(11,en i)],[(0,some (.box 218 [.mp 2,.v (.slice none 0 0),.v (.slice none 0 0),.v (.int .i64 0)])),(1,some (.row 3 .int Z)),(2,some (.map .int .int ([]:MapD .int Int)))],3⟩) (fun i=>i=0/\True) (fun i=>0) (0) (rk [12289,0,4097]) h ⟨rfl,tv⟩ fun i _ _ _ hK1 hI h=>?_
 obtain⟨i0,_⟩:=hI
 refine go0 [] h fun _ _ h=>?_
 refine go_if h (fun(q1:i<(Z.length:Int))=>?_) (fun(q1:¬(i<(Z.length:Int)))=>?_)
 .omega
 refine go0 [] h fun _ _ h=>?_
 exact outM ((((),(),(),(0:Int),()),([]:MapD .int Int),[],[],()),((),())) [(0,some 0),(1,some 2),(2,none),(3,none)] h rfl
def C_new:Con Tryz.prog:=memc new_m
abbrev MS_join:MSh:=⟨[.box 218 [.mp 1,.own 2,.own 3,.int],.map .int .int,.row 3 .int,.row 3 .int],[.ptr 0 0,.int,.int],[.box 218 [.mp 1,.own 2,.own 3,.int],.map .int .int,.row 3 .int,.row 3 .int],[.bool],1,false,[]⟩
theorem join_m:ConMOk Tryz.prog 102 MS_join (fun x=>(-9223372036854775808<=(I_ x.2.2.1)/\(I_ x.2.2.1)<=9223372036854775807)/\(-9223372036854775808<=(I_ x.2.2.2.1)/\(I_ x.2.2.2.1)<=9223372036854775807)/\RepS (show MapD .int Int from x.1.2.1) (J_ x.1.2.2.1) (J_ x.1.2.2.2.1)/\(J_ x.1.2.2.1).length<=900000/\-900000<=(I_ x.1.1.2.2.2.1)/\(I_ x.1.1.2.2.2.1)<=900000) (fun x=>((((),(),(),jnG (show MapD .int Int from x.1.2.1) (J_ x.1.2.2.1) (J_ x.1.2.2.2.1) (I_ x.1.1.2.2.2.1) (I_ x.2.2.1) (I_ x.2.2.2.1),()),jnM (show MapD .int Int from x.1.2.1) (J_ x.1.2.2.1) (I_ x.2.2.1) (I_ x.2.2.2.1),jnL (show MapD .int Int from x.1.2.1) (J_ x.1.2.2.1) (I_ x.2.2.1) (I_ x.2.2.2.1),jnU (show MapD .int Int from x.1.2.1) (J_ x.1.2.2.1) (J_ x.1.2.2.2.1) (I_ x.2.2.1) (I_ x.2.2.2.1),()),(jnB (show MapD .int Int from x.1.2.1) (J_ x.1.2.2.1) (J_ x.1.2.2.2.1) (I_ x.2.2.1) (I_ x.2.2.2.1),()))):=by
 refine conM_of Tryz.f102 52 [C_can,C_put,C_root] MS_join Tryz.func102 fun o A x hd _ _ h=>?_
 obtain⟨⟨⟨_,_,_,(g:Int),_⟩,(M:MapD .int Int),(L:List Int),(U:List Int),_⟩,⟨_,(x:Int),(y:Int),_⟩⟩:=x
 have hl2:=lnI h 2 L
 have hl3:=lnI h 3 U
 change (-9223372036854775808<=x/\x<=9223372036854775807)/\(-9223372036854775808<=y/\y<=9223372036854775807)/\RepS M L U/\L.length<=900000/\-900000<=g/\g<=900000 at hd
 obtain⟨⟨x0,x1⟩,⟨y0,y1⟩,hR,hL,g0,g1⟩:=hd
 obtain⟨hR1,a0,a1,_⟩:=hR.put x
 obtain⟨hR2,b0,b1,_⟩:=hR1.put y
 have w1:=hR.len
 have w2:M.length<=L.length:=hR.mlen
 have w3:=hR1.len
 have w4:=hR1.mlen
 have w5:=hR2.len
 have w6:=hR2.mlen
 have w7:=putL_len M L x
 have w8:=putL_len (putM M L x) (putL M L x) y
 have w9:=putG_b M g x
 have w10:=putG_b (putM M L x) (putG M g x) y
 obtain⟨c1,c2,c3,c4,c5,c6,c7,c8⟩:=root2 hR2.ok (i:=putI M L x) a0 (by omega) b0 (by omega)
 refine go (pr:=(kwf .int x)/\((true=true)->(kwf .int y))) [] h ⟨wk,fun _=>wk⟩ fun _ _ h=>?_
 refine go_if h (fun(q1:(true=false)\/(true=false))=>?_) (fun(q1:(true=true)/\(true=true))=>?_)
 .rcases q1 with q|q<;>cases q
 refine go (pr:=((-9223372036854775808<=x/\x<=9223372036854775807)/\M.length<=1000000/\L.length<=1000000/\U.length<=1000000/\-1000000<=g/\g<=1000000)/\((-9223372036854775808<=y/\y<=9223372036854775807)/\(putM M L x).length<=1000000/\(putL M L x).length<=1000000/\(putU M L U x).length<=1000000/\-1000000<=(putG M g x)/\(putG M g x)<=1000000)/\(OkUp (putU (putM M L x) (putL M L x) (putU M L U x) y)/\0<=(putI M L x)/\(putI M L x)<((putU (putM M L x) (putL M L x) (putU M L U x) y).length:Int)/\(putU (putM M L x) (putL M L x) (putU M L U x) y).length<=1000000)/\(OkUp (hvU (putU (putM M L x) (putL M L x) (putU M L U x) y) (putI M L x))/\0<=(putI (putM M L x) (putL M L x) y)/\(putI (putM M L x) (putL M L x) y)<((hvU (putU (putM M L x) (putL M L x) (putU M L U x) y) (putI M L x)).length:Int)/\(hvU (putU (putM M L x) (putL M L x) (putU M L U x) y) (putI M L x)).length<=1000000)) [] h ⟨⟨⟨by omega,by omega⟩,by omega,by omega,by omega,by omega,by omega⟩,⟨⟨by omega,by omega⟩,by omega,by omega,by omega,by omega,by omega⟩,⟨hR2.ok,by omega,by omega,by omega⟩,⟨by assumption,by omega,by omega,by omega⟩⟩ fun _ _ h=>?_
 refine go_if h (fun(q2:hvI (putU (putM M L x) (putL M L x) (putU M L U x) y) (putI M L x)=hvI (hvU (putU (putM M L x) (putL M L x) (putU M L U x) y) (putI M L x)) (putI (putM M L x) (putL M L x) y))=>?_) (fun(q2:¬(hvI (putU (putM M L x) (putL M L x) (putU M L U x) y) (putI M L x)=hvI (hvU (putU (putM M L x) (putL M L x) (putU M L U x) y) (putI M L x)) (putI (putM M L x) (putL M L x) y)))=>?_)
 .refine go0 [] h fun _ _ h=>?_
  have q9:jnRi M L U x y=jnRj M L U x y:=q2
  exact outM ((((),(),(),putG (putM M L x) (putG M g x) y,()),putM (putM M L x) (putL M L x) y,putL (putM M L x) (putL M L x) y,hvU (hvU (putU (putM M L x) (putL M L x) (putU M L U x) y) (putI M L x)) (putI (putM M L x) (putL M L x) y),()),(false,())) (rk [0,98309,98310,98311]) h (by simp only[jnG,jnM,jnL,jnU,jnB,if_pos q9];rfl)
 refine go (pr:=(Bnd (max (hvI (putU (putM M L x) (putL M L x) (putU M L U x) y) (putI M L x)) (hvI (hvU (putU (putM M L x) (putL M L x) (putU M L U x) y) (putI M L x)) (putI (putM M L x) (putL M L x) y))) (hvU (hvU (putU (putM M L x) (putL M L x) (putU M L U x) y) (putI M L x)) (putI (putM M L x) (putL M L x) y)).length)/\(Bnd (max (hvI (putU (putM M L x) (putL M L x) (putU M L U x) y) (putI M L x)) (hvI (hvU (putU (putM M L x) (putL M L x) (putU M L U x) y) (putI M L x)) (putI (putM M L x) (putL M L x) y))) (hvU (hvU (putU (putM M L x) (putL M L x) (putU M L U x) y) (putI M L x)) (putI (putM M L x) (putL M L x) y)).length)/\(InR .i64 ((putG (putM M L x) (putG M g x) y)-1))) [] h ⟨bx,bx,r64⟩ fun _ _ h=>?_
 have q9:¬jnRi M L U x y=jnRj M L U x y:=q2
 exact outM ((((),(),(),(putG (putM M L x) (putG M g x) y)-1,()),putM (putM M L x) (putL M L x) y,putL (putM M L x) (putL M L x) y,((hvU (hvU (putU (putM M L x) (putL M L x) (putU M L U x) y) (putI M L x)) (putI (putM M L x) (putL M L x) y)).set (max (hvI (putU (putM M L x) (putL M L x) (putU M L U x) y) (putI M L x)) (hvI (hvU (putU (putM M L x) (putL M L x) (putU M L U x) y) (putI M L x)) (putI (putM M L x) (putL M L x) y))).toNat (min (hvI (putU (putM M L x) (putL M L x) (putU M L U x) y) (putI M L x)) (hvI (hvU (putU (putM M L x) (putL M L x) (putU M L U x) y) (putI M L x)) (putI (putM M L x) (putL M L x) y)))),()),(true,())) (rk [0,98309,98310,98311]) h (by simp only[jnG,jnM,jnL,jnU,jnB,if_neg q9];rfl)
def C_join:Con Tryz.prog:=memc join_m
theorem pright_c:ConOk Tryz.prog 75 [(false,grT),(false,ptT),(false,(.pair (.list (.list .int)) (.list (.list .int))))] [.int] (fun x=>inR (I_ x.1.1)/\inLL (K_ x.2.2.1.1)/\szLL (K_ x.2.2.1.1)/\inLL (K_ x.2.2.1.2)/\szLL (K_ x.2.2.1.2)) (fun x=>(planR (I_ x.1.1) (E_ x.1.2) (J_ x.2.1.1) (J_ x.2.1.2) (K_ x.2.2.1.1) (K_ x.2.2.1.2),())):=by
 refine con_of Tryz.f75 134 [C_add,C_count,C_flat,C_join,C_new,C_owners] Tryz.func75 fun o x hd _ _ h=>?_
 obtain⟨⟨(n:Int),(E:List (Int×Int))⟩,⟨(V:List Int),(L:List Int)⟩,⟨(T:List (List Int)),(S:List (List Int))⟩,_⟩:=x
 have hl0:=lnE h 0 E
 have hl1:=lnI h 1 V
 have hl2:=lnI h 2 L
 have hl3:=lnL h 3 T
 have hl4:=lnL h 4 S
 change inR n/\inLL T/\szLL T/\inLL S/\szLL S at hd
 obtain⟨hn,hin,hsz,hinS,hszS⟩:=hd
 have hszS1:=hszS.1
 refine go (pr:=(inR n/\inLL T/\szLL T)) [] h (⟨hn,hin,hsz⟩) fun _ _ h=>?_
 refine go_if h (fun(q1:¬(flatF n E V L T=0))=>?_) (fun(q1:flatF n E V L T=0)=>?_)
 .refine go0 [] h fun _ _ h=>?_
  exact out ((flatF n E V L T:Int),()) h (by rw[planR_flat q1])
 have hf0:=q1
 have hw0:=flat_walks hf0
 obtain⟨hp0,hT,hW⟩:=walks_ok hw0
 have hP:=pieG_ok hp0
 obtain⟨hrt,hV,hL,_⟩:=partE_0 hp0
 obtain⟨r1,r2,r3,_⟩:=rightE_0 hrt
 have hVl:=rises_len hV r1
 have hLl:=rises_len hL (by omega)
 have hPl:=hP.len
 have hWl:=hW.len
 have hAl:=atF_len (fun k=>(hP.bd k).1) (P:=(pieG n E V L))
 have hOw:OwOk (ownF E (pieG n E V L) (walksF n E V L T).1 (walksF n E V L T).1.length) (pieG n E V L).length:=⟨fun x v hx=>own_ok hp0 hP hW (Nat.le_refl _) x v hx,Nat.le_trans (own_len _) (by omega)⟩
 refine go (pr:=(inR n/\inLL T/\szLL T/\(walksF n E V L T).2=0)/\(([]:List Int)=[])) [] h ⟨⟨hn,hin,hsz,hw0⟩,rfl⟩ fun _ _ h=>?_
 refine go_loop (Int×(List (Int×Int))×List Int×List Int×Int) (fun x_=>(fun(i:Int) (M:List (Int×Int)) (K:List Int) (U:List Int) (c:Int)=>⟨[(5,ep 0),(8,em 1),(10,ep 2),(38,en ((pieG n E V L).length:Int)),(39,en i)],[(0,some (.box 29 [.own 3,.own 4])),(1,some (.mro .int .int (ownF E (pieG n E V L) (walksF n E V L T).1 (walksF n E V L T).1.length))),(2,some (.box 218 [.mp 5,.own 6,.own 7,.v (.int .i64 c)])),(3,some (.ar (.list .int) T)),(4,some (.ar (.list .int) S)),(5,some (.map .int .int M)),(6,some (.row 3 .int K)),(7,some (.row 3 .int U))],8⟩) x_.1 x_.2.1 x_.2.2.1 x_.2.2.2.1 x_.2.2.2.2) (fun x_=>(fun(i:Int) (M:List (Int×Int)) (K:List Int) (U:List Int) (c:Int)=>0<=i/\i<=((pieG n E V L).length:Int)/\addN i.toNat=(M,K,U,c)) x_.1 x_.2.1 x_.2.2.1 x_.2.2.2.1 x_.2.2.2.2) (fun x_=>(fun(i:Int) (M:List (Int×Int)) (K:List Int) (U:List Int) (c:Int)=>(((pieG n E V L).length:Int)-i).toNat) x_.1 x_.2.1 x_.2.2.1 x_.2.2.2.1 x_.2.2.2.2) (0,[],[],[],0) (rk [8197,65541,90117,3,4,90118,90119,90120]) h ⟨Int.le_refl _,Int.natCast_nonneg _,rfl⟩ fun x_ _ _ _ hK1 hI h=>?_
 obtain⟨i,M,K,U,c⟩:=x_
 obtain⟨i0,i1,i2⟩:=hI
 dsimp only at i0 i1 i2
 refine go0 [] h fun _ _ h=>?_
 refine go_if h (fun(q2:i<((pieG n E V L).length:Int))=>?_) (fun(q2:¬(i<((pieG n E V L).length:Int)))=>?_)
 .obtain⟨a1,a2,a3,_⟩:=addN_ok i.toNat
  rw[i2] at a1 a2 a3
  change K.length=i.toNat at a2
  have ab:=a1.bd
  change 0<=c/\c<=(K.length:Int) at ab
  have am:M.length<=K.length:=a1.rep.mlen
  have au:U.length=K.length:=a1.rep.len
  refine go (pr:=((-9223372036854775808<=i/\i<=9223372036854775807)/\M.length<=900000/\K.length<=900000/\U.length<=900000/\-900000<=c/\c<=900000)/\(InR .i64 (i+1))) [] h ⟨⟨⟨by omega,by omega⟩,by omega,by omega,by omega,by omega,by omega⟩,r64⟩ fun _ _ h=>?_
  exact lp_ (hK1 (i+1,putM M K i,putL M K i,putU M K U i,putG M c i) (rk [0,1,2,3,4,20489,20490,20491]) h ⟨by dsimp only;omega,by dsimp only;omega,by dsimp only;rw[addN_snoc i0,i2];rfl⟩ (by dsimp only;omega))
 have hie:i.toNat=(pieG n E V L).length:=by omega
 rw[hie] at i2
 refine go0 [] h fun _ _ h=>?_
 refine go_loop (Int×(List (Int×Int))×List Int×List Int×Int×(List (Int×Int))) (fun x_=>(fun(i:Int) (M:List (Int×Int)) (K:List Int) (U:List Int) (c:Int) (mt:List (Int×Int))=>⟨[(5,ep 0),(8,em 1),(10,ep 2),(12,em 3),(48,eo 4),(49,en (S.length:Int)),(50,en i)],[(0,some (.box 29 [.own 5,.own 4])),(1,some (.mro .int .int (ownF E (pieG n E V L) (walksF n E V L T).1 (walksF n E V L T).1.length))),(2,some (.box 218 [.mp 6,.own 7,.own 8,.v (.int .i64 c)])),(3,some (.map .int .int mt)),(4,some (.ar (.list .int) S)),(5,some (.ar (.list .int) T)),(6,some (.map .int .int M)),(7,some (.row 3 .int K)),(8,some (.row 3 .int U))],9⟩) x_.1 x_.2.1 x_.2.2.1 x_.2.2.2.1 x_.2.2.2.2.1 x_.2.2.2.2.2) (fun x_=>(fun(i:Int) (M:List (Int×Int)) (K:List Int) (U:List Int) (c:Int) (mt:List (Int×Int))=>0<=i/\i<=(S.length:Int)/\runS (ownF E (pieG n E V L) (walksF n E V L T).1 (walksF n E V L T).1.length) S (pieG n E V L).length i.toNat=some ((M,K,U,c),mt)/\RtI (ownF E (pieG n E V L) (walksF n E V L T).1 (walksF n E V L T).1.length) (pieG n E V L).length ((M,K,U,c),mt)) x_.1 x_.2.1 x_.2.2.1 x_.2.2.2.1 x_.2.2.2.2.1 x_.2.2.2.2.2) (fun x_=>(fun(i:Int) (M:List (Int×Int)) (K:List Int) (U:List Int) (c:Int) (mt:List (Int×Int))=>((S.length:Int)-i).toNat) x_.1 x_.2.1 x_.2.2.1 x_.2.2.2.1 x_.2.2.2.2.1 x_.2.2.2.2.2) (0,M,K,U,c,[]) (rk [0,1,2,4104,4,3,5,6,7]) h ⟨Int.le_refl _,Int.natCast_nonneg _,by show some (addN (pieG n E V L).length,[])=_;rw[i2],by rw[<-i2];exact RtI.start⟩ fun x_ _ _ _ hK2 hI h=>?_
 obtain⟨i,M,K,U,c,mt⟩:=x_
 obtain⟨j0,j1,j2,j3⟩:=hI
 dsimp only at j0 j1 j2 j3
 refine go0 [] h fun _ _ h=>?_
 refine go_if h (fun(q3:i<(S.length:Int))=>?_) (fun(q3:¬(i<(S.length:Int)))=>?_)
 .have hm:(S.getD i.toNat [])∈S:=getD_mem' (by omega)
  have hs2:=hszS.2 _ hm
  have hrl:=runS_len j2
  have hpl:0<i->2<=(S.getD (i-1).toNat []).length:=fun h=>hrl _ (by omega)
  by_cases z1:((S.getD i.toNat []).length:Int)<2
  .refine go (pr:=(Bnd i S.length)/\(((S.getD i.toNat []).length:Int)<2)) [(58,true)] h ⟨bx,z1⟩ fun _ _ h=>?_
   exact out (((7:Int):Int),()) h (by rw[planR_none hf0 (runS_bad j0 (by omega) j2 (lstS_head j0 (.inl z1)))])
  by_cases z2:(0:Int)<i
  .have hpl2:=hpl z2
   refine go (pr:=(Bnd i S.length)/\(¬(((S.getD i.toNat []).length:Int)<2))/\((0:Int)<i)/\(Bnd (0:Int) (S.getD i.toNat []).length)/\(InR .i64 (i-1))/\(Bnd (i-1) S.length)/\(Bnd (0:Int) (S.getD (i-1).toNat []).length)) [(58,false),(61,true)] h ⟨bx,z1,z2,bx,r64,bx,bx⟩ fun _ _ h=>?_
   refine go_if h (fun(q4:((S.getD i.toNat []).getD 0 0)<=((S.getD (i-1).toNat []).getD 0 0))=>?_) (fun(q4:¬(((S.getD i.toNat []).getD 0 0)<=((S.getD (i-1).toNat []).getD 0 0)))=>?_)
   .refine go0 [] h fun _ _ h=>?_
    exact out (((7:Int):Int),()) h (by rw[planR_none hf0 (runS_bad j0 (by omega) j2 (lstS_head j0 (.inr ⟨z2,q4⟩)))])
   have hhd:¬(((S.getD i.toNat []).length:Int)<2)/\(¬(0<i)\/¬((S.getD i.toNat []).getD 0 0<=(S.getD (i-1).toNat []).getD 0 0)):=⟨z1,.inr q4⟩
   refine go0 [] h fun _ _ h=>?_
   refine go_loop (Int×(List (Int×Int))×List Int×List Int×Int×(List (Int×Int))) (fun x_=>(fun(k:Int) (M2:List (Int×Int)) (K2:List Int) (U2:List Int) (c2:Int) (mt2:List (Int×Int))=>⟨[(5,ep 0),(8,em 1),(10,ep 2),(12,em 3),(13,en i),(14,eo 4),(48,eo 5),(49,en (S.length:Int)),(50,en i),(76,eo 4),(77,en ((S.getD i.toNat []).length:Int)),(78,en k)],[(0,some (.box 29 [.own 6,.own 5])),(1,some (.mro .int .int (ownF E (pieG n E V L) (walksF n E V L T).1 (walksF n E V L T).1.length))),(2,some (.box 218 [.mp 7,.own 8,.own 9,.v (.int .i64 c2)])),(3,some (.map .int .int mt2)),(4,some (.ar .int (S.getD i.toNat []))),(5,some (.ar (.list .int) S)),(6,some (.ar (.list .int) T)),(7,some (.map .int .int M2)),(8,some (.row 3 .int K2)),(9,some (.row 3 .int U2))],10⟩) x_.1 x_.2.1 x_.2.2.1 x_.2.2.2.1 x_.2.2.2.2.1 x_.2.2.2.2.2) (fun x_=>(fun(k:Int) (M2:List (Int×Int)) (K2:List Int) (U2:List Int) (c2:Int) (mt2:List (Int×Int))=>0<=k/\k<=((S.getD i.toNat []).length:Int)/\runK (ownF E (pieG n E V L) (walksF n E V L T).1 (walksF n E V L T).1.length) (S.getD i.toNat []) i ((M,K,U,c),mt) k.toNat=some ((M2,K2,U2,c2),mt2)/\RtI (ownF E (pieG n E V L) (walksF n E V L T).1 (walksF n E V L T).1.length) (pieG n E V L).length ((M2,K2,U2,c2),mt2)) x_.1 x_.2.1 x_.2.2.1 x_.2.2.2.1 x_.2.2.2.2.1 x_.2.2.2.2.2) (fun x_=>(fun(k:Int) (M2:List (Int×Int)) (K2:List Int) (U2:List Int) (c2:Int) (mt2:List (Int×Int))=>(((S.getD i.toNat []).length:Int)-k).toNat) x_.1 x_.2.1 x_.2.2.1 x_.2.2.2.1 x_.2.2.2.2.1 x_.2.2.2.2.2) (0,M,K,U,c,mt) (rk [0,1,2,3,12297,4,5,6,7,8]) h ⟨Int.le_refl _,Int.natCast_nonneg _,rfl,j3⟩ fun x_ _ _ _ hK3 hI h=>?_
   obtain⟨k,M2,K2,U2,c2,mt2⟩:=x_
   obtain⟨k0,k1,k2,k3⟩:=hI
   dsimp only at k0 k1 k2 k3
   refine go0 [] h fun _ _ h=>?_
   refine go_if h (fun(q5:k<((S.getD i.toNat []).length:Int))=>?_) (fun(q5:¬(k<((S.getD i.toNat []).length:Int)))=>?_)
   .have hkr:=hinS _ hm _ (getD_mem' (l:=(S.getD i.toNat [])) (i:=k.toNat) (d:=0) (by omega))
    have hml:=k3.mlen hOw
    change mt2.length<=100000 at hml
    have hfr:0<k.toNat->(lkI (ownF E (pieG n E V L) (walksF n E V L T).1 (walksF n E V L T).1.length) ((S.getD i.toNat []).getD 0 0)).isSome=true:=fun h=>runK_first h k2
    have hrep:RepS M2 K2 U2:=k3.ok.rep
    have hkl:K2.length=(pieG n E V L).length:=k3.len
    have hcb:0<=c2/\c2<=(K2.length:Int):=k3.ok.bd
    have hkr0:=hinS _ hm _ (getD_mem' (l:=(S.getD i.toNat [])) (i:=0) (d:=0) (by omega))
    refine go (pr:=(Bnd k (S.getD i.toNat []).length)/\(kwf .int ((S.getD i.toNat []).getD k.toNat 0))/\(kwf .int ((S.getD i.toNat []).getD k.toNat 0))/\(((((lkI (ownF E (pieG n E V L) (walksF n E V L T).1 (walksF n E V L T).1.length) ((S.getD i.toNat []).getD k.toNat 0)).isSome)=true)/\(((lkI mt2 ((S.getD i.toNat []).getD k.toNat 0)).isSome)=false))->((0:Int)<k)->(InR .i64 (k-1)))/\(((((lkI (ownF E (pieG n E V L) (walksF n E V L T).1 (walksF n E V L T).1.length) ((S.getD i.toNat []).getD k.toNat 0)).isSome)=true)/\(((lkI mt2 ((S.getD i.toNat []).getD k.toNat 0)).isSome)=false))->((0:Int)<k)->(Bnd (k-1) (S.getD i.toNat []).length))) [] h ⟨bx,wk,wk,fun _ _=>r64,fun _ _=>bx⟩ fun _ _ h=>?_
    refine go_if h (fun(q6:((((lkI (ownF E (pieG n E V L) (walksF n E V L T).1 (walksF n E V L T).1.length) ((S.getD i.toNat []).getD k.toNat 0)).isSome)=false)\/(((lkI mt2 ((S.getD i.toNat []).getD k.toNat 0)).isSome)=true))\/(((0:Int)<k)/\(((S.getD i.toNat []).getD k.toNat 0)<=((S.getD i.toNat []).getD (k-1).toNat 0))))=>?_) (fun(q6:((((lkI (ownF E (pieG n E V L) (walksF n E V L T).1 (walksF n E V L T).1.length) ((S.getD i.toNat []).getD k.toNat 0)).isSome)=true)/\(((lkI mt2 ((S.getD i.toNat []).getD k.toNat 0)).isSome)=false))/\((¬((0:Int)<k))\/(¬(((S.getD i.toNat []).getD k.toNat 0)<=((S.getD i.toNat []).getD (k-1).toNat 0)))))=>?_)
    .refine go0 [] h fun _ _ h=>?_
     exact out (((7:Int):Int),()) h (by rw[planR_none hf0 (runS_bad j0 (by omega) j2 (by rw[lstS_go j0 hhd];exact runK_none (k:=(k+1).toNat) (by rw[runK_step k0 k2];exact keyS_bad (z:=((M2,K2,U2,c2),mt2)) k0 q6) (by omega)))])
    have hq5:=q6
    have hks0:=keyS_good (i:=i) (z:=((M2,K2,U2,c2),mt2)) k0 hq5
    have hks:=(runK_step k0 k2).trans hks0
    by_cases z1:(0:Int)<k
    .obtain⟨v0,v1⟩:=hOw.at_ (hfr (by omega))
     obtain⟨v2,v3⟩:=hOw.at_ hq5.1.1
     refine go (pr:=(kwf .int ((S.getD i.toNat []).getD k.toNat 0))/\(mt2.length<=2147483647)/\((0:Int)<k)/\(Bnd (0:Int) (S.getD i.toNat []).length)/\(kwf .int ((S.getD i.toNat []).getD 0 0))/\((-9223372036854775808<=((lkI (ownF E (pieG n E V L) (walksF n E V L T).1 (walksF n E V L T).1.length) ((S.getD i.toNat []).getD 0 0)).getD 0)/\((lkI (ownF E (pieG n E V L) (walksF n E V L T).1 (walksF n E V L T).1.length) ((S.getD i.toNat []).getD 0 0)).getD 0)<=9223372036854775807)/\(-9223372036854775808<=((lkI (ownF E (pieG n E V L) (walksF n E V L T).1 (walksF n E V L T).1.length) ((S.getD i.toNat []).getD k.toNat 0)).getD 0)/\((lkI (ownF E (pieG n E V L) (walksF n E V L T).1 (walksF n E V L T).1.length) ((S.getD i.toNat []).getD k.toNat 0)).getD 0)<=9223372036854775807)/\RepS M2 K2 U2/\K2.length<=900000/\-900000<=c2/\c2<=900000)) [(118,true)] h ⟨wk,ln,z1,bx,wk,⟨⟨by omega,by omega⟩,⟨by omega,by omega⟩,hrep,by omega,by omega,by omega⟩⟩ fun _ _ h=>?_
     refine go_if h (fun(q7:(jnB M2 K2 U2 ((lkI (ownF E (pieG n E V L) (walksF n E V L T).1 (walksF n E V L T).1.length) ((S.getD i.toNat []).getD 0 0)).getD 0) ((lkI (ownF E (pieG n E V L) (walksF n E V L T).1 (walksF n E V L T).1.length) ((S.getD i.toNat []).getD k.toNat 0)).getD 0))=false)=>?_) (fun(q7:(jnB M2 K2 U2 ((lkI (ownF E (pieG n E V L) (walksF n E V L T).1 (walksF n E V L T).1.length) ((S.getD i.toNat []).getD 0 0)).getD 0) ((lkI (ownF E (pieG n E V L) (walksF n E V L T).1 (walksF n E V L T).1.length) ((S.getD i.toNat []).getD k.toNat 0)).getD 0))=true)=>?_)
     .refine go0 [] h fun _ _ h=>?_
      exact out (((7:Int):Int),()) h (by rw[planR_none hf0 (runS_bad j0 (by omega) j2 (by rw[lstS_go j0 hhd];exact runK_none (k:=(k+1).toNat) (by rw[hks,if_neg (by omega)];exact if_neg (by show ¬jnB M2 K2 U2 _ _=true;rw[q7];decide)) (by omega)))])
     refine go (pr:=(InR .i64 (k+1))) [] h r64 fun _ _ h=>?_
     have h3:RtI (ownF E (pieG n E V L) (walksF n E V L T).1 (walksF n E V L T).1.length) (pieG n E V L).length ((jnM M2 K2 ((lkI (ownF E (pieG n E V L) (walksF n E V L T).1 (walksF n E V L T).1.length) ((S.getD i.toNat []).getD 0 0)).getD 0) ((lkI (ownF E (pieG n E V L) (walksF n E V L T).1 (walksF n E V L T).1.length) ((S.getD i.toNat []).getD k.toNat 0)).getD 0),jnL M2 K2 ((lkI (ownF E (pieG n E V L) (walksF n E V L T).1 (walksF n E V L T).1.length) ((S.getD i.toNat []).getD 0 0)).getD 0) ((lkI (ownF E (pieG n E V L) (walksF n E V L T).1 (walksF n E V L T).1.length) ((S.getD i.toNat []).getD k.toNat 0)).getD 0),jnU M2 K2 U2 ((lkI (ownF E (pieG n E V L) (walksF n E V L T).1 (walksF n E V L T).1.length) ((S.getD i.toNat []).getD 0 0)).getD 0) ((lkI (ownF E (pieG n E V L) (walksF n E V L T).1 (walksF n E V L T).1.length) ((S.getD i.toNat []).getD k.toNat 0)).getD 0),jnG M2 K2 U2 c2 ((lkI (ownF E (pieG n E V L) (walksF n E V L T).1 (walksF n E V L T).1.length) ((S.getD i.toNat []).getD 0 0)).getD 0) ((lkI (ownF E (pieG n E V L) (walksF n E V L T).1 (walksF n E V L T).1.length) ((S.getD i.toNat []).getD k.toNat 0)).getD 0)),(ptI mt2 ((S.getD i.toNat []).getD k.toNat 0) i)):=keyS_ok (i:=i) (k:=k.toNat) hOw hfr k3 (by rw[hks0,if_neg (by omega)];exact if_pos q7)
     exact lp_ (hK3 (k+1,jnM M2 K2 ((lkI (ownF E (pieG n E V L) (walksF n E V L T).1 (walksF n E V L T).1.length) ((S.getD i.toNat []).getD 0 0)).getD 0) ((lkI (ownF E (pieG n E V L) (walksF n E V L T).1 (walksF n E V L T).1.length) ((S.getD i.toNat []).getD k.toNat 0)).getD 0),jnL M2 K2 ((lkI (ownF E (pieG n E V L) (walksF n E V L T).1 (walksF n E V L T).1.length) ((S.getD i.toNat []).getD 0 0)).getD 0) ((lkI (ownF E (pieG n E V L) (walksF n E V L T).1 (walksF n E V L T).1.length) ((S.getD i.toNat []).getD k.toNat 0)).getD 0),jnU M2 K2 U2 ((lkI (ownF E (pieG n E V L) (walksF n E V L T).1 (walksF n E V L T).1.length) ((S.getD i.toNat []).getD 0 0)).getD 0) ((lkI (ownF E (pieG n E V L) (walksF n E V L T).1 (walksF n E V L T).1.length) ((S.getD i.toNat []).getD k.toNat 0)).getD 0),jnG M2 K2 U2 c2 ((lkI (ownF E (pieG n E V L) (walksF n E V L T).1 (walksF n E V L T).1.length) ((S.getD i.toNat []).getD 0 0)).getD 0) ((lkI (ownF E (pieG n E V L) (walksF n E V L T).1 (walksF n E V L T).1.length) ((S.getD i.toNat []).getD k.toNat 0)).getD 0),(ptI mt2 ((S.getD i.toNat []).getD k.toNat 0) i)) (rk [0,1,2,3,4,5,6,221195,221196,221197]) h ⟨by dsimp only;omega,by dsimp only;omega,by dsimp only;rw[hks,if_neg (by omega)];exact if_pos q7,h3⟩ (by dsimp only;omega))
    refine go (pr:=(kwf .int ((S.getD i.toNat []).getD k.toNat 0))/\(mt2.length<=2147483647)/\(¬((0:Int)<k))/\(InR .i64 (k+1))) [(118,false)] h ⟨wk,ln,z1,r64⟩ fun _ _ h=>?_
    have h3:RtI (ownF E (pieG n E V L) (walksF n E V L T).1 (walksF n E V L T).1.length) (pieG n E V L).length ((M2,K2,U2,c2),(ptI mt2 ((S.getD i.toNat []).getD k.toNat 0) i)):=keyS_ok (i:=i) (k:=k.toNat) hOw hfr k3 (by rw[hks0,if_pos (by omega)])
    exact lp_ (hK3 (k+1,M2,K2,U2,c2,(ptI mt2 ((S.getD i.toNat []).getD k.toNat 0) i)) (ir 10) h ⟨by dsimp only;omega,by dsimp only;omega,by dsimp only;rw[hks,if_pos (by omega)],h3⟩ (by dsimp only;omega))
   have hke:k.toNat=(S.getD i.toNat []).length:=by omega
   rw[hke] at k2
   refine go (pr:=(InR .i64 (i+1))) [] h r64 fun _ _ h=>?_
   exact lp_ (hK2 (i+1,M2,K2,U2,c2,mt2) (rk [0,1,2,3,5,6,7,8,9]) h ⟨by dsimp only;omega,by dsimp only;omega,by dsimp only;rw[runS_step j0 j2,lstS_go j0 hhd];exact k2,k3⟩ (by dsimp only;omega))
  have hhd:¬(((S.getD i.toNat []).length:Int)<2)/\(¬(0<i)\/¬((S.getD i.toNat []).getD 0 0<=(S.getD (i-1).toNat []).getD 0 0)):=⟨z1,.inl z2⟩
  refine go (pr:=(Bnd i S.length)/\(¬(((S.getD i.toNat []).length:Int)<2))/\(¬((0:Int)<i))) [(58,false),(61,false)] h ⟨bx,z1,z2⟩ fun _ _ h=>?_
  refine go_loop (Int×(List (Int×Int))×List Int×List Int×Int×(List (Int×Int))) (fun x_=>(fun(k:Int) (M2:List (Int×Int)) (K2:List Int) (U2:List Int) (c2:Int) (mt2:List (Int×Int))=>⟨[(5,ep 0),(8,em 1),(10,ep 2),(12,em 3),(13,en i),(14,eo 4),(48,eo 5),(49,en (S.length:Int)),(50,en i),(76,eo 4),(77,en ((S.getD i.toNat []).length:Int)),(78,en k)],[(0,some (.box 29 [.own 6,.own 5])),(1,some (.mro .int .int (ownF E (pieG n E V L) (walksF n E V L T).1 (walksF n E V L T).1.length))),(2,some (.box 218 [.mp 7,.own 8,.own 9,.v (.int .i64 c2)])),(3,some (.map .int .int mt2)),(4,some (.ar .int (S.getD i.toNat []))),(5,some (.ar (.list .int) S)),(6,some (.ar (.list .int) T)),(7,some (.map .int .int M2)),(8,some (.row 3 .int K2)),(9,some (.row 3 .int U2))],10⟩) x_.1 x_.2.1 x_.2.2.1 x_.2.2.2.1 x_.2.2.2.2.1 x_.2.2.2.2.2) (fun x_=>(fun(k:Int) (M2:List (Int×Int)) (K2:List Int) (U2:List Int) (c2:Int) (mt2:List (Int×Int))=>0<=k/\k<=((S.getD i.toNat []).length:Int)/\runK (ownF E (pieG n E V L) (walksF n E V L T).1 (walksF n E V L T).1.length) (S.getD i.toNat []) i ((M,K,U,c),mt) k.toNat=some ((M2,K2,U2,c2),mt2)/\RtI (ownF E (pieG n E V L) (walksF n E V L T).1 (walksF n E V L T).1.length) (pieG n E V L).length ((M2,K2,U2,c2),mt2)) x_.1 x_.2.1 x_.2.2.1 x_.2.2.2.1 x_.2.2.2.2.1 x_.2.2.2.2.2) (fun x_=>(fun(k:Int) (M2:List (Int×Int)) (K2:List Int) (U2:List Int) (c2:Int) (mt2:List (Int×Int))=>(((S.getD i.toNat []).length:Int)-k).toNat) x_.1 x_.2.1 x_.2.2.1 x_.2.2.2.1 x_.2.2.2.2.1 x_.2.2.2.2.2) (0,M,K,U,c,mt) (rk [0,1,2,3,12297,4,5,6,7,8]) h ⟨Int.le_refl _,Int.natCast_nonneg _,rfl,j3⟩ fun x_ _ _ _ hK4 hI h=>?_
  obtain⟨k,M2,K2,U2,c2,mt2⟩:=x_
  obtain⟨k0,k1,k2,k3⟩:=hI
  dsimp only at k0 k1 k2 k3
  refine go0 [] h fun _ _ h=>?_
  refine go_if h (fun(q8:k<((S.getD i.toNat []).length:Int))=>?_) (fun(q8:¬(k<((S.getD i.toNat []).length:Int)))=>?_)
  .have hkr:=hinS _ hm _ (getD_mem' (l:=(S.getD i.toNat [])) (i:=k.toNat) (d:=0) (by omega))
   have hml:=k3.mlen hOw
   change mt2.length<=100000 at hml
   have hfr:0<k.toNat->(lkI (ownF E (pieG n E V L) (walksF n E V L T).1 (walksF n E V L T).1.length) ((S.getD i.toNat []).getD 0 0)).isSome=true:=fun h=>runK_first h k2
   have hrep:RepS M2 K2 U2:=k3.ok.rep
   have hkl:K2.length=(pieG n E V L).length:=k3.len
   have hcb:0<=c2/\c2<=(K2.length:Int):=k3.ok.bd
   have hkr0:=hinS _ hm _ (getD_mem' (l:=(S.getD i.toNat [])) (i:=0) (d:=0) (by omega))
   refine go (pr:=(Bnd k (S.getD i.toNat []).length)/\(kwf .int ((S.getD i.toNat []).getD k.toNat 0))/\(kwf .int ((S.getD i.toNat []).getD k.toNat 0))/\(((((lkI (ownF E (pieG n E V L) (walksF n E V L T).1 (walksF n E V L T).1.length) ((S.getD i.toNat []).getD k.toNat 0)).isSome)=true)/\(((lkI mt2 ((S.getD i.toNat []).getD k.toNat 0)).isSome)=false))->((0:Int)<k)->(InR .i64 (k-1)))/\(((((lkI (ownF E (pieG n E V L) (walksF n E V L T).1 (walksF n E V L T).1.length) ((S.getD i.toNat []).getD k.toNat 0)).isSome)=true)/\(((lkI mt2 ((S.getD i.toNat []).getD k.toNat 0)).isSome)=false))->((0:Int)<k)->(Bnd (k-1) (S.getD i.toNat []).length))) [] h ⟨bx,wk,wk,fun _ _=>r64,fun _ _=>bx⟩ fun _ _ h=>?_
   refine go_if h (fun(q9:((((lkI (ownF E (pieG n E V L) (walksF n E V L T).1 (walksF n E V L T).1.length) ((S.getD i.toNat []).getD k.toNat 0)).isSome)=false)\/(((lkI mt2 ((S.getD i.toNat []).getD k.toNat 0)).isSome)=true))\/(((0:Int)<k)/\(((S.getD i.toNat []).getD k.toNat 0)<=((S.getD i.toNat []).getD (k-1).toNat 0))))=>?_) (fun(q9:((((lkI (ownF E (pieG n E V L) (walksF n E V L T).1 (walksF n E V L T).1.length) ((S.getD i.toNat []).getD k.toNat 0)).isSome)=true)/\(((lkI mt2 ((S.getD i.toNat []).getD k.toNat 0)).isSome)=false))/\((¬((0:Int)<k))\/(¬(((S.getD i.toNat []).getD k.toNat 0)<=((S.getD i.toNat []).getD (k-1).toNat 0)))))=>?_)
   .refine go0 [] h fun _ _ h=>?_
    exact out (((7:Int):Int),()) h (by rw[planR_none hf0 (runS_bad j0 (by omega) j2 (by rw[lstS_go j0 hhd];exact runK_none (k:=(k+1).toNat) (by rw[runK_step k0 k2];exact keyS_bad (z:=((M2,K2,U2,c2),mt2)) k0 q9) (by omega)))])
   have hq5:=q9
   have hks0:=keyS_good (i:=i) (z:=((M2,K2,U2,c2),mt2)) k0 hq5
   have hks:=(runK_step k0 k2).trans hks0
   by_cases z2:(0:Int)<k
   .obtain⟨v0,v1⟩:=hOw.at_ (hfr (by omega))
    obtain⟨v2,v3⟩:=hOw.at_ hq5.1.1
    refine go (pr:=(kwf .int ((S.getD i.toNat []).getD k.toNat 0))/\(mt2.length<=2147483647)/\((0:Int)<k)/\(Bnd (0:Int) (S.getD i.toNat []).length)/\(kwf .int ((S.getD i.toNat []).getD 0 0))/\((-9223372036854775808<=((lkI (ownF E (pieG n E V L) (walksF n E V L T).1 (walksF n E V L T).1.length) ((S.getD i.toNat []).getD 0 0)).getD 0)/\((lkI (ownF E (pieG n E V L) (walksF n E V L T).1 (walksF n E V L T).1.length) ((S.getD i.toNat []).getD 0 0)).getD 0)<=9223372036854775807)/\(-9223372036854775808<=((lkI (ownF E (pieG n E V L) (walksF n E V L T).1 (walksF n E V L T).1.length) ((S.getD i.toNat []).getD k.toNat 0)).getD 0)/\((lkI (ownF E (pieG n E V L) (walksF n E V L T).1 (walksF n E V L T).1.length) ((S.getD i.toNat []).getD k.toNat 0)).getD 0)<=9223372036854775807)/\RepS M2 K2 U2/\K2.length<=900000/\-900000<=c2/\c2<=900000)) [(118,true)] h ⟨wk,ln,z2,bx,wk,⟨⟨by omega,by omega⟩,⟨by omega,by omega⟩,hrep,by omega,by omega,by omega⟩⟩ fun _ _ h=>?_
    refine go_if h (fun(q10:(jnB M2 K2 U2 ((lkI (ownF E (pieG n E V L) (walksF n E V L T).1 (walksF n E V L T).1.length) ((S.getD i.toNat []).getD 0 0)).getD 0) ((lkI (ownF E (pieG n E V L) (walksF n E V L T).1 (walksF n E V L T).1.length) ((S.getD i.toNat []).getD k.toNat 0)).getD 0))=false)=>?_) (fun(q10:(jnB M2 K2 U2 ((lkI (ownF E (pieG n E V L) (walksF n E V L T).1 (walksF n E V L T).1.length) ((S.getD i.toNat []).getD 0 0)).getD 0) ((lkI (ownF E (pieG n E V L) (walksF n E V L T).1 (walksF n E V L T).1.length) ((S.getD i.toNat []).getD k.toNat 0)).getD 0))=true)=>?_)
    .refine go0 [] h fun _ _ h=>?_
     exact out (((7:Int):Int),()) h (by rw[planR_none hf0 (runS_bad j0 (by omega) j2 (by rw[lstS_go j0 hhd];exact runK_none (k:=(k+1).toNat) (by rw[hks,if_neg (by omega)];exact if_neg (by show ¬jnB M2 K2 U2 _ _=true;rw[q10];decide)) (by omega)))])
    refine go (pr:=(InR .i64 (k+1))) [] h r64 fun _ _ h=>?_
    have h3:RtI (ownF E (pieG n E V L) (walksF n E V L T).1 (walksF n E V L T).1.length) (pieG n E V L).length ((jnM M2 K2 ((lkI (ownF E (pieG n E V L) (walksF n E V L T).1 (walksF n E V L T).1.length) ((S.getD i.toNat []).getD 0 0)).getD 0) ((lkI (ownF E (pieG n E V L) (walksF n E V L T).1 (walksF n E V L T).1.length) ((S.getD i.toNat []).getD k.toNat 0)).getD 0),jnL M2 K2 ((lkI (ownF E (pieG n E V L) (walksF n E V L T).1 (walksF n E V L T).1.length) ((S.getD i.toNat []).getD 0 0)).getD 0) ((lkI (ownF E (pieG n E V L) (walksF n E V L T).1 (walksF n E V L T).1.length) ((S.getD i.toNat []).getD k.toNat 0)).getD 0),jnU M2 K2 U2 ((lkI (ownF E (pieG n E V L) (walksF n E V L T).1 (walksF n E V L T).1.length) ((S.getD i.toNat []).getD 0 0)).getD 0) ((lkI (ownF E (pieG n E V L) (walksF n E V L T).1 (walksF n E V L T).1.length) ((S.getD i.toNat []).getD k.toNat 0)).getD 0),jnG M2 K2 U2 c2 ((lkI (ownF E (pieG n E V L) (walksF n E V L T).1 (walksF n E V L T).1.length) ((S.getD i.toNat []).getD 0 0)).getD 0) ((lkI (ownF E (pieG n E V L) (walksF n E V L T).1 (walksF n E V L T).1.length) ((S.getD i.toNat []).getD k.toNat 0)).getD 0)),(ptI mt2 ((S.getD i.toNat []).getD k.toNat 0) i)):=keyS_ok (i:=i) (k:=k.toNat) hOw hfr k3 (by rw[hks0,if_neg (by omega)];exact if_pos q10)
    exact lp_ (hK4 (k+1,jnM M2 K2 ((lkI (ownF E (pieG n E V L) (walksF n E V L T).1 (walksF n E V L T).1.length) ((S.getD i.toNat []).getD 0 0)).getD 0) ((lkI (ownF E (pieG n E V L) (walksF n E V L T).1 (walksF n E V L T).1.length) ((S.getD i.toNat []).getD k.toNat 0)).getD 0),jnL M2 K2 ((lkI (ownF E (pieG n E V L) (walksF n E V L T).1 (walksF n E V L T).1.length) ((S.getD i.toNat []).getD 0 0)).getD 0) ((lkI (ownF E (pieG n E V L) (walksF n E V L T).1 (walksF n E V L T).1.length) ((S.getD i.toNat []).getD k.toNat 0)).getD 0),jnU M2 K2 U2 ((lkI (ownF E (pieG n E V L) (walksF n E V L T).1 (walksF n E V L T).1.length) ((S.getD i.toNat []).getD 0 0)).getD 0) ((lkI (ownF E (pieG n E V L) (walksF n E V L T).1 (walksF n E V L T).1.length) ((S.getD i.toNat []).getD k.toNat 0)).getD 0),jnG M2 K2 U2 c2 ((lkI (ownF E (pieG n E V L) (walksF n E V L T).1 (walksF n E V L T).1.length) ((S.getD i.toNat []).getD 0 0)).getD 0) ((lkI (ownF E (pieG n E V L) (walksF n E V L T).1 (walksF n E V L T).1.length) ((S.getD i.toNat []).getD k.toNat 0)).getD 0),(ptI mt2 ((S.getD i.toNat []).getD k.toNat 0) i)) (rk [0,1,2,3,4,5,6,221195,221196,221197]) h ⟨by dsimp only;omega,by dsimp only;omega,by dsimp only;rw[hks,if_neg (by omega)];exact if_pos q10,h3⟩ (by dsimp only;omega))
   refine go (pr:=(kwf .int ((S.getD i.toNat []).getD k.toNat 0))/\(mt2.length<=2147483647)/\(¬((0:Int)<k))/\(InR .i64 (k+1))) [(118,false)] h ⟨wk,ln,z2,r64⟩ fun _ _ h=>?_
   have h3:RtI (ownF E (pieG n E V L) (walksF n E V L T).1 (walksF n E V L T).1.length) (pieG n E V L).length ((M2,K2,U2,c2),(ptI mt2 ((S.getD i.toNat []).getD k.toNat 0) i)):=keyS_ok (i:=i) (k:=k.toNat) hOw hfr k3 (by rw[hks0,if_pos (by omega)])
   exact lp_ (hK4 (k+1,M2,K2,U2,c2,(ptI mt2 ((S.getD i.toNat []).getD k.toNat 0) i)) (ir 10) h ⟨by dsimp only;omega,by dsimp only;omega,by dsimp only;rw[hks,if_pos (by omega)],h3⟩ (by dsimp only;omega))
  have hke:k.toNat=(S.getD i.toNat []).length:=by omega
  rw[hke] at k2
  refine go (pr:=(InR .i64 (i+1))) [] h r64 fun _ _ h=>?_
  exact lp_ (hK2 (i+1,M2,K2,U2,c2,mt2) (rk [0,1,2,3,5,6,7,8,9]) h ⟨by dsimp only;omega,by dsimp only;omega,by dsimp only;rw[runS_step j0 j2,lstS_go j0 hhd];exact k2,k3⟩ (by dsimp only;omega))
 have hie2:i.toNat=S.length:=by omega
 rw[hie2] at j2
 refine go (pr:=True) [] h tv fun _ _ h=>?_
 refine go_if h (fun(q11:(1:Int)<c)=>?_) (fun(q11:¬((1:Int)<c))=>?_)
 .refine go0 [] h fun _ _ h=>?_
  exact out (((7:Int):Int),()) h (by rw[planR_some hf0 j2];exact congrArg (·,()) (if_pos q11).symm)
 refine go0 [] h fun _ _ h=>?_
 exact out (((0:Int):Int),()) h (by rw[planR_some hf0 j2];exact congrArg (·,()) (if_neg q11).symm)
def C_pright:Con Tryz.prog:=plain pright_c
theorem hright_c:ConOk Tryz.prog 42 [(false,(.pair grT (.pair ptT (.pair (.list (.list .int)) (.list (.list .int))))))] [.int] (fun x=>inR (I_ x.1.1.1)/\inLL (K_ x.1.2.2.1)/\szLL (K_ x.1.2.2.1)/\inLL (K_ x.1.2.2.2)/\szLL (K_ x.1.2.2.2)) (fun x=>(holdR (I_ x.1.1.1) (E_ x.1.1.2) (J_ x.1.2.1.1) (J_ x.1.2.1.2) (K_ x.1.2.2.1) (K_ x.1.2.2.2),())):=by
 refine con_of Tryz.f42 19 [C_pright,C_rpart] Tryz.func42 fun o x hd _ _ h=>?_
 obtain⟨⟨⟨(n:Int),(E:List (Int×Int))⟩,⟨⟨(V:List Int),(L:List Int)⟩,⟨(T:List (List Int)),(S:List (List Int))⟩⟩⟩,_⟩:=x
 have hl0:=lnE h 0 E
 have hl1:=lnI h 1 V
 have hl2:=lnI h 2 L
 have hl3:=lnL h 3 T
 have hl4:=lnL h 4 S
 change inR n/\inLL T/\szLL T/\inLL S/\szLL S at hd
 obtain⟨hn,hin,hsz,hinS,hszS⟩:=hd
 refine go (pr:=(inR n)) [] h hn fun _ _ h=>?_
 refine go_if h (fun(q1:¬(partE n E V L=0))=>?_) (fun(q1:partE n E V L=0)=>?_)
 .refine go0 [] h fun _ _ h=>?_
  exact out ((partE n E V L:Int),()) h (by unfold holdR;rw[if_pos q1])
 refine go (pr:=(inR n/\inLL T/\szLL T/\inLL S/\szLL S)) [] h (⟨hn,hin,hsz,hinS,hszS⟩) fun _ _ h=>?_
 exact out ((planR n E V L T S:Int),()) h (by unfold holdR;rw[if_neg (by rw[show partE n E V L=0 from q1];exact fun q=>q rfl)])
def C_hright:Con Tryz.prog:=plain hright_c
theorem con_mono {P:Program}{f:FuncId}{ags:List (Bool×Ty)}{rs:List Ty}{dom dom':ArgV ags->Prop}{fx fx':ArgV ags->Vals rs}(ok:ConOk P f ags rs dom fx)(h:∀x,dom' x->dom x/\fx x=fx' x):ConOk P f ags rs dom' fx':=fun o vs x hx hd=>by
 have:=ok o vs x hx (h x hd).1
 rw[(h x hd).2] at this
 exact this
theorem sz_nil:szLL []:=⟨by decide,fun l hl=>by cases hl⟩
theorem sz_one:szLL [[]]:=⟨by decide,fun l hl=>by have:=List.mem_singleton.1 hl;subst this;decide⟩
theorem in_nil:inLL []:=fun l hl=>by cases hl
theorem in_one:inLL [[]]:=fun l hl=>by have:=List.mem_singleton.1 hl;subst this;intro x hx;cases hx
abbrev lnT:Ty:=.pair .str (.pair .int edT)
abbrev fileT:Ty:=.pair .int (.pair (.list .str) (.pair (.list lnT) (.pair ptT (.pair (.list (.list .int)) (.list (.list .int))))))
abbrev caseT:Ty:=.pair grT (.pair ptT (.pair (.list (.list .int)) (.list (.list .int))))
abbrev fA:El fileT:=((0:Int),([aB],([],(([],[]),([[]],[])))))
abbrev cA:El caseT:=(((1:Int),[]),(([],[]),([[]],[])))
theorem caseA_c:ConOk Tryz.prog 20 [(false,fileT)] [caseT,.int] (fun x=>x.1=fA) (fun _=>(cA,(0:Int),())):=
 con_mono case_c fun⟨x,()⟩ hd=>by
  have hd:x=fA:=hd
  subst hd
  refine⟨⟨(show(0:Nat)<=1000000 by decide),(show(0:Nat)<=1000000 by decide),(show(0:Nat)<=1000000 by decide),sz_one,sz_nil⟩,?_⟩
  show((caseF 0 [aB] [] [] [] [[]] []).1,(caseF 0 [aB] [] [] [] [[]] []).2,())=_
  rw[case_a];rfl
def C_caseA:Con Tryz.prog:=plain caseA_c
theorem holdA_c:ConOk Tryz.prog 42 [(false,caseT)] [.int] (fun x=>x.1=cA) (fun _=>((0:Int),())):=
 con_mono hright_c fun⟨x,()⟩ hd=>by
  have hd:x=cA:=hd
  subst hd
  refine⟨⟨(show inR 1 by decide),in_one,sz_one,in_nil,sz_nil⟩,?_⟩
  show(holdR 1 [] [] [] [[]] [],())=_
  rw[hold_a];rfl
def C_holdA:Con Tryz.prog:=plain holdA_c
theorem walksA_c:ConOk Tryz.prog 68 [(false,grT),(false,ptT),(false,(.list (.list .int)))] [(.list (.pair .int (.list .int))),.int] (fun x=>x.1=((1:Int),[])/\x.2.1=([],[])/\x.2.2.1=[[]]) (fun _=>(([]:List (Int×List Int)),(0:Int),())):=
 con_mono walks_c fun⟨x,y,z,()⟩ ⟨h1,h2,h3⟩=>by
  have h1:x=((1:Int),[]):=h1
  have h2:y=(([]:List Int),([]:List Int)):=h2
  have h3:z=[([]:List Int)]:=h3
  subst h1 h2 h3
  refine⟨⟨(show inR 1 by decide),in_one,sz_one⟩,?_⟩
  show((walksF 1 [] [] [] [[]]).1,(walksF 1 [] [] [] [[]]).2,())=_
  rw[walks_a];rfl
def C_walksA:Con Tryz.prog:=plain walksA_c
theorem quiet_parse (cv:Array Value)(hcv:cv.size=3):Quiet1 Tryz.prog {target:=.fn (.func 32) cv,args:= #[]}:=fun w=>by
 have ef:Tryz.prog.funcs[32]?=some Tryz.f32:=Tryz.func32
 obtain⟨x,y,z,rfl⟩:∃x y z,cv= #[x,y,z]:=by
  obtain⟨l⟩:=cv
  match l,hcv with
  |[x,y,z],_=>exact⟨x,y,z,rfl⟩
 refine⟨_,_,32,#[x,y,z],rfl,by simp[go_sem,invoke],?_⟩
 refine callsDIn_of_wpSIn ef rfl tv fun c₀ cs hu=>?_
 apply wpSIn_seq
 apply wpSIn_region
 simp[wpOpsSIn,go_sem,recoverD,hu,Tryz.ntmps32,Exit.thenS]
 apply wpSIn_seq
 apply wpSIn_region
 simp[wpOpsSIn,go_sem,Exit.thenS]
 refine wpSIn_cond (t:=false) (by simp[Act.eval,Array.replicate]) ?_
 refine wpSIn_of_wpIn rfl (wpIn_skip ?_)
 simp[bodyPostS,results,Tryz.results32]
 obtain⟨_,_,_,_,_,_,_⟩:=c₀
 cases hu;rfl
def lookR (q:Nat):List (Nat×Option R2)->Option (Option R2)
 |[]=>none
 |p::l=>match Nat.beq p.1 q with
  |true=>some p.2
  |false=>lookR q l
def dropR (q:Nat)(l:List (Nat×Option R2)):List (Nat×Option R2):=l.filter fun p=>!Nat.beq p.1 q
def thinL (b:Nat):List Nat->Out->Tr Out
 |[],out=>.ret out
 |q::qs,out=>.res q fun z=>match lookR q out.re,Nat.blt q b with
  |some (some z'),true=>thinL b qs ⟨out.cs++[z'=z],out.hs,out.sy,dropR q out.re⟩
  |_,_=>.fail
def cellN:Sc->List Nat
 | .mp q=>[q]
 | .own q=>[q]
 |_=>[]
def thinT (tr:Nat->List (Nat×Nat)->List Sy->Tr Out)(ks:List Nat)(b:Nat)(caps:List (Nat×Nat))(ys:List Sy):Tr Out:=match ys with
 | .one (.ptr j 0)::_=>.res j fun z=>match z with
  | .box _ cs=>(tr b caps ys).bind (thinL b (j::ks.flatMap fun k=>match cs[k]? with|some c=>cellN c|none=>[]))
  |_=>.fail
 |_=>.fail
section
variable {P:Program}{o:OrgG}{n:Nat}{A A':Asg}{S S':Stab}{F G:Nat->Prop}{s:Nat->Option E2}{r:Nat->Option R2}{a:Act}{w w':World}
theorem lookR_set {q:Nat}{x:Option R2}:∀ {l:List (Nat×Option R2)},lookR q l=some x->setM r l q=x/\∃x,(q,x)∈l
 |[],h=>by cases h
 |p::l,h=>by
  unfold lookR at h
  show updR (setM r l) p.1 p.2 q=x/\_
  split at h
  .rename_i e
   have:=beq_t e
   subst this
   cases h
   exact⟨updR_same _ _ _,_,List.mem_cons_self⟩
  rename_i e
  obtain⟨h1,y,h2⟩:=lookR_set h
  exact⟨by rw[updR_ne (beq_f e)];exact h1,y,List.mem_cons_of_mem _ h2⟩
theorem dropR_set {q:Nat}:∀(l:List (Nat×Option R2)) (j:Nat),setM r (dropR q l) j=if j=q then r q else setM r l j
 |[],j=>by
  show r j=_
  split
  .rename_i e;rw[e]
  rfl
 |p::l,j=>by
  have ih:=dropR_set (q:=q) l
  unfold dropR at ih ⊢
  rw[List.filter_cons]
  show _=if j=q then r q else updR (setM r l) p.1 p.2 j
  by_cases e:p.1=q
  .have:Nat.beq p.1 q=true:=by rw[e];exact Nat.beq_refl _
   rw[this]
   show setM r (l.filter _) j=_
   rw[ih]
   by_cases z:j=q
   .rw[if_pos z,if_pos z]
   rw[if_neg z,if_neg z,updR_ne (by omega)]
  have:Nat.beq p.1 q=false:=by
   cases hb:Nat.beq p.1 q with
   |false=>rfl
   |true=>exact absurd (beq_t hb) e
  rw[this]
  show updR (setM r (l.filter _)) p.1 p.2 j=_
  by_cases z:p.1=j
  .rw[<-z,updR_same,if_neg e,updR_same]
  rw[updR_ne z,ih]
  by_cases y:j=q
  .rw[if_pos y,if_pos y]
  rw[if_neg y,if_neg y,updR_ne z]
theorem thinL_ok (H:OkF o n A S F s r a w){b B:Nat}(hF:∀j,b<=j->j<B->¬F j):∀ {qs:List Nat} {out0 out:Out},(thinL b qs out0).run s r=some out->(∀p∈out.cs,p)->(∀p∈out.re,p.1<B\/p.1<b)->
  (∀p∈out0.cs,p)/\out0.hs=out.hs/\(∀p∈out0.re,p.1<B\/p.1<b)/\out0.sy=out.sy/\setM r out0.re=setM r out.re/\∀j,FU F out0.re j↔FU F out.re j
 |[],out0,out,h,hc,hB=>by
  have:=ret_run h
  subst this
  exact⟨hc,rfl,hB,rfl,rfl,fun _=>Iff.rfl⟩
 |q::qs,out0,out,h,hc,hB=>by
  obtain⟨z,hz,h⟩:=res_run h
  split at h
  .rename_i z' hl hb
   obtain⟨h1,h2,h3,h4,h5,h6⟩:=thinL_ok H hF h hc hB
   have e:z'=z:=h1 _ (List.mem_append_right _ (List.mem_singleton.2 rfl))
   obtain⟨k1,x,k2⟩:=lookR_set (r:=r) hl
   have hFq:F q:=(H.rall q z hz).1
   have hlt:q<b:=by simpa[Nat.blt_eq] using hb
   refine⟨fun p hp=>h1 p (List.mem_append_left _ hp),h2,fun p hp=>?_,h4,?_,fun j=>?_⟩
   .by_cases y:p.1=q
    .exact .inr (by omega)
    refine h3 p (List.mem_filter.2 ⟨hp,?_⟩)
    cases hb:Nat.beq p.1 q with
    |false=>rfl
    |true=>exact absurd (beq_t hb) y
   .rw[<-h5]
    funext j
    show setM r out0.re j=setM r (dropR q out0.re) j
    rw[dropR_set]
    split
    .rename_i y;rw[y,k1,e,hz]
    rfl
   rw[<-h6]
   constructor
   .rintro(y|⟨x,y⟩)
    .exact .inl y
    by_cases z:j=q
    .exact .inl (z▸hFq)
    refine .inr ⟨x,List.mem_filter.2 ⟨y,?_⟩⟩
    cases hb:Nat.beq j q with
    |false=>rfl
    |true=>exact absurd (beq_t hb) z
   rintro(y|⟨x,y⟩)
   .exact .inl y
   exact .inr ⟨x,(List.mem_filter.1 y).1⟩
  cases h
theorem thin_ok {f:FuncId}{tr:Nat->List (Nat×Nat)->List Sy->Tr Out}(ok:ConTr P f tr)(ks:List Nat):ConTr P f (thinT tr ks):=by
 intro o n A S F s r a w b B caps ys out H hF hys hcaps h hcs hhs hB
 unfold thinT at h
 split at h
 .rename_i j ys'
  obtain⟨z,hz,h⟩:=res_run h
  split at h
  .obtain⟨out0,h0,h1⟩:=Tr.bind_run h
   obtain⟨k1,k2,k3,k4,k5,k6⟩:=thinL_ok H hF h1 hcs fun p hp=>.inl (hB p hp)
   refine(ok o n A S F s r a w b (max B b) caps _ out0 H (fun j h1 h2=>hF j h1 (by omega)) hys hcaps h0 k1 (by rw[k2];exact hhs) fun p hp=>by have:=k3 p hp;omega).mono ?_
   rintro e w' ⟨v,he,A',S',g1,g2,g3,g4⟩
   have hFU:FU F out0.re=FU F out.re:=funext fun j=>propext (k6 j)
   rw[hFU,k5] at g1
   rw[k4] at g2 g3 g4
   rw[hFU] at g3
   exact⟨v,he,A',S',g1,g2,g3,g4⟩
  cases h
 cases h
def thin (c:Con P)(ks:List Nat):Con P:=⟨c.f,thinT c.tr ks,thin_ok c.ok ks⟩
end
abbrev MS_more:MSh:=⟨[.box 107 [.own 1,.int,.int,.int],.rd (.pair .int .str)],[.ptr 0 0],[.box 107 [.own 1,.int,.int,.int],.rd (.pair .int .str)],[.bool],2,false,[]⟩
theorem more_m:ConMOk Tryz.prog 58 MS_more (fun _=>True) (fun x=>((((),(I_ x.1.1.2.1),(I_ x.1.1.2.2.1),(I_ x.1.1.2.2.2.1),()),(show List (Int×ByteArray) from x.1.2.1),()),(decide ((I_ x.1.1.2.2.2.1)<((show List (Int×ByteArray) from x.1.2.1).length:Int)),()))):=by
 refine conM_of Tryz.f58 13 [] MS_more Tryz.func58 fun o A x hd _ _ h=>?_
 obtain⟨⟨⟨_,(wa:Int),(wz:Int),(wn:Int),_⟩,(ws:List (Int×ByteArray)),_⟩,⟨_,_⟩⟩:=x
 have hl1:(ws.length:Int)<=9223372036854775807:=lenAt h 1 (t:=(.pair .int .str)) (l:=ws)
 refine go0 [] h fun _ _ h=>?_
 exact outM ((((),wa,wz,wn,()),ws,()),(decide (wn<(ws.length:Int)),())) (ir 2) h rfl
def C_more:Con Tryz.prog:=memc more_m
abbrev MS_word:MSh:=⟨[.box 107 [.own 1,.int,.int,.int],.rd (.pair .int .str)],[.ptr 0 0],[.box 107 [.own 1,.int,.int,.int],.rd (.pair .int .str)],[.str,.int],2,false,[]⟩
theorem word_m:ConMOk Tryz.prog 59 MS_word (fun x=>(0<=(I_ x.1.1.2.2.2.1)/\(I_ x.1.1.2.2.2.1)<((show List (Int×ByteArray) from x.1.2.1).length:Int)/\(I_ x.1.1.2.2.2.1)<=1000000)/\-9223372036854775808<=(I_ x.1.1.2.1)+((show List (Int×ByteArray) from x.1.2.1).getD (I_ x.1.1.2.2.2.1).toNat (0,⟨#[]⟩)).1/\(I_ x.1.1.2.1)+((show List (Int×ByteArray) from x.1.2.1).getD (I_ x.1.1.2.2.2.1).toNat (0,⟨#[]⟩)).1<=9223372036854775807) (fun x=>((((),(I_ x.1.1.2.1),(I_ x.1.1.2.2.1),(I_ x.1.1.2.2.2.1)+1,()),(show List (Int×ByteArray) from x.1.2.1),()),(((show List (Int×ByteArray) from x.1.2.1).getD (I_ x.1.1.2.2.2.1).toNat (0,⟨#[]⟩)).2,(I_ x.1.1.2.1)+((show List (Int×ByteArray) from x.1.2.1).getD (I_ x.1.1.2.2.2.1).toNat (0,⟨#[]⟩)).1,()))):=by
 refine conM_of Tryz.f59 45 [C_more] MS_word Tryz.func59 fun o A x hd _ _ h=>?_
 obtain⟨⟨⟨_,(wa:Int),(wz:Int),(wn:Int),_⟩,(ws:List (Int×ByteArray)),_⟩,⟨_,_⟩⟩:=x
 have hl1:(ws.length:Int)<=9223372036854775807:=lenAt h 1 (t:=(.pair .int .str)) (l:=ws)
 change (0<=wn/\wn<(ws.length:Int)/\wn<=1000000)/\-9223372036854775808<=wa+(ws.getD wn.toNat (0,⟨#[]⟩)).1/\wa+(ws.getD wn.toNat (0,⟨#[]⟩)).1<=9223372036854775807 at hd
 obtain⟨⟨n0,n1,n2⟩,n3,n4⟩:=hd
 refine go (pr:=True) [] h tv fun _ _ h=>?_
 refine go_if h (fun(q1:(decide (wn<(ws.length:Int)))=false)=>?_) (fun(q1:(decide (wn<(ws.length:Int)))=true)=>?_)
 .exact absurd n1 (of_decide_eq_false q1)
 refine go (pr:=(Bnd wn ws.length)/\(InR .i64 (wn+1))/\(InR .i64 (wa+((ws.getD wn.toNat (0,⟨#[]⟩)).1)))) [] h ⟨bx,r64,r64⟩ fun _ _ h=>?_
 exact outM ((((),wa,wz,wn+1,()),ws,()),((ws.getD wn.toNat (0,⟨#[]⟩)).2,wa+((ws.getD wn.toNat (0,⟨#[]⟩)).1),())) (ir 2) h rfl
def C_word:Con Tryz.prog:=memc word_m
abbrev MS_vert:MSh:=⟨[.box 98 [.int,.own 3,.own 4,.own 5,.own 6,.own 7,.own 8,.bool,.int,.mp 9,.mp 10,.mp 11,.mp 12,.own 13],.box 107 [.own 2,.int,.int,.int],.rd (.pair .int .str),.row 9 .str,.row 84 (.pair .str (.pair .int edT)),.row 3 .int,.row 3 .int,.row 24 (.list .int),.row 24 (.list .int),.map .str .int,.map .int .unit,.map .int .unit,.map .int (.list .int),.row 24 (.list .int)],[.ptr 0 0,.ptr 1 0],[.box 98 [.int,.own 3,.own 4,.own 5,.own 6,.own 7,.own 8,.bool,.int,.mp 9,.mp 10,.mp 11,.mp 12,.own 13],.box 107 [.own 2,.int,.int,.int],.rd (.pair .int .str),.row 9 .str,.row 84 (.pair .str (.pair .int edT)),.row 3 .int,.row 3 .int,.row 24 (.list .int),.row 24 (.list .int),.map .str .int,.map .int .unit,.map .int .unit,.map .int (.list .int),.row 24 (.list .int)],[],3,false,[]⟩
theorem vert_m:ConMOk Tryz.prog 61 MS_vert (fun x=>((0<=(I_ x.1.2.1.2.2.2.1)/\(I_ x.1.2.1.2.2.2.1)<((show List (Int×ByteArray) from x.1.2.2.1).length:Int)/\(I_ x.1.2.1.2.2.2.1)<=1000000)/\-9223372036854775808<=(I_ x.1.2.1.2.1)+((show List (Int×ByteArray) from x.1.2.2.1).getD (I_ x.1.2.1.2.2.2.1).toNat (0,⟨#[]⟩)).1/\(I_ x.1.2.1.2.1)+((show List (Int×ByteArray) from x.1.2.2.1).getD (I_ x.1.2.1.2.2.2.1).toNat (0,⟨#[]⟩)).1<=9223372036854775807)/\nameB ((show List (Int×ByteArray) from x.1.2.2.1).getD (I_ x.1.2.1.2.2.2.1).toNat (0,⟨#[]⟩)).2=true/\(lookK (k:=.str) (show MapD .str Int from x.1.2.2.2.2.2.2.2.2.2.1) ((show List (Int×ByteArray) from x.1.2.2.1).getD (I_ x.1.2.1.2.2.2.1).toNat (0,⟨#[]⟩)).2).isSome=false/\((show List (Int×ByteArray) from x.1.2.2.1).getD (I_ x.1.2.1.2.2.2.1).toNat (0,⟨#[]⟩)).2.size<=1000000/\(show MapD .str Int from x.1.2.2.2.2.2.2.2.2.2.1).length<=1000000/\(show List ByteArray from x.1.2.2.2.1).length<=1000000) (fun x=>((((I_ x.1.1.1),(),(),(),(),(),(),(show Bool from x.1.1.2.2.2.2.2.2.2.1),(I_ x.1.1.2.2.2.2.2.2.2.2.1),(),(),(),(),(),()),((),(I_ x.1.2.1.2.1),(I_ x.1.2.1.2.2.1),(I_ x.1.2.1.2.2.2.1)+1,()),(show List (Int×ByteArray) from x.1.2.2.1),(show List ByteArray from x.1.2.2.2.1)++[((show List (Int×ByteArray) from x.1.2.2.1).getD (I_ x.1.2.1.2.2.2.1).toNat (0,⟨#[]⟩)).2],(show List (ByteArray×Int×Int×Int) from x.1.2.2.2.2.1),(J_ x.1.2.2.2.2.2.1),(J_ x.1.2.2.2.2.2.2.1),(K_ x.1.2.2.2.2.2.2.2.1),(K_ x.1.2.2.2.2.2.2.2.2.1),putK (k:=.str) (show MapD .str Int from x.1.2.2.2.2.2.2.2.2.2.1) ((show List (Int×ByteArray) from x.1.2.2.1).getD (I_ x.1.2.1.2.2.2.1).toNat (0,⟨#[]⟩)).2 (-1-((show List ByteArray from x.1.2.2.2.1).length:Int)),(show MapD .int Unit from x.1.2.2.2.2.2.2.2.2.2.2.1),(show MapD .int Unit from x.1.2.2.2.2.2.2.2.2.2.2.2.1),(show MapD .int (List Int) from x.1.2.2.2.2.2.2.2.2.2.2.2.2.1),(K_ x.1.2.2.2.2.2.2.2.2.2.2.2.2.2.1),()),(()))):=by
 refine conM_of Tryz.f61 32 [inl [C_name,C_word] [(16,false),(28,false)] Tryz.func84] MS_vert Tryz.func61 fun o A x hd _ _ h=>?_
 obtain⟨⟨⟨(xk:Int),_,_,_,_,_,_,(xb:Bool),(xt:Int),_,_,_,_,_,_⟩,⟨_,(wa:Int),(wz:Int),(wn:Int),_⟩,(ws:List (Int×ByteArray)),(vv:List ByteArray),(ee:List (ByteArray×Int×Int×Int)),(hv:List Int),(he:List Int),(tt:List (List Int)),(ss:List (List Int)),(nm:MapD .str Int),(ha:MapD .int Unit),(hb:MapD .int Unit),(tu:MapD .int (List Int)),(xr:List (List Int)),_⟩,⟨_,_,_⟩⟩:=x
 have hl2:(ws.length:Int)<=9223372036854775807:=lenAt h 2 (t:=(.pair .int .str)) (l:=ws)
 have hl3:(vv.length:Int)<=9223372036854775807:=lenAt h 3 (t:=.str) (l:=vv)
 have hl4:(ee.length:Int)<=9223372036854775807:=lenAt h 4 (t:=(.pair .str (.pair .int edT))) (l:=ee)
 have hl5:=lnI h 5 hv
 have hl6:=lnI h 6 he
 have hl7:=lnL h 7 tt
 have hl8:=lnL h 8 ss
 have hl13:=lnL h 13 xr
 change ((0<=wn/\wn<(ws.length:Int)/\wn<=1000000)/\-9223372036854775808<=wa+(ws.getD wn.toNat (0,⟨#[]⟩)).1/\wa+(ws.getD wn.toNat (0,⟨#[]⟩)).1<=9223372036854775807)/\nameB (ws.getD wn.toNat (0,⟨#[]⟩)).2=true/\(lookK (k:=.str) nm (ws.getD wn.toNat (0,⟨#[]⟩)).2).isSome=false/\(ws.getD wn.toNat (0,⟨#[]⟩)).2.size<=1000000/\nm.length<=1000000/\vv.length<=1000000 at hd
 obtain⟨hwd,hnm,hlk,hxs,hnl,hvl⟩:=hd
 refine go (pr:=((0<=wn/\wn<(ws.length:Int)/\wn<=1000000)/\-9223372036854775808<=wa+(ws.getD wn.toNat (0,⟨#[]⟩)).1/\wa+(ws.getD wn.toNat (0,⟨#[]⟩)).1<=9223372036854775807)/\True/\((nameB ((ws.getD wn.toNat (0,⟨#[]⟩)).2))=true)/\(kwf .str ((ws.getD wn.toNat (0,⟨#[]⟩)).2))/\(((lookK nm ((ws.getD wn.toNat (0,⟨#[]⟩)).2)).isSome)=false)/\(InR .i64 ((-1)-(vv.length:Int)))/\(kwf .str ((ws.getD wn.toNat (0,⟨#[]⟩)).2))/\(nm.length<=2147483647)/\(vv.length+([(ws.getD wn.toNat (0,⟨#[]⟩)).2]:List ByteArray).length<=2147483647)) [] h ⟨hwd,tv,by rw[hnm],wks,hlk,r64,wks,ln,ln⟩ fun _ _ h=>?_
 exact outM (((xk,(),(),(),(),(),(),xb,xt,(),(),(),(),(),()),((),wa,wz,wn+1,()),ws,(vv++([(ws.getD wn.toNat (0,⟨#[]⟩)).2]:List ByteArray)),ee,hv,he,tt,ss,(putK nm ((ws.getD wn.toNat (0,⟨#[]⟩)).2) ((-1)-(vv.length:Int))),ha,hb,tu,xr,()),(())) (rk [0,1,2,102414,4,5,6,7,8,9,10,11,12,13]) h rfl
def C_vert:Con Tryz.prog:=memc vert_m
abbrev MS_srt0:MSh:=⟨[.row 24 (.list .int)],[.own 0,.int,.int,.clo 71 []],[.row 24 (.list .int)],[],1,false,[]⟩
theorem ins0_m:ConMOk Tryz.prog 132 MS_srt0 (fun x=>(I_ x.2.2.1)=0/\(I_ x.2.2.2.1)=0) (fun x=>(((K_ x.1.1),()),(()))):=by
 refine conM_of Tryz.f132 53 [] MS_srt0 Tryz.func132 fun o A x hd _ _ h=>?_
 obtain⟨⟨(xr:List (List Int)),_⟩,⟨_,(x:Int),(y:Int),_,_⟩⟩:=x
 have hl0:=lnL h 0 xr
 change x=0/\y=0 at hd
 obtain⟨rfl,rfl⟩:=hd
 refine go (pr:=(InR .i64 (0+1))) [] h r64 fun _ _ h=>?_
 refine go_loop (Int) (fun i=>⟨[(0,eo 0),(1,en 0),(2,en 0),(3,some ⟨[],.one (.clo 71 [])⟩),(8,en i)],[(0,some (.row 24 (.list .int) xr))],1⟩) (fun i=>i=1/\True) (fun i=>0) (1) (ir 1) h ⟨rfl,tv⟩ fun i _ _ _ hK1 hI h=>?_
 obtain⟨i0,_⟩:=hI
 refine go0 [] h fun _ _ h=>?_
 refine go_if h (fun(q1:i<0)=>?_) (fun(q1:¬(i<0))=>?_)
 .exact absurd q1 (by rw[i0];decide)
 refine go0 [] h fun _ _ h=>?_
 exact outM ((xr,()),(())) (ir 1) h rfl
def C_ins0:Con Tryz.prog:=memc ins0_m
abbrev MS_srt1:MSh:=⟨[.row 24 (.list .int)],[.own 0,.int,.clo 71 []],[.row 24 (.list .int)],[],1,false,[]⟩
theorem stb0_m:ConMOk Tryz.prog 94 MS_srt1 (fun x=>(I_ x.2.2.1)=0) (fun x=>(((K_ x.1.1),()),(()))):=by
 refine conM_of Tryz.f94 63 [C_ins0] MS_srt1 Tryz.func94 fun o A x hd _ _ h=>?_
 obtain⟨⟨(xr:List (List Int)),_⟩,⟨_,(x:Int),_,_⟩⟩:=x
 have hl0:=lnL h 0 xr
 change x=0 at hd
 subst hd
 refine go0 [] h fun _ _ h=>?_
 refine go_loop (Int) (fun i=>⟨[(0,eo 0),(1,en 0),(2,some ⟨[],.one (.clo 71 [])⟩),(6,en 20),(7,en 0),(8,en i)],[(0,some (.row 24 (.list .int) xr))],1⟩) (fun i=>i=20/\True) (fun i=>0) (20) (ir 1) h ⟨rfl,tv⟩ fun i _ _ _ hK1 hI h=>?_
 obtain⟨i0,_⟩:=hI
 refine go0 [] h fun _ _ h=>?_
 refine go_if h (fun(q1:i<=0)=>?_) (fun(q1:¬(i<=0))=>?_)
 .exact absurd q1 (by rw[i0];decide)
 refine go (pr:=((0:Int)=0/\(0:Int)=0)) [] h (⟨rfl,rfl⟩) fun _ _ h=>?_
 refine go_loop (Int) (fun k=>⟨[(0,eo 0),(1,en 0),(2,some ⟨[],.one (.clo 71 [])⟩),(6,en k)],[(0,some (.row 24 (.list .int) xr))],1⟩) (fun k=>k=20/\True) (fun k=>0) (20) (ir 1) h ⟨rfl,tv⟩ fun k _ _ _ hK2 hI h=>?_
 obtain⟨k0,_⟩:=hI
 refine go0 [] h fun _ _ h=>?_
 refine go_if h (fun(q2:k<0)=>?_) (fun(q2:¬(k<0))=>?_)
 .exact absurd q2 (by rw[k0];decide)
 refine go0 [] h fun _ _ h=>?_
 exact outM ((xr,()),(())) (ir 1) h rfl
def C_stb0:Con Tryz.prog:=memc stb0_m
abbrev MS_pl0:MSh:=⟨[.box 82 [.nilp,.nils],.rd .str],[.ptr 0 0,.own 1],[.box 82 [.ptr 0 0,.own 2],.rd .str,.byt 5],[],2,false,[]⟩
theorem pl0_m:ConMOk Tryz.prog 28 MS_pl0 (fun x=>(show List ByteArray from x.1.2.1).length<=1000000/\(joinB (show List ByteArray from x.1.2.1) ⟨#[32]⟩).size<=1000000/\(joinB (show List ByteArray from x.1.2.1) ⟨#[32]⟩).size+1<=1000000) (fun x=>((((),(),()),(show List ByteArray from x.1.2.1),joinB (show List ByteArray from x.1.2.1) ⟨#[32]⟩++⟨#[10]⟩,()),(()))):=by
 refine conM_of Tryz.f28 14 [C_sjoin,C_ws] MS_pl0 Tryz.func28 fun o A x hd _ _ h=>?_
 obtain⟨⟨⟨_,_,_⟩,(ws:List ByteArray),_⟩,⟨_,_,_⟩⟩:=x
 have hl1:(ws.length:Int)<=9223372036854775807:=lenAt h 1 (t:=.str) (l:=ws)
 change ws.length<=1000000/\(joinB ws ⟨#[32]⟩).size<=1000000/\(joinB ws ⟨#[32]⟩).size+1<=1000000 at hd
 obtain⟨hl,hj,hs⟩:=hd
 have hz:(joinB ws ⟨#[32]⟩++(⟨#[10]⟩:ByteArray)).size=(joinB ws ⟨#[32]⟩).size+1:=ByteArray.size_append
 have hz1:(⟨#[10]⟩:ByteArray).size=1:=rfl
 refine go (pr:=(ws.length<=1000000/\(joinB ws (⟨#[32]⟩:ByteArray)).size<=1000000)/\((joinB ws (⟨#[32]⟩:ByteArray)).size<=1000000)/\((joinB ws (⟨#[32]⟩:ByteArray)).size+(⟨#[10]⟩:ByteArray).size<=1000000)) [] h ⟨⟨by omega,by omega⟩,by omega,by omega⟩ fun _ _ h=>?_
 exact outM ((((),(),()),ws,((joinB ws (⟨#[32]⟩:ByteArray))++(⟨#[10]⟩:ByteArray)),()),(())) (rk [0,1,36866]) h rfl
def C_pl0:Con Tryz.prog:=memc pl0_m
abbrev MS_pl:MSh:=⟨[.box 82 [.ptr 0 0,.own 2],.rd .str,.byt 5],[.ptr 0 0,.own 1],[.box 82 [.ptr 0 0,.own 2],.rd .str,.byt 5],[],2,false,[]⟩
theorem pl_m:ConMOk Tryz.prog 28 MS_pl (fun x=>(show List ByteArray from x.1.2.1).length<=1000000/\(joinB (show List ByteArray from x.1.2.1) ⟨#[32]⟩).size<=1000000/\(show ByteArray from x.1.2.2.1).size+(joinB (show List ByteArray from x.1.2.1) ⟨#[32]⟩).size+1<=1000000) (fun x=>((((),(),()),(show List ByteArray from x.1.2.1),(show ByteArray from x.1.2.2.1)++joinB (show List ByteArray from x.1.2.1) ⟨#[32]⟩++⟨#[10]⟩,()),(()))):=by
 refine conM_of Tryz.f28 14 [C_sjoin,C_ws] MS_pl Tryz.func28 fun o A x hd _ _ h=>?_
 obtain⟨⟨⟨_,_,_⟩,(ws:List ByteArray),(q:ByteArray),_⟩,⟨_,_,_⟩⟩:=x
 have hl1:(ws.length:Int)<=9223372036854775807:=lenAt h 1 (t:=.str) (l:=ws)
 change ws.length<=1000000/\(joinB ws ⟨#[32]⟩).size<=1000000/\q.size+(joinB ws ⟨#[32]⟩).size+1<=1000000 at hd
 obtain⟨hl,hj,hs⟩:=hd
 have hz:(q++joinB ws ⟨#[32]⟩).size=q.size+(joinB ws ⟨#[32]⟩).size:=ByteArray.size_append
 have hz1:(⟨#[10]⟩:ByteArray).size=1:=rfl
 refine go (pr:=(ws.length<=1000000/\(joinB ws (⟨#[32]⟩:ByteArray)).size<=1000000)/\(q.size+(joinB ws (⟨#[32]⟩:ByteArray)).size<=1000000)/\((q++(joinB ws (⟨#[32]⟩:ByteArray))).size+(⟨#[10]⟩:ByteArray).size<=1000000)) [] h ⟨⟨by omega,by omega⟩,by omega,by omega⟩ fun _ _ h=>?_
 exact outM ((((),(),()),ws,((q++(joinB ws (⟨#[32]⟩:ByteArray)))++(⟨#[10]⟩:ByteArray)),()),(())) (rk [0,1,36867]) h rfl
def C_pl:Con Tryz.prog:=memc pl_m
abbrev MS_held:MSh:=⟨[.box 82 [.ptr 0 0,.own 1],.byt 5,.rd .str,.rd (.pair .str (.pair .int edT)),.rd .int,.rd .int,.rd (.list .int),.rd (.list .int)],[.ptr 0 0,.int,.own 2,.own 3,.own 4,.own 5,.own 6,.own 7],[.box 82 [.ptr 0 0,.own 1],.byt 5],[],1,false,[none,some 7]⟩
theorem held_m:ConMOk Tryz.prog 29 MS_held (fun x=>(J_ x.1.2.2.2.2.1)=([]:List Int)/\(J_ x.1.2.2.2.2.2.1)=([]:List Int)/\(K_ x.1.2.2.2.2.2.2.2.1)=([]:List (List Int))) (fun x=>((((),(),()),(show ByteArray from x.1.2.1),()),(()))):=by
 refine conM_of Tryz.f29 125 [] MS_held Tryz.func29 fun o A x hd _ _ h=>?_
 obtain⟨⟨⟨_,_,_⟩,(q:ByteArray),(vv:List ByteArray),(ee:List (ByteArray×Int×Int×Int)),(hv:List Int),(he:List Int),(tt:List (List Int)),(ss:List (List Int)),_⟩,⟨_,(xk:Int),_,_,_,_,_,_,_⟩⟩:=x
 have hl2:(vv.length:Int)<=9223372036854775807:=lenAt h 2 (t:=.str) (l:=vv)
 have hl3:(ee.length:Int)<=9223372036854775807:=lenAt h 3 (t:=(.pair .str (.pair .int edT))) (l:=ee)
 have hl4:=lnI h 4 hv
 have hl5:=lnI h 5 he
 have hl6:=lnL h 6 tt
 have hl7:=lnL h 7 ss
 change hv=([]:List Int)/\he=([]:List Int)/\ss=([]:List (List Int)) at hd
 obtain⟨rfl,rfl,rfl⟩:=hd
 refine go0 [] h fun _ _ h=>?_
 refine go_loop (Int) (fun i=>⟨[(0,ep 0),(3,ep 1),(4,em 2),(20,eo 3),(21,en (([]:List Int).length:Int)),(22,en i)],[(0,some (.box 82 [.ptr 0 0,.own 4])),(1,some (.box 39 [.v (.int .i64 xk),.own 5,.own 6,.own 7,.own 3,.own 8,.own 9])),(2,some (.map .int .unit ([]:MapD .int Unit))),(3,some (.ar .int ([]:List Int))),(4,some (.ext (.byt 5 q))),(5,some (.ar .str vv)),(6,some (.ar (.pair .str (.pair .int edT)) ee)),(7,some (.ar .int ([]:List Int))),(8,some (.ar (.list .int) tt)),(9,some (.ar (.list .int) ([]:List (List Int))))],10⟩) (fun i=>i=0/\True) (fun i=>0) (0) (rk [0,8,4104,5,1,2,3,4,6,7]) h ⟨rfl,tv⟩ fun i _ _ _ hK1 hI h=>?_
 obtain⟨i0,_⟩:=hI
 refine go0 [] h fun _ _ h=>?_
 refine go_if h (fun(q1:i<(([]:List Int).length:Int))=>?_) (fun(q1:¬(i<(([]:List Int).length:Int)))=>?_)
 .exact absurd q1 (by rw[i0];decide)
 refine go0 [] h fun _ _ h=>?_
 refine go_loop (Int) (fun i=>⟨[(0,ep 0),(3,ep 1),(4,em 2),(54,eo 3),(55,en (([]:List Int).length:Int)),(56,en i)],[(0,some (.box 82 [.ptr 0 0,.own 4])),(1,some (.box 39 [.v (.int .i64 xk),.own 5,.own 6,.own 3,.own 7,.own 8,.own 9])),(2,some (.map .int .unit ([]:MapD .int Unit))),(3,some (.ar .int ([]:List Int))),(4,some (.ext (.byt 5 q))),(5,some (.ar .str vv)),(6,some (.ar (.pair .str (.pair .int edT)) ee)),(7,some (.ar .int ([]:List Int))),(8,some (.ar (.list .int) tt)),(9,some (.ar (.list .int) ([]:List (List Int))))],10⟩) (fun i=>i=0/\True) (fun i=>0) (0) (rk [0,1,2,7,4,5,6,3,8,9]) h ⟨rfl,tv⟩ fun i _ _ _ hK2 hI h=>?_
 obtain⟨i0,_⟩:=hI
 refine go0 [] h fun _ _ h=>?_
 refine go_if h (fun(q2:i<(([]:List Int).length:Int))=>?_) (fun(q2:¬(i<(([]:List Int).length:Int)))=>?_)
 .exact absurd q2 (by rw[i0];decide)
 refine go0 [] h fun _ _ h=>?_
 refine go_loop (Int) (fun i=>⟨[(0,ep 0),(3,ep 1),(4,em 2),(79,eo 3),(80,en (([]:List Int).length:Int)),(81,en i)],[(0,some (.box 82 [.ptr 0 0,.own 4])),(1,some (.box 39 [.v (.int .i64 xk),.own 5,.own 6,.own 3,.own 7,.own 8,.own 9])),(2,some (.map .int .unit ([]:MapD .int Unit))),(3,some (.ar .int ([]:List Int))),(4,some (.ext (.byt 5 q))),(5,some (.ar .str vv)),(6,some (.ar (.pair .str (.pair .int edT)) ee)),(7,some (.ar .int ([]:List Int))),(8,some (.ar (.list .int) tt)),(9,some (.ar (.list .int) ([]:List (List Int))))],10⟩) (fun i=>i=0/\True) (fun i=>0) (0) (ir 10) h ⟨rfl,tv⟩ fun i _ _ _ hK3 hI h=>?_
 obtain⟨i0,_⟩:=hI
 refine go0 [] h fun _ _ h=>?_
 refine go_if h (fun(q3:i<(([]:List Int).length:Int))=>?_) (fun(q3:¬(i<(([]:List Int).length:Int)))=>?_)
 .exact absurd q3 (by rw[i0];decide)
 refine go0 [] h fun _ _ h=>?_
 refine go_loop (Int) (fun i=>⟨[(0,ep 0),(3,ep 1),(112,eo 2),(113,en (([]:List (List Int)).length:Int)),(114,en i)],[(0,some (.box 82 [.ptr 0 0,.own 3])),(1,some (.box 39 [.v (.int .i64 xk),.own 4,.own 5,.own 6,.own 7,.own 8,.own 2])),(2,some (.ar (.list .int) ([]:List (List Int)))),(3,some (.ext (.byt 5 q))),(4,some (.ar .str vv)),(5,some (.ar (.pair .str (.pair .int edT)) ee)),(6,some (.ar .int ([]:List Int))),(7,some (.ar .int ([]:List Int))),(8,some (.ar (.list .int) tt))],9⟩) (fun i=>i=0/\True) (fun i=>0) (0) (rk [0,1,9,4,5,6,3,7,8]) h ⟨rfl,tv⟩ fun i _ _ _ hK4 hI h=>?_
 obtain⟨i0,_⟩:=hI
 refine go0 [] h fun _ _ h=>?_
 refine go_if h (fun(q4:i<(([]:List (List Int)).length:Int))=>?_) (fun(q4:¬(i<(([]:List (List Int)).length:Int)))=>?_)
 .exact absurd q4 (by rw[i0];decide)
 refine go0 [] h fun _ _ h=>?_
 exact outM ((((),(),()),q,()),(())) (rk [0,3]) h rfl
def C_held:Con Tryz.prog:=memc held_m
theorem rightA_c:ConOk Tryz.prog 15 [(false,(.pair .int (.pair (.list .str) (.pair (.list (.pair .str (.pair .int edT))) (.pair ptT (.pair (.list (.list .int)) (.list (.list .int))))))))] [.int] (fun x=>(I_ x.1.1)=0/\(show List ByteArray from x.1.2.1)=([aB]:List ByteArray)/\(show List (ByteArray×Int×Int×Int) from x.1.2.2.1)=([]:List (ByteArray×Int×Int×Int))/\(J_ x.1.2.2.2.1.1)=([]:List Int)/\(J_ x.1.2.2.2.1.2)=([]:List Int)/\(K_ x.1.2.2.2.2.1)=([[]]:List (List Int))/\(K_ x.1.2.2.2.2.2)=([]:List (List Int))) (fun x=>((0:Int),())):=by
 refine con_of Tryz.f15 80 [C_caseA,C_cls,C_holdA,C_name] Tryz.func15 fun o x hd _ _ h=>?_
 obtain⟨⟨(K:Int),⟨(W:List ByteArray),⟨(E:List (ByteArray×Int×Int×Int)),⟨⟨(V:List Int),(L:List Int)⟩,⟨(T:List (List Int)),(S:List (List Int))⟩⟩⟩⟩⟩,_⟩:=x
 have hl0:(W.length:Int)<=9223372036854775807:=lenAt h 0 (t:=.str) (l:=W)
 have hl1:(E.length:Int)<=9223372036854775807:=lenAt h 1 (t:=(.pair .str (.pair .int edT))) (l:=E)
 have hl2:=lnI h 2 V
 have hl3:=lnI h 3 L
 have hl4:=lnL h 4 T
 have hl5:=lnL h 5 S
 change K=0/\W=([aB]:List ByteArray)/\E=([]:List (ByteArray×Int×Int×Int))/\V=([]:List Int)/\L=([]:List Int)/\T=([[]]:List (List Int))/\S=([]:List (List Int)) at hd
 obtain⟨hK,hW,hE,hV,hL,hT,hS⟩:=hd
 subst hK hW hE hV hL hT hS
 refine go (pr:=((0:Int)=0)/\(([aB]:List ByteArray).length<=1000000)) [(16,false)] h ⟨dk,dk⟩ fun _ _ h=>?_
 refine go_loop (Int) (fun i=>⟨[(1,ep 0),(3,eo 1),(25,eo 2),(26,en (([]:List (ByteArray×Int×Int×Int)).length:Int)),(27,en i)],[(0,some (.box 39 [.v (.int .i64 0),.own 3,.own 2,.own 4,.own 5,.own 6,.own 7])),(1,some (.row 9 .str ([aB]:List ByteArray))),(2,some (.ar (.pair .str (.pair .int edT)) ([]:List (ByteArray×Int×Int×Int)))),(3,some (.ar .str ([aB]:List ByteArray))),(4,some (.ar .int ([]:List Int))),(5,some (.ar .int ([]:List Int))),(6,some (.ar (.list .int) ([[]]:List (List Int)))),(7,some (.ar (.list .int) ([]:List (List Int))))],8⟩) (fun i=>i=0/\True) (fun i=>0) (0) (rk [6,49158,1,0,2,3,4,5]) h ⟨rfl,tv⟩ fun i _ _ _ hK1 hI h=>?_
 obtain⟨i0,_⟩:=hI
 refine go0 [] h fun _ _ h=>?_
 refine go_if h (fun(q1:i<(([]:List (ByteArray×Int×Int×Int)).length:Int))=>?_) (fun(q1:¬(i<(([]:List (ByteArray×Int×Int×Int)).length:Int)))=>?_)
 .exact absurd q1 (by rw[i0];decide)
 refine go0 [] h fun _ _ h=>?_
 refine go_loop2 Int (List (ByteArray×Int)) (fun i me=>⟨[(1,ep 0),(3,eo 1),(6,em 2),(38,eo 1),(39,en (([aB]:List ByteArray).length:Int)),(40,en i)],[(0,some (.box 39 [.v (.int .i64 0),.own 3,.own 4,.own 5,.own 6,.own 7,.own 8])),(1,some (.row 9 .str ([aB]:List ByteArray))),(2,some (.map .str .int me)),(3,some (.ar .str ([aB]:List ByteArray))),(4,some (.ar (.pair .str (.pair .int edT)) ([]:List (ByteArray×Int×Int×Int)))),(5,some (.ar .int ([]:List Int))),(6,some (.ar .int ([]:List Int))),(7,some (.ar (.list .int) ([[]]:List (List Int)))),(8,some (.ar (.list .int) ([]:List (List Int))))],9⟩) (fun i me=>((i=0/\me=([]:List (ByteArray×Int)))\/(i=1/\me=([(aB,1)]:List (ByteArray×Int))))/\True) (fun i me=>(1-i).toNat) 0 ([]:List (ByteArray×Int)) (rk [0,1,4104,3,2,4,5,6,7]) h ⟨.inl ⟨rfl,rfl⟩,tv⟩ fun i me _ _ _ hK2 hI h=>?_
 obtain⟨hJ,_⟩:=hI
 refine go0 [] h fun _ _ h=>?_
 refine go_if h (fun(q2:i<(([aB]:List ByteArray).length:Int))=>?_) (fun(q2:¬(i<(([aB]:List ByteArray).length:Int)))=>?_)
 .obtain⟨rfl,rfl⟩:i=0/\me=([]:List (ByteArray×Int)):=by rcases hJ with hJ|⟨h0,_⟩;exact hJ;rw[h0] at q2;exact absurd q2 (by decide)
  refine go (pr:=(Bnd (0:Int) ([aB]:List ByteArray).length)/\True/\((nameB (([aB]:List ByteArray).getD (0:Int).toNat ⟨#[]⟩))=true)/\(kwf .str (([aB]:List ByteArray).getD (0:Int).toNat ⟨#[]⟩))/\(InR .i64 (((lookK (k:=.str) ([]:List (ByteArray×Int)) (([aB]:List ByteArray).getD (0:Int).toNat ⟨#[]⟩)).getD 0)+1))/\(kwf .str (([aB]:List ByteArray).getD (0:Int).toNat ⟨#[]⟩))/\(([]:List (ByteArray×Int)).length<=2147483647)/\(InR .i64 (0+1))) [(46,false)] h ⟨bk,tv,dk,sk,ik,sk,dk,ik⟩ fun _ _ h=>?_
  exact lp_ (hK2 1 ([(aB,1)]:List (ByteArray×Int)) (ir 9) h ⟨.inr ⟨rfl,rfl⟩,tv⟩ (by decide))
 obtain⟨rfl,rfl⟩:i=1/\me=([(aB,1)]:List (ByteArray×Int)):=by rcases hJ with⟨h0,_⟩|hJ;rw[h0] at q2;exact absurd (by decide) q2;exact hJ
 refine go (pr:=(¬((([(aB,1)]:List (ByteArray×Int)).length:Int)<(([aB]:List ByteArray).length:Int)))/\(¬((0:Int)=1))/\((((0:Int),(([aB]:List ByteArray),(([]:List (ByteArray×Int×Int×Int)),((([]:List Int),([]:List Int)),(([[]]:List (List Int)),([]:List (List Int))))))):Int×List ByteArray×List (ByteArray×Int×Int×Int)×(List Int×List Int)×List (List Int)×List (List Int))=(0,([aB],([],(([],[]),([[]],[]))))))/\((0:Int)=0)/\(((((1:Int),([]:List (Int×Int))),((([]:List Int),([]:List Int)),(([[]]:List (List Int)),([]:List (List Int))))):(Int×List (Int×Int))×(List Int×List Int)×List (List Int)×List (List Int))=(((1,[]),(([],[]),([[]],[])))))) [(56,false),(59,false),(76,false)] h ⟨dk,dk,rfl,dk,rfl⟩ fun _ _ h=>?_
 exact out (((0:Int):Int),()) h rfl
def C_rightA:Con Tryz.prog:=plain rightA_c
theorem printA_c:ConOk Tryz.prog 9 [(false,(.pair .int (.pair (.list .str) (.pair (.list (.pair .str (.pair .int edT))) (.pair ptT (.pair (.list (.list .int)) (.list (.list .int))))))))] [.str,.int] (fun x=>(I_ x.1.1)=0/\(show List ByteArray from x.1.2.1)=([aB]:List ByteArray)/\(show List (ByteArray×Int×Int×Int) from x.1.2.2.1)=([]:List (ByteArray×Int×Int×Int))/\(J_ x.1.2.2.2.1.1)=([]:List Int)/\(J_ x.1.2.2.2.1.2)=([]:List Int)/\(K_ x.1.2.2.2.2.1)=([[]]:List (List Int))/\(K_ x.1.2.2.2.2.2)=([]:List (List Int))) (fun x=>(txB,(0:Int),())):=by
 refine con_of Tryz.f9 86 [C_held,C_pl0,C_rightA,C_str,inl [] [] Tryz.func30] Tryz.func9 fun o x hd _ _ h=>?_
 obtain⟨⟨(K:Int),⟨(W:List ByteArray),⟨(E:List (ByteArray×Int×Int×Int)),⟨⟨(V:List Int),(L:List Int)⟩,⟨(T:List (List Int)),(S:List (List Int))⟩⟩⟩⟩⟩,_⟩:=x
 have hl0:(W.length:Int)<=9223372036854775807:=lenAt h 0 (t:=.str) (l:=W)
 have hl1:(E.length:Int)<=9223372036854775807:=lenAt h 1 (t:=(.pair .str (.pair .int edT))) (l:=E)
 have hl2:=lnI h 2 V
 have hl3:=lnI h 3 L
 have hl4:=lnL h 4 T
 have hl5:=lnL h 5 S
 change K=0/\W=([aB]:List ByteArray)/\E=([]:List (ByteArray×Int×Int×Int))/\V=([]:List Int)/\L=([]:List Int)/\T=([[]]:List (List Int))/\S=([]:List (List Int)) at hd
 obtain⟨hK,hW,hE,hV,hL,hT,hS⟩:=hd
 subst hK hW hE hV hL hT hS
 refine go (pr:=((0:Int)=0/\([aB]:List ByteArray)=([aB]:List ByteArray)/\([]:List (ByteArray×Int×Int×Int))=([]:List (ByteArray×Int×Int×Int))/\([]:List Int)=([]:List Int)/\([]:List Int)=([]:List Int)/\([[]]:List (List Int))=([[]]:List (List Int))/\([]:List (List Int))=([]:List (List Int)))/\((0:Int)=0)/\((0:Int)=0)/\(([⟨#[99,97,115,101]⟩]:List ByteArray).length<=1000000/\(joinB ([⟨#[99,97,115,101]⟩]:List ByteArray) ⟨#[32]⟩).size<=1000000/\(joinB ([⟨#[99,97,115,101]⟩]:List ByteArray) ⟨#[32]⟩).size+1<=1000000)) [(14,false),(20,true)] h ⟨⟨rfl,rfl,rfl,rfl,rfl,rfl,rfl⟩,dk,dk,dk⟩ fun _ _ h=>?_
 refine go_loop2 Int ByteArray (fun i qq=>⟨[(1,ep 0),(5,ep 1),(28,eo 2),(29,en (([aB]:List ByteArray).length:Int)),(30,en i)],[(0,some (.box 39 [.v (.int .i64 0),.own 2,.own 3,.own 4,.own 5,.own 6,.own 7])),(1,some (.box 82 [.ptr 1 0,.own 8])),(2,some (.ar .str ([aB]:List ByteArray))),(3,some (.ar (.pair .str (.pair .int edT)) ([]:List (ByteArray×Int×Int×Int)))),(4,some (.ar .int ([]:List Int))),(5,some (.ar .int ([]:List Int))),(6,some (.ar (.list .int) ([[]]:List (List Int)))),(7,some (.ar (.list .int) ([]:List (List Int)))),(8,some (.ext (.byt 5 qq)))],9⟩) (fun i qq=>((i=0/\qq=(⟨#[99,97,115,101,10]⟩:ByteArray))\/(i=1/\qq=txB))/\True) (fun i qq=>(1-i).toNat) 0 (⟨#[99,97,115,101,10]⟩:ByteArray) (rk [6,36870,0,1,2,3,4,5,65544]) h ⟨.inl ⟨rfl,rfl⟩,tv⟩ fun i qq _ _ _ hK1 hI h=>?_
 obtain⟨hJ,_⟩:=hI
 refine go0 [] h fun _ _ h=>?_
 refine go_if h (fun(q1:i<(([aB]:List ByteArray).length:Int))=>?_) (fun(q1:¬(i<(([aB]:List ByteArray).length:Int)))=>?_)
 .obtain⟨rfl,rfl⟩:i=0/\qq=(⟨#[99,97,115,101,10]⟩:ByteArray):=by rcases hJ with hJ|⟨h0,_⟩;exact hJ;rw[h0] at q1;exact absurd q1 (by decide)
  refine with_ [C_held,C_pl,C_rightA,C_str,inl [] [] Tryz.func30] ?_
  refine go (pr:=(Bnd (0:Int) ([aB]:List ByteArray).length)/\(([⟨#[118,101,114,116,101,120]⟩,(([aB]:List ByteArray).getD (0:Int).toNat ⟨#[]⟩)]:List ByteArray).length<=1000000/\(joinB ([⟨#[118,101,114,116,101,120]⟩,(([aB]:List ByteArray).getD (0:Int).toNat ⟨#[]⟩)]:List ByteArray) ⟨#[32]⟩).size<=1000000/\(⟨#[99,97,115,101,10]⟩:ByteArray).size+(joinB ([⟨#[118,101,114,116,101,120]⟩,(([aB]:List ByteArray).getD (0:Int).toNat ⟨#[]⟩)]:List ByteArray) ⟨#[32]⟩).size+1<=1000000)/\(InR .i64 (0+1))) [] h ⟨bk,dk,ik⟩ fun _ _ h=>?_
  exact lp_ (hK1 1 txB (rk [0,1,2,3,4,5,6,7,28683]) h ⟨.inr ⟨rfl,rfl⟩,tv⟩ (by decide))
 obtain⟨rfl,rfl⟩:i=1/\qq=txB:=by rcases hJ with⟨h0,_⟩|hJ;rw[h0] at q1;exact absurd (by decide) q1;exact hJ
 refine go0 [] h fun _ _ h=>?_
 refine go_loop (Int) (fun i=>⟨[(1,ep 0),(5,ep 1),(40,eo 2),(41,en (([]:List (ByteArray×Int×Int×Int)).length:Int)),(42,en i)],[(0,some (.box 39 [.v (.int .i64 0),.own 3,.own 2,.own 4,.own 5,.own 6,.own 7])),(1,some (.box 82 [.ptr 1 0,.own 8])),(2,some (.ar (.pair .str (.pair .int edT)) ([]:List (ByteArray×Int×Int×Int)))),(3,some (.ar .str ([aB]:List ByteArray))),(4,some (.ar .int ([]:List Int))),(5,some (.ar .int ([]:List Int))),(6,some (.ar (.list .int) ([[]]:List (List Int)))),(7,some (.ar (.list .int) ([]:List (List Int)))),(8,some (.ext (.byt 5 txB)))],9⟩) (fun i=>i=0/\True) (fun i=>0) (0) (rk [0,1,3,2,4,5,6,7,8]) h ⟨rfl,tv⟩ fun i _ _ _ hK2 hI h=>?_
 obtain⟨i0,_⟩:=hI
 refine go0 [] h fun _ _ h=>?_
 refine go_if h (fun(q2:i<(([]:List (ByteArray×Int×Int×Int)).length:Int))=>?_) (fun(q2:¬(i<(([]:List (ByteArray×Int×Int×Int)).length:Int)))=>?_)
 .exact absurd q2 (by rw[i0];decide)
 refine go (pr:=((0:Int)=0)/\(([]:List Int)=([]:List Int)/\([]:List Int)=([]:List Int)/\([]:List (List Int))=([]:List (List Int)))/\(¬((65536:Int)<(txB.size:Int)))/\(0<txB.size/\txB.size<=1000000)) [(73,true),(81,false)] h ⟨dk,⟨rfl,rfl,rfl⟩,dk,dk⟩ fun _ _ h=>?_
 exact out ((txB:ByteArray),((0:Int):Int),()) h rfl
def C_printA:Con Tryz.prog:=plain printA_c
abbrev MS_file:MSh:=⟨[.box 98 [.int,.own 1,.own 2,.own 3,.own 4,.own 5,.own 6,.bool,.int,.mp 7,.mp 8,.mp 9,.mp 10,.own 11],.row 9 .str,.row 84 (.pair .str (.pair .int edT)),.row 3 .int,.row 3 .int,.row 24 (.list .int),.row 24 (.list .int),.map .str .int,.map .int .unit,.map .int .unit,.map .int (.list .int),.row 24 (.list .int)],[.ptr 0 0],[.box 39 [.int,.own 1,.own 2,.own 3,.own 4,.own 5,.own 6],.row 9 .str,.row 84 (.pair .str (.pair .int edT)),.row 3 .int,.row 3 .int,.row 24 (.list .int),.row 24 (.list .int)],[.int,.own 1,.own 2,.own 3,.own 4,.own 5,.own 6],0,true,[]⟩
theorem file_m:ConMOk Tryz.prog 37 MS_file (fun x=>(show List ByteArray from x.1.2.1)=([aB]:List ByteArray)/\(show List (ByteArray×Int×Int×Int) from x.1.2.2.1)=([]:List (ByteArray×Int×Int×Int))/\(J_ x.1.2.2.2.1)=([]:List Int)/\(J_ x.1.2.2.2.2.1)=([]:List Int)/\(K_ x.1.2.2.2.2.2.1)=([]:List (List Int))/\(K_ x.1.2.2.2.2.2.2.1)=([]:List (List Int))/\(show MapD .int Unit from x.1.2.2.2.2.2.2.2.2.1)=([]:List (Int×Unit))/\(show MapD .int Unit from x.1.2.2.2.2.2.2.2.2.2.1)=([]:List (Int×Unit))/\(show MapD .int (List Int) from x.1.2.2.2.2.2.2.2.2.2.2.1)=([]:List (Int×List Int))/\(K_ x.1.2.2.2.2.2.2.2.2.2.2.2.1)=([]:List (List Int))/\(I_ x.1.1.1)=0) (fun x=>((((0:Int),(),(),(),(),(),(),()),([aB]:List ByteArray),([]:List (ByteArray×Int×Int×Int)),([]:List Int),([]:List Int),([[]]:List (List Int)),([]:List (List Int)),()),((0:Int),(),(),(),(),(),(),()))):=by
 refine conM_of Tryz.f37 146 [C_caseA,C_key0,C_walksA,inl [C_stb0] [] Tryz.func70,inl [] [] Tryz.func67] MS_file Tryz.func37 fun o A x hd _ _ h=>?_
 obtain⟨⟨⟨(xk:Int),_,_,_,_,_,_,(xb:Bool),(xt:Int),_,_,_,_,_,_⟩,(vv:List ByteArray),(ee:List (ByteArray×Int×Int×Int)),(hv:List Int),(he:List Int),(tt:List (List Int)),(ss:List (List Int)),(nm:MapD .str Int),(ha:MapD .int Unit),(hb:MapD .int Unit),(tu:MapD .int (List Int)),(xr:List (List Int)),_⟩,⟨_,_⟩⟩:=x
 have hl1:(vv.length:Int)<=9223372036854775807:=lenAt h 1 (t:=.str) (l:=vv)
 have hl2:(ee.length:Int)<=9223372036854775807:=lenAt h 2 (t:=(.pair .str (.pair .int edT))) (l:=ee)
 have hl3:=lnI h 3 hv
 have hl4:=lnI h 4 he
 have hl5:=lnL h 5 tt
 have hl6:=lnL h 6 ss
 have hl11:=lnL h 11 xr
 change vv=([aB]:List ByteArray)/\ee=([]:List (ByteArray×Int×Int×Int))/\hv=([]:List Int)/\he=([]:List Int)/\tt=([]:List (List Int))/\ss=([]:List (List Int))/\ha=([]:List (Int×Unit))/\hb=([]:List (Int×Unit))/\tu=([]:List (Int×List Int))/\xr=([]:List (List Int))/\xk=0 at hd
 obtain⟨rfl,rfl,rfl,rfl,rfl,rfl,rfl,rfl,rfl,rfl,rfl⟩:=hd
 refine go (pr:=(¬((0:Int)=1))/\((([]:List (Int×Unit)):List (Int×Unit))=[])/\((([]:List (Int×Unit)):List (Int×Unit))=[])/\(0<=(([aB]:List ByteArray).length:Int)/\(([aB]:List ByteArray).length:Int)<=(([aB]:List ByteArray).length:Int)/\(([aB]:List ByteArray).length:Int)<=2147483647)) [(27,false)] h ⟨dk,rfl,rfl,dk⟩ fun _ _ h=>?_
 refine go_loop (Int) (fun i=>⟨[(0,ep 0),(2,ep 1),(3,ep 2),(53,ep 3)],[(0,some (.box 98 [.v (.int .i64 0),.own 4,.own 5,.own 6,.own 7,.own 8,.own 9,.b (.raw xb),.v (.int .i64 xt),.mp 10,.mp 11,.mp 12,.mp 13,.own 14])),(1,some (.box 39 [.v (.int .i64 0),.v (.slice none 0 0),.v (.slice none 0 0),.v (.slice none 0 0),.v (.slice none 0 0),.v (.slice none 0 0),.v (.slice none 0 0)])),(2,some (.box 39 [.v (.int .i64 0),.own 4,.own 5,.v (.slice none 0 0),.v (.slice none 0 0),.own 15,.own 9])),(3,some (.iter .int (.list .int) ([]:List (Int×List Int)) (fun z=>(lkI ([]:List (Int×List Int)) z).isSome) (([]:List (Int×List Int)).length) none)),(4,some (.row 9 .str ([aB]:List ByteArray))),(5,some (.row 84 (.pair .str (.pair .int edT)) ([]:List (ByteArray×Int×Int×Int)))),(6,some (.row 3 .int ([]:List Int))),(7,some (.row 3 .int ([]:List Int))),(8,some (.row 24 (.list .int) ([]:List (List Int)))),(9,some (.row 24 (.list .int) ([]:List (List Int)))),(10,some (.map .str .int nm)),(11,some (.map .int .unit ([]:List (Int×Unit)))),(12,some (.map .int .unit ([]:List (Int×Unit)))),(13,some (.mro .int (.list .int) ([]:List (Int×List Int)))),(14,some (.row 24 (.list .int) ([]:List (List Int)))),(15,some (.row 24 (.list .int) (List.replicate (([aB]:List ByteArray).length:Int).toNat [])))],16⟩) (fun i=>i=0/\True) (fun i=>0) (0) (rk [0,12,20492,147468,1,2,3,4,5,6,7,8,9,10,11,114700]) h ⟨rfl,tv⟩ fun i _ _ _ hK1 hI h=>?_
 obtain⟨i0,_⟩:=hI
 refine go0 [] h fun _ _ h=>?_
 refine go_next ⟨.int,(.list .int),([]:List (Int×List Int)),(fun z=>(lkI ([]:List (Int×List Int)) z).isSome),(([]:List (Int×List Int)).length),none,3,54⟩ h (fun(hl1:∀x:Int,(fun z=>(lkI ([]:List (Int×List Int)) z).isSome) x=false) _ _ h=>?_) (fun(k1:Int) (v1:List Int) (c1:Nat) (hl1:(fun z=>(lkI ([]:List (Int×List Int)) z).isSome) k1=true) (hw1: -9223372036854775808<=k1/\k1<=9223372036854775807) (hk1:lkI ([]:List (Int×List Int)) k1=some v1) (hc1:c1<(([]:List (Int×List Int)).length)) _ _ h=>?_)
 .refine go (pr:=((((0:Int),(([aB]:List ByteArray),(([]:List (ByteArray×Int×Int×Int)),(([],[]),((List.replicate (([aB]:List ByteArray).length:Int).toNat []),([]:List (List Int))))))):Int×List ByteArray×List (ByteArray×Int×Int×Int)×(List Int×List Int)×List (List Int)×List (List Int))=(0,([aB],([],(([],[]),([[]],[]))))))/\((0:Int)=0)/\((((1:Int),([]:List (Int×Int))):Int×List (Int×Int))=(1,[])/\((([]:List Int),([]:List Int)):List Int×List Int)=([],[])/\([[]]:List (List Int))=([[]]:List (List Int)))) [(78,false)] h ⟨rfl,dk,dk⟩ fun _ _ h=>?_
  refine go_loop (Int) (fun i=>⟨[(2,ep 0),(3,ep 1),(8,em 2),(92,eo 3),(93,en (([]:List (Int×List Int)).length:Int)),(94,en i)],[(0,some (.box 39 [.v (.int .i64 0),.v (.slice none 0 0),.v (.slice none 0 0),.v (.slice none 0 0),.v (.slice none 0 0),.v (.slice none 0 0),.v (.slice none 0 0)])),(1,some (.box 39 [.v (.int .i64 0),.own 4,.own 5,.v (.slice none 0 0),.v (.slice none 0 0),.own 6,.own 7])),(2,some (.map .int .int ([]:MapD .int Int))),(3,some (.ro (.pair .int (.list .int)) ([]:List (Int×List Int)))),(4,some (.row 9 .str ([aB]:List ByteArray))),(5,some (.row 84 (.pair .str (.pair .int edT)) ([]:List (ByteArray×Int×Int×Int)))),(6,some (.row 24 (.list .int) (List.replicate (([aB]:List ByteArray).length:Int).toNat []))),(7,some (.row 24 (.list .int) ([]:List (List Int))))],8⟩) (fun i=>i=0/\True) (fun i=>0) (0) (rk [1,2,77840,114704,4,5,15,14]) h ⟨rfl,tv⟩ fun i _ _ _ hK2 hI h=>?_
  obtain⟨i0,_⟩:=hI
  refine go0 [] h fun _ _ h=>?_
  refine go_if h (fun(q1:i<(([]:List (Int×List Int)).length:Int))=>?_) (fun(q1:¬(i<(([]:List (Int×List Int)).length:Int)))=>?_)
  .exact absurd q1 (by rw[i0];decide)
  refine go0 [] h fun _ _ h=>?_
  refine go_loop (Int) (fun i=>⟨[(2,ep 0),(3,ep 1),(8,em 2),(113,eo 3),(114,en (([]:List (List Int)).length:Int)),(115,en i)],[(0,some (.box 39 [.v (.int .i64 0),.v (.slice none 0 0),.v (.slice none 0 0),.v (.slice none 0 0),.v (.slice none 0 0),.v (.slice none 0 0),.v (.slice none 0 0)])),(1,some (.box 39 [.v (.int .i64 0),.own 4,.own 5,.v (.slice none 0 0),.v (.slice none 0 0),.own 6,.own 3])),(2,some (.map .int .int ([]:MapD .int Int))),(3,some (.row 24 (.list .int) ([]:List (List Int)))),(4,some (.row 9 .str ([aB]:List ByteArray))),(5,some (.row 84 (.pair .str (.pair .int edT)) ([]:List (ByteArray×Int×Int×Int)))),(6,some (.row 24 (.list .int) (List.replicate (([aB]:List ByteArray).length:Int).toNat [])))],7⟩) (fun i=>i=0/\True) (fun i=>0) (0) (rk [0,1,2,7,4,5,6]) h ⟨rfl,tv⟩ fun i _ _ _ hK3 hI h=>?_
  obtain⟨i0,_⟩:=hI
  refine go0 [] h fun _ _ h=>?_
  refine go_if h (fun(q2:i<(([]:List (List Int)).length:Int))=>?_) (fun(q2:¬(i<(([]:List (List Int)).length:Int)))=>?_)
  .exact absurd q2 (by rw[i0];decide)
  refine go (pr:=((([]:List (List Int)).length:Int)=0)) [] h rfl fun _ _ h=>?_
  exact outM ((((0:Int),(),(),(),(),(),(),()),([aB]:List ByteArray),([]:List (ByteArray×Int×Int×Int)),[],[],(List.replicate (([aB]:List ByteArray).length:Int).toNat []),([]:List (List Int)),()),((0:Int),(),(),(),(),(),(),())) [(0,some 0),(1,some 4),(2,some 5),(3,none),(4,none),(5,some 6),(6,some 3)] h rfl
 cases(show(none:Option (List Int))=some _ from hk1)
def C_file:Con Tryz.prog:=memc file_m
abbrev MS_line:MSh:=⟨[.box 98 [.int,.own 3,.own 4,.own 5,.own 6,.own 7,.own 8,.bool,.int,.mp 9,.mp 10,.mp 11,.mp 12,.own 13],.box 107 [.own 2,.int,.int,.int],.rd (.pair .int .str),.row 9 .str,.row 84 (.pair .str (.pair .int edT)),.row 3 .int,.row 3 .int,.row 24 (.list .int),.row 24 (.list .int),.map .str .int,.map .int .unit,.map .int .unit,.map .int (.list .int),.row 24 (.list .int)],[.ptr 0 0,.ptr 1 0],[.box 98 [.int,.own 3,.own 4,.own 5,.own 6,.own 7,.own 8,.bool,.int,.mp 9,.mp 10,.mp 11,.mp 12,.own 13],.box 107 [.own 2,.int,.int,.int],.rd (.pair .int .str),.row 9 .str,.row 84 (.pair .str (.pair .int edT)),.row 3 .int,.row 3 .int,.row 24 (.list .int),.row 24 (.list .int),.map .str .int,.map .int .unit,.map .int .unit,.map .int (.list .int),.row 24 (.list .int)],[],3,false,[]⟩
theorem line0_m:ConMOk Tryz.prog 35 MS_line (fun x=>(show List ByteArray from x.1.2.2.2.1)=([]:List ByteArray)/\(show MapD .str Int from x.1.2.2.2.2.2.2.2.2.2.1)=([]:List (ByteArray×Int))/\(I_ x.1.1.1)=0/\(I_ x.1.1.2.2.2.2.2.2.2.2.1)=0/\(I_ x.1.2.1.2.2.2.1)=0/\(show Bool from x.1.1.2.2.2.2.2.2.2.1)=false/\(I_ x.1.2.1.2.1)=0/\(show List (Int×ByteArray) from x.1.2.2.1)=([(0,cB)]:List (Int×ByteArray))) (fun x=>((((0:Int),(),(),(),(),(),(),true,(0:Int),(),(),(),(),(),()),((),(0:Int),(I_ x.1.2.1.2.2.1),(1:Int),()),([(0,cB)]:List (Int×ByteArray)),([]:List ByteArray),(show List (ByteArray×Int×Int×Int) from x.1.2.2.2.2.1),(J_ x.1.2.2.2.2.2.1),(J_ x.1.2.2.2.2.2.2.1),(K_ x.1.2.2.2.2.2.2.2.1),(K_ x.1.2.2.2.2.2.2.2.2.1),([]:List (ByteArray×Int)),(show MapD .int Unit from x.1.2.2.2.2.2.2.2.2.2.2.1),(show MapD .int Unit from x.1.2.2.2.2.2.2.2.2.2.2.2.1),(show MapD .int (List Int) from x.1.2.2.2.2.2.2.2.2.2.2.2.2.1),(K_ x.1.2.2.2.2.2.2.2.2.2.2.2.2.2.1),()),(()))):=by
 refine conM_of Tryz.f35 104 [C_more,C_word] MS_line Tryz.func35 fun o A x hd _ _ h=>?_
 obtain⟨⟨⟨(xk:Int),_,_,_,_,_,_,(xb:Bool),(xt:Int),_,_,_,_,_,_⟩,⟨_,(wa:Int),(wz:Int),(wn:Int),_⟩,(ws:List (Int×ByteArray)),(vv:List ByteArray),(ee:List (ByteArray×Int×Int×Int)),(hv:List Int),(he:List Int),(tt:List (List Int)),(ss:List (List Int)),(nm:MapD .str Int),(ha:MapD .int Unit),(hb:MapD .int Unit),(tu:MapD .int (List Int)),(xr:List (List Int)),_⟩,⟨_,_,_⟩⟩:=x
 have hl2:(ws.length:Int)<=9223372036854775807:=lenAt h 2 (t:=(.pair .int .str)) (l:=ws)
 have hl3:(vv.length:Int)<=9223372036854775807:=lenAt h 3 (t:=.str) (l:=vv)
 have hl4:(ee.length:Int)<=9223372036854775807:=lenAt h 4 (t:=(.pair .str (.pair .int edT))) (l:=ee)
 have hl5:=lnI h 5 hv
 have hl6:=lnI h 6 he
 have hl7:=lnL h 7 tt
 have hl8:=lnL h 8 ss
 have hl13:=lnL h 13 xr
 change vv=([]:List ByteArray)/\nm=([]:List (ByteArray×Int))/\xk=0/\xt=0/\wn=0/\xb=false/\wa=0/\ws=([(0,cB)]:List (Int×ByteArray)) at hd
 obtain⟨rfl,rfl,rfl,rfl,rfl,rfl,rfl,rfl⟩:=hd
 refine go (pr:=True/\((decide ((0:Int)<(([(0,cB)]:List (Int×ByteArray)).length:Int)))=true)/\((0<=(0:Int)/\(0:Int)<(([(0,cB)]:List (Int×ByteArray)).length:Int)/\(0:Int)<=1000000)/\-9223372036854775808<=(0:Int)+(([(0,cB)]:List (Int×ByteArray)).getD (0:Int).toNat (0,⟨#[]⟩)).1/\(0:Int)+(([(0,cB)]:List (Int×ByteArray)).getD (0:Int).toNat (0,⟨#[]⟩)).1<=9223372036854775807)/\(false=false)/\((([(0,cB)]:List (Int×ByteArray)).getD (0:Int).toNat (0,⟨#[]⟩)).2=(⟨#[99,97,115,101]⟩:ByteArray))/\True/\((decide ((0:Int)+1<(([(0,cB)]:List (Int×ByteArray)).length:Int)))=false)) [(12,false),(28,true),(34,true),(95,false)] h ⟨tv,dk,dk,dk,dk,tv,dk⟩ fun _ _ h=>?_
 exact outM ((((0:Int),(),(),(),(),(),(),true,(0:Int),(),(),(),(),(),()),((),(0:Int),wz,(0:Int)+1,()),([(0,cB)]:List (Int×ByteArray)),([]:List ByteArray),ee,hv,he,tt,ss,([]:List (ByteArray×Int)),ha,hb,tu,xr,()),(())) (ir 14) h rfl
def C_line0:Con Tryz.prog:=memc line0_m
theorem line1_m:ConMOk Tryz.prog 35 MS_line (fun x=>(show List ByteArray from x.1.2.2.2.1)=([]:List ByteArray)/\(show MapD .str Int from x.1.2.2.2.2.2.2.2.2.2.1)=([]:List (ByteArray×Int))/\(I_ x.1.1.1)=0/\(I_ x.1.1.2.2.2.2.2.2.2.2.1)=0/\(I_ x.1.2.1.2.2.2.1)=0/\(show Bool from x.1.1.2.2.2.2.2.2.2.1)=true/\(I_ x.1.2.1.2.1)=5/\(show List (Int×ByteArray) from x.1.2.2.1)=([(0,⟨#[118,101,114,116,101,120]⟩),(7,aB)]:List (Int×ByteArray))) (fun x=>((((0:Int),(),(),(),(),(),(),true,(0:Int),(),(),(),(),(),()),((),(5:Int),(I_ x.1.2.1.2.2.1),(2:Int),()),([(0,⟨#[118,101,114,116,101,120]⟩),(7,aB)]:List (Int×ByteArray)),([aB]:List ByteArray),(show List (ByteArray×Int×Int×Int) from x.1.2.2.2.2.1),(J_ x.1.2.2.2.2.2.1),(J_ x.1.2.2.2.2.2.2.1),(K_ x.1.2.2.2.2.2.2.2.1),(K_ x.1.2.2.2.2.2.2.2.2.1),([(aB,-1)]:List (ByteArray×Int)),(show MapD .int Unit from x.1.2.2.2.2.2.2.2.2.2.2.1),(show MapD .int Unit from x.1.2.2.2.2.2.2.2.2.2.2.2.1),(show MapD .int (List Int) from x.1.2.2.2.2.2.2.2.2.2.2.2.2.1),(K_ x.1.2.2.2.2.2.2.2.2.2.2.2.2.2.1),()),(()))):=by
 refine conM_of Tryz.f35 104 [C_more,C_vert,C_word,inl [] [(15,true)] Tryz.func60] MS_line Tryz.func35 fun o A x hd _ _ h=>?_
 obtain⟨⟨⟨(xk:Int),_,_,_,_,_,_,(xb:Bool),(xt:Int),_,_,_,_,_,_⟩,⟨_,(wa:Int),(wz:Int),(wn:Int),_⟩,(ws:List (Int×ByteArray)),(vv:List ByteArray),(ee:List (ByteArray×Int×Int×Int)),(hv:List Int),(he:List Int),(tt:List (List Int)),(ss:List (List Int)),(nm:MapD .str Int),(ha:MapD .int Unit),(hb:MapD .int Unit),(tu:MapD .int (List Int)),(xr:List (List Int)),_⟩,⟨_,_,_⟩⟩:=x
 have hl2:(ws.length:Int)<=9223372036854775807:=lenAt h 2 (t:=(.pair .int .str)) (l:=ws)
 have hl3:(vv.length:Int)<=9223372036854775807:=lenAt h 3 (t:=.str) (l:=vv)
 have hl4:(ee.length:Int)<=9223372036854775807:=lenAt h 4 (t:=(.pair .str (.pair .int edT))) (l:=ee)
 have hl5:=lnI h 5 hv
 have hl6:=lnI h 6 he
 have hl7:=lnL h 7 tt
 have hl8:=lnL h 8 ss
 have hl13:=lnL h 13 xr
 change vv=([]:List ByteArray)/\nm=([]:List (ByteArray×Int))/\xk=0/\xt=0/\wn=0/\xb=true/\wa=5/\ws=([(0,⟨#[118,101,114,116,101,120]⟩),(7,aB)]:List (Int×ByteArray)) at hd
 obtain⟨rfl,rfl,rfl,rfl,rfl,rfl,rfl,rfl⟩:=hd
 refine go (pr:=True/\((decide ((0:Int)<(([(0,⟨#[118,101,114,116,101,120]⟩),(7,aB)]:List (Int×ByteArray)).length:Int)))=true)/\((0<=(0:Int)/\(0:Int)<(([(0,⟨#[118,101,114,116,101,120]⟩),(7,aB)]:List (Int×ByteArray)).length:Int)/\(0:Int)<=1000000)/\-9223372036854775808<=(5:Int)+(([(0,⟨#[118,101,114,116,101,120]⟩),(7,aB)]:List (Int×ByteArray)).getD (0:Int).toNat (0,⟨#[]⟩)).1/\(5:Int)+(([(0,⟨#[118,101,114,116,101,120]⟩),(7,aB)]:List (Int×ByteArray)).getD (0:Int).toNat (0,⟨#[]⟩)).1<=9223372036854775807)/\(true=true)/\((([(0,⟨#[118,101,114,116,101,120]⟩),(7,aB)]:List (Int×ByteArray)).getD (0:Int).toNat (0,⟨#[]⟩)).2=(⟨#[118,101,114,116,101,120]⟩:ByteArray))/\(true=true)/\(¬((0:Int)<0))/\((0:Int)=0)/\(((0<=(0:Int)+1/\(0:Int)+1<(([(0,⟨#[118,101,114,116,101,120]⟩),(7,aB)]:List (Int×ByteArray)).length:Int)/\(0:Int)+1<=1000000)/\-9223372036854775808<=(5:Int)+(([(0,⟨#[118,101,114,116,101,120]⟩),(7,aB)]:List (Int×ByteArray)).getD ((0:Int)+1).toNat (0,⟨#[]⟩)).1/\(5:Int)+(([(0,⟨#[118,101,114,116,101,120]⟩),(7,aB)]:List (Int×ByteArray)).getD ((0:Int)+1).toNat (0,⟨#[]⟩)).1<=9223372036854775807)/\nameB (([(0,⟨#[118,101,114,116,101,120]⟩),(7,aB)]:List (Int×ByteArray)).getD ((0:Int)+1).toNat (0,⟨#[]⟩)).2=true/\(lookK (k:=.str) ([]:List (ByteArray×Int)) (([(0,⟨#[118,101,114,116,101,120]⟩),(7,aB)]:List (Int×ByteArray)).getD ((0:Int)+1).toNat (0,⟨#[]⟩)).2).isSome=false/\(([(0,⟨#[118,101,114,116,101,120]⟩),(7,aB)]:List (Int×ByteArray)).getD ((0:Int)+1).toNat (0,⟨#[]⟩)).2.size<=1000000/\([]:List (ByteArray×Int)).length<=1000000/\([]:List ByteArray).length<=1000000)/\True/\((decide ((0:Int)+1+1<(([(0,⟨#[118,101,114,116,101,120]⟩),(7,aB)]:List (Int×ByteArray)).length:Int)))=false)) [(12,false),(28,false),(52,false),(58,false),(69,true),(95,false)] h ⟨tv,dk,dk,dk,dk,dk,dk,dk,dk,tv,dk⟩ fun _ _ h=>?_
 exact outM ((((0:Int),(),(),(),(),(),(),true,(0:Int),(),(),(),(),(),()),((),(5:Int),wz,(0:Int)+1+1,()),([(0,⟨#[118,101,114,116,101,120]⟩),(7,aB)]:List (Int×ByteArray)),(([]:List ByteArray)++[(([(0,⟨#[118,101,114,116,101,120]⟩),(7,aB)]:List (Int×ByteArray)).getD ((0:Int)+1).toNat (0,⟨#[]⟩)).2]),ee,hv,he,tt,ss,putK (k:=.str) ([]:List (ByteArray×Int)) (([(0,⟨#[118,101,114,116,101,120]⟩),(7,aB)]:List (Int×ByteArray)).getD ((0:Int)+1).toNat (0,⟨#[]⟩)).2 (-1-(([]:List ByteArray).length:Int)),ha,hb,tu,xr,()),(())) (rk [0,1,2,176145,176146,176147,176148,176149,176150,176151,176152,176153,176154,176155]) h rfl
def C_line1:Con Tryz.prog:=memc line1_m
end Go.Proofs.YtnfdimfepbbbpaaGreatDoor
