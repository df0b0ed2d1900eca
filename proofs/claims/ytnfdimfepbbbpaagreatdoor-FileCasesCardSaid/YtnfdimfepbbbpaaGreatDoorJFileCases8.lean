/-
  Texts joined by program: VFP3, VFP8, VTL1, VFL3, VFL2, VFL9.
-/
import Derived.Test.YtnfdimfepbbbpaaGreatDoorJFileCases7
import Derived.Test.YtnfdimfepbbbpaaGreatDoorProg
set_option linter.unusedSimpArgs false
set_option linter.unusedVariables false
set_option maxRecDepth 100000
set_option maxHeartbeats 8000000
namespace Go.Proofs.YtnfdimfepbbbpaaGreatDoor
open Go.RowKit
theorem parseA_c:ConOk Tryz.prog 11 [(false,.str)] [(.pair .int (.pair (.list .str) (.pair (.list (.pair .str (.pair .int edT))) (.pair ptT (.pair (.list (.list .int)) (.list (.list .int))))))),.int,.int] (fun x=>(show ByteArray from x.1)=txB) (fun x=>(((0:Int),([aB],([],(([],[]),([[]],[]))))),(0:Int),(0:Int),())):=by
 refine con_ofD Tryz.f11 53 [C_bad,C_file,C_split,inl [] [] Tryz.func34] Tryz.func11 fun o x hd _ _ h=>?_
 obtain⟨(sx:ByteArray),_⟩:=x
 change sx=txB at hd
 subst hd
 refine go0 [] h fun _ _ h=>?_
 refine go_defer 32 3 (fun cv hcv=>quiet_parse cv hcv) h fun d_ _ _ hd_ h=>?_
 refine go (pr:=(¬((65536:Int)<(txB.size:Int)))/\True/\(((badB txB).2)=false)) [(13,false),(20,false)] h ⟨dk,tv,dk⟩ fun _ _ h=>?_
 refine go_lines (Y:=Bool×List ByteArray×(List (ByteArray×Int))) lines_it (fun x_=>(fun(yb:Bool) (yv:List ByteArray) (ym:List (ByteArray×Int))=>⟨[(2,ep 1),(3,ep 2),(4,ep 3),(7,ep 4),(32,some ⟨[],.one (.clo 57 [(0,0)])⟩)],[(0,some (.box 9 [.v (.string txB)])),(1,some (.box 39 [.v (.int .i64 0),.v (.slice none 0 0),.v (.slice none 0 0),.v (.slice none 0 0),.v (.slice none 0 0),.v (.slice none 0 0),.v (.slice none 0 0)])),(2,some (.box 3 [.v (.int .i64 0)])),(3,some (.box 34 [.v (.int .i64 0)])),(4,some (.box 93 [.ptr 5 0])),(5,some (.box 98 [.v (.int .i64 0),.own 6,.own 7,.own 8,.own 9,.own 10,.own 11,.b (.raw yb),.v (.int .i64 0),.mp 12,.mp 13,.mp 14,.mp 15,.own 16])),(6,some (.row 9 .str yv)),(7,some (.row 84 (.pair .str (.pair .int edT)) ([]:List (ByteArray×Int×Int×Int)))),(8,some (.row 3 .int ([]:List Int))),(9,some (.row 3 .int ([]:List Int))),(10,some (.row 24 (.list .int) ([]:List (List Int)))),(11,some (.row 24 (.list .int) ([]:List (List Int)))),(12,some (.map .str .int ym)),(13,some (.map .int .unit ([]:MapD .int Unit))),(14,some (.map .int .unit ([]:MapD .int Unit))),(15,some (.map .int (.list .int) ([]:MapD .int (List Int)))),(16,some (.row 24 (.list .int) ([]:List (List Int))))],17⟩) x_.1 x_.2.1 x_.2.2) 5 txB dk (fun pre x_=>(fun(yb:Bool) (yv:List ByteArray) (ym:List (ByteArray×Int))=>(pre=[]/\yb=false/\yv=([]:List ByteArray)/\ym=([]:List (ByteArray×Int)))\/(pre=[(0,cB)]/\yb=true/\yv=([]:List ByteArray)/\ym=([]:List (ByteArray×Int)))\/(pre=[(0,cB),(5,vaB)]/\yb=true/\yv=([aB]:List ByteArray)/\ym=([(aB,-1)]:List (ByteArray×Int)))) x_.1 x_.2.1 x_.2.2) (false,([]:List ByteArray),([]:List (ByteArray×Int))) [(0,some 94208),(1,some 0),(2,some 4096),(3,some 8192),(4,some 81920),(5,some 77824),(6,none),(7,none),(8,none),(9,none),(10,none),(11,none),(12,some 57344),(13,some 61440),(14,some 65536),(15,some 69632),(16,none)] h (.inl ⟨rfl,rfl,rfl,rfl⟩) (fun pre xl x_ _ _ _ _ _ _ _ _ _ hK1 hx hI h=>?_) (fun x_ D1 _ _ hI h=>?_)
 .obtain⟨rest,hx⟩:=hx
  rw[tx_lines] at hx
  obtain⟨yb,yv,ym⟩:=x_
  rcases hI with⟨rfl,h1,h2,h3⟩|⟨rfl,h1,h2,h3⟩|⟨rfl,h1,h2,h3⟩
  .obtain rfl:xl=(0,cB):=(List.cons.inj hx).1
   change yb=_ at h1
   change yv=_ at h2
   change ym=_ at h3
   subst h1 h2 h3
   refine with_ [C_bad,C_file,C_line0,C_split,inl [] [] Tryz.func34] ?_
   refine go (pr:=(cB.size<=1000000000)/\(([]:List ByteArray)=([]:List ByteArray)/\([]:List (ByteArray×Int))=([]:List (ByteArray×Int))/\(0:Int)=0/\(0:Int)=0/\(0:Int)=0/\false=false/\(0:Int)=0/\([(0,cB)]:List (Int×ByteArray))=([(0,cB)]:List (Int×ByteArray)))) [] h ⟨dk,⟨rfl,rfl,rfl,rfl,rfl,rfl,rfl,rfl⟩⟩ fun _ _ h=>?_
   exact rg_ (hK1 (true,([]:List ByteArray),([]:List (ByteArray×Int))) (rk [0,1,2,3,4,5,40980,40981,40982,40983,40984,40985,40986,40987,40988,40989,40990]) h (.inr (.inl ⟨rfl,rfl,rfl,rfl⟩)))
  .obtain rfl:xl=(5,vaB):=(List.cons.inj (List.cons.inj hx).2).1
   change yb=_ at h1
   change yv=_ at h2
   change ym=_ at h3
   subst h1 h2 h3
   refine with_ [C_bad,C_file,C_line1,C_split,inl [] [] Tryz.func34] ?_
   refine go (pr:=(vaB.size<=1000000000)/\(([]:List ByteArray)=([]:List ByteArray)/\([]:List (ByteArray×Int))=([]:List (ByteArray×Int))/\(0:Int)=0/\(0:Int)=0/\(0:Int)=0/\true=true/\(5:Int)=5/\([(0,⟨#[118,101,114,116,101,120]⟩),(7,aB)]:List (Int×ByteArray))=([(0,⟨#[118,101,114,116,101,120]⟩),(7,aB)]:List (Int×ByteArray)))) [] h ⟨dk,⟨rfl,rfl,rfl,rfl,rfl,rfl,rfl,rfl⟩⟩ fun _ _ h=>?_
   exact rg_ (hK1 (true,([aB]:List ByteArray),([(aB,-1)]:List (ByteArray×Int))) (rk [0,1,2,3,4,5,40980,40981,40982,40983,40984,40985,40986,40987,40988,40989,40990]) h (.inr (.inr ⟨rfl,rfl,rfl,rfl⟩)))
  exact absurd (congrArg List.length hx) (by simp)
 rw[tx_lines] at hI
 obtain⟨yb,yv,ym⟩:=x_
 obtain⟨h1,h2,h3⟩:yb=true/\yv=([aB]:List ByteArray)/\ym=([(aB,-1)]:List (ByteArray×Int)):=by rcases hI with⟨e,_⟩|⟨e,_⟩|⟨_,e⟩;cases e;cases e;exact e
 subst h1 h2 h3
 refine go (pr:=(true=true)/\(([aB]:List ByteArray)=([aB]:List ByteArray)/\([]:List (ByteArray×Int×Int×Int))=([]:List (ByteArray×Int×Int×Int))/\([]:List Int)=([]:List Int)/\([]:List Int)=([]:List Int)/\([]:List (List Int))=([]:List (List Int))/\([]:List (List Int))=([]:List (List Int))/\([]:MapD .int Unit)=([]:List (Int×Unit))/\([]:MapD .int Unit)=([]:List (Int×Unit))/\([]:MapD .int (List Int))=([]:List (Int×List Int))/\([]:List (List Int))=([]:List (List Int))/\(0:Int)=0)) [(48,false)] h ⟨dk,⟨rfl,rfl,rfl,rfl,rfl,rfl,rfl,rfl,rfl,rfl,rfl⟩⟩ fun _ _ h=>?_
 exact outE [17] [D1] d_ hd_ ((((0:Int),(([aB]:List ByteArray),(([]:List (ByteArray×Int×Int×Int)),((([]:List Int),([]:List Int)),(([[]]:List (List Int)),([]:List (List Int))))))):Int×(List ByteArray)×(List (ByteArray×Int×Int×Int))×((List Int)×List Int)×(List (List Int))×List (List Int)),((0:Int):Int),((0:Int):Int),()) h rfl
def C_parseA:Con Tryz.prog:=plain parseA_c
theorem awake_c:ConOk Tryz.prog 7 [] [.bool] (fun _=>True) (fun x=>(true,())):=by
 refine con_of Tryz.f7 39 [C_parseA,C_printA] Tryz.func7 fun o x hd _ _ h=>?_
 refine go (pr:=((⟨#[99,97,115,101,10,118,101,114,116,101,120,32,97,10]⟩:ByteArray)=txB)/\((0:Int)=0/\([aB]:List ByteArray)=([aB]:List ByteArray)/\([]:List (ByteArray×Int×Int×Int))=([]:List (ByteArray×Int×Int×Int))/\([]:List Int)=([]:List Int)/\([]:List Int)=([]:List Int)/\([[]]:List (List Int))=([[]]:List (List Int))/\([]:List (List Int))=([]:List (List Int)))/\(((((0:Int)=0)/\((0:Int)=0))/\((([aB]:List ByteArray).length:Int)=1))->(Bnd (0:Int) ([aB]:List ByteArray).length))) [] h ⟨rfl,⟨rfl,rfl,rfl,rfl,rfl,rfl,rfl⟩,fun _=>bk⟩ fun _ _ h=>?_
 exact out ((((((decide ((0:Int)=0)) && (decide ((0:Int)=0))) && (decide ((([aB]:List ByteArray).length:Int)=1))) && (decide ((([aB]:List ByteArray).getD (0:Int).toNat ⟨#[]⟩)=(⟨#[97]⟩:ByteArray)))) && (decide (txB=(⟨#[99,97,115,101,10,118,101,114,116,101,120,32,97,10]⟩:ByteArray))):Bool),()) h (by kernel_rfl)
def C_awake:Con Tryz.prog:=plain awake_c
theorem sm4_c:ConOk Tryz.prog 79 [(false,grT),(false,ptT)] [.int] (fun x=>inR (I_ x.1.1)) (fun x=>(sm4 (I_ x.1.1) (E_ x.1.2) (J_ x.2.1.1) (J_ x.2.1.2),())):=by
 refine con_of Tryz.f79 31 [] Tryz.func79 fun o x hd _ _ h=>?_
 obtain⟨⟨(n:Int),(E:List (Int×Int))⟩,⟨(V:List Int),(L:List Int)⟩,_⟩:=x
 have hl0:=lnE h 0 E
 have hl1:=lnI h 1 V
 have hl2:=lnI h 2 L
 change inR n at hd
 refine go0 [] h fun _ _ h=>?_
 refine go_if h (fun(q1:((((60:Int)<(E.length:Int))\/((60:Int)<(V.length:Int)))\/((60:Int)<(L.length:Int)))\/(((60:Int)<n)/\(n<=1024)))=>?_) (fun(q1:(((¬((60:Int)<(E.length:Int)))/\(¬((60:Int)<(V.length:Int))))/\(¬((60:Int)<(L.length:Int))))/\((¬((60:Int)<n))\/(¬(n<=1024))))=>?_)
 .refine go0 [] h fun _ _ h=>?_
  exact out (((0:Int):Int),()) h (by show _=(sm4 n E V L,());unfold sm4;rw[if_pos (by have:=q1;omega)]<;>rfl)
 refine go0 [] h fun _ _ h=>?_
 exact out (((1:Int):Int),()) h (by show _=(sm4 n E V L,());unfold sm4;rw[if_neg (by have:=q1;omega)]<;>rfl)
def C_sm4:Con Tryz.prog:=plain sm4_c
theorem sm6_c:ConOk Tryz.prog 50 [(false,grT),(false,ptT),(false,(.list (.list .int)))] [.int] (fun x=>inR (I_ x.1.1)) (fun x=>(sm6 (I_ x.1.1) (E_ x.1.2) (J_ x.2.1.1) (J_ x.2.1.2) (K_ x.2.2.1),())):=by
 refine con_of Tryz.f50 29 [C_sm4] Tryz.func50 fun o x hd _ _ h=>?_
 obtain⟨⟨(n:Int),(E:List (Int×Int))⟩,⟨(V:List Int),(L:List Int)⟩,(T:List (List Int)),_⟩:=x
 have hl0:=lnE h 0 E
 have hl1:=lnI h 1 V
 have hl2:=lnI h 2 L
 have hl3:=lnL h 3 T
 change inR n at hd
 have hn:=hd
 refine go (pr:=(inR n)) [] h hn fun _ _ h=>?_
 refine go_if h (fun(q1:(sm4 n E V L=0)\/((100:Int)<(T.length:Int)))=>?_) (fun(q1:(¬(sm4 n E V L=0))/\(¬((100:Int)<(T.length:Int))))=>?_)
 .refine go0 [] h fun _ _ h=>?_
  exact out (((0:Int):Int),()) h (by show _=(sm6 n E V L T,());unfold sm6;rw[if_pos (q1.elim .inl fun q=>.inr (.inl (by omega)))]<;>rfl)
 refine go0 [] h fun _ _ h=>?_
 refine go_loop (Int) (fun i=>⟨[(2,eo 0),(7,en i)],[(0,some (.ar (.list .int) T))],1⟩) (fun i=>0<=i/\i<=(T.length:Int)/\∀j:Nat,(j:Int)<i->¬((200:Nat):Int)<((T.getD j []).length:Int)) (fun i=>((T.length:Int)-i).toNat) (0) (rk [3]) h ⟨Int.le_refl _,Int.natCast_nonneg _,fun j hj=>by omega⟩ fun i _ _ _ hK1 hI h=>?_
 obtain⟨i0,i1,i2⟩:=hI
 refine go0 [] h fun _ _ h=>?_
 refine go_if h (fun(q2:i<(T.length:Int))=>?_) (fun(q2:¬(i<(T.length:Int)))=>?_)
 .refine go (pr:=(Bnd i T.length)) [] h bx fun _ _ h=>?_
  refine go_if h (fun(q3:(200:Int)<((T.getD i.toNat []).length:Int))=>?_) (fun(q3:¬((200:Int)<((T.getD i.toNat []).length:Int)))=>?_)
  .refine go0 [] h fun _ _ h=>?_
   exact out (((0:Int):Int),()) h (by show _=(sm6 n E V L T,());unfold sm6;rw[if_pos (.inr (.inr (long_yes i0 (by omega) (by have:=q3;omega))))]<;>rfl)
  refine go (pr:=(InR .i64 (i+1))) [] h r64 fun _ _ h=>?_
  exact lp_ (hK1 (i+1) (ir 1) h ⟨by omega,by omega,fun j hj=>if z:(j:Int)<i then i2 j z else by rw[show j=i.toNat by omega];have:=q3;omega⟩ (by omega))
 refine go0 [] h fun _ _ h=>?_
 exact out (((1:Int):Int),()) h (by show _=(sm6 n E V L T,());unfold sm6;rw[if_neg (by rintro(q|q|q);exact q1.1 q;(have:=q1.2;omega);rw[long_no (by omega) i2] at q;cases q)]<;>rfl)
def C_sm6:Con Tryz.prog:=plain sm6_c
theorem sm8_c:ConOk Tryz.prog 27 [(false,grT),(false,ptT),(false,(.pair (.list (.list .int)) (.list (.list .int))))] [.int] (fun x=>inR (I_ x.1.1)) (fun x=>(sm8 (I_ x.1.1) (E_ x.1.2) (J_ x.2.1.1) (J_ x.2.1.2) (K_ x.2.2.1.1) (K_ x.2.2.1.2),())):=by
 refine con_of Tryz.f27 34 [C_sm6] Tryz.func27 fun o x hd _ _ h=>?_
 obtain⟨⟨(n:Int),(E:List (Int×Int))⟩,⟨(V:List Int),(L:List Int)⟩,⟨(T:List (List Int)),(S:List (List Int))⟩,_⟩:=x
 have hl0:=lnE h 0 E
 have hl1:=lnI h 1 V
 have hl2:=lnI h 2 L
 have hl3:=lnL h 3 T
 have hl4:=lnL h 4 S
 change inR n at hd
 have hn:=hd
 refine go (pr:=(inR n)) [] h hn fun _ _ h=>?_
 refine go_if h (fun(q1:(sm6 n E V L T=0)\/((60:Int)<(S.length:Int)))=>?_) (fun(q1:(¬(sm6 n E V L T=0))/\(¬((60:Int)<(S.length:Int))))=>?_)
 .refine go0 [] h fun _ _ h=>?_
  exact out (((0:Int):Int),()) h (by show _=(sm8 n E V L T S,());unfold sm8;rw[if_pos (q1.elim .inl fun q=>.inr (.inl (by omega)))]<;>rfl)
 refine go0 [] h fun _ _ h=>?_
 refine go_loop (Int) (fun i=>⟨[(5,ep 0),(7,en i)],[(0,some (.box 29 [.own 1,.own 2])),(1,some (.ar (.list .int) T)),(2,some (.ar (.list .int) S))],3⟩) (fun i=>0<=i/\i<=(S.length:Int)/\∀j:Nat,(j:Int)<i->¬((60:Nat):Int)<((S.getD j []).length:Int)) (fun i=>((S.length:Int)-i).toNat) (0) (rk [8197,3,4]) h ⟨Int.le_refl _,Int.natCast_nonneg _,fun j hj=>by omega⟩ fun i _ _ _ hK1 hI h=>?_
 obtain⟨i0,i1,i2⟩:=hI
 refine go0 [] h fun _ _ h=>?_
 refine go_if h (fun(q2:i<(S.length:Int))=>?_) (fun(q2:¬(i<(S.length:Int)))=>?_)
 .refine go (pr:=(Bnd i S.length)) [] h bx fun _ _ h=>?_
  refine go_if h (fun(q3:(60:Int)<((S.getD i.toNat []).length:Int))=>?_) (fun(q3:¬((60:Int)<((S.getD i.toNat []).length:Int)))=>?_)
  .refine go0 [] h fun _ _ h=>?_
   exact out (((0:Int):Int),()) h (by show _=(sm8 n E V L T S,());unfold sm8;rw[if_pos (.inr (.inr (long_yes i0 (by omega) (by have:=q3;omega))))]<;>rfl)
  refine go (pr:=(InR .i64 (i+1))) [] h r64 fun _ _ h=>?_
  exact lp_ (hK1 (i+1) (ir 3) h ⟨by omega,by omega,fun j hj=>if z:(j:Int)<i then i2 j z else by rw[show j=i.toNat by omega];have:=q3;omega⟩ (by omega))
 refine go0 [] h fun _ _ h=>?_
 exact out (((1:Int):Int),()) h (by show _=(sm8 n E V L T S,());unfold sm8;rw[if_neg (by rintro(q|q|q);exact q1.1 q;(have:=q1.2;omega);rw[long_no (by omega) i2] at q;cases q)]<;>rfl)
def C_sm8:Con Tryz.prog:=plain sm8_c
theorem sm26_c:ConOk Tryz.prog 8 [(false,(.pair .int (.pair (.list .str) (.pair (.list (.pair .str (.pair .int edT))) (.pair ptT (.pair (.list (.list .int)) (.list (.list .int))))))))] [.int] (fun _=>True) (fun x=>(sm26 (show List ByteArray from x.1.2.1) (show List (ByteArray×Int×Int×Int) from x.1.2.2.1) (J_ x.1.2.2.2.1.1) (J_ x.1.2.2.2.1.2) (K_ x.1.2.2.2.2.1) (K_ x.1.2.2.2.2.2),())):=by
 refine con_of Tryz.f8 53 [C_sm8] Tryz.func8 fun o x hd _ _ h=>?_
 obtain⟨⟨(K:Int),⟨(W:List ByteArray),⟨(E:List (ByteArray×Int×Int×Int)),⟨⟨(V:List Int),(L:List Int)⟩,⟨(T:List (List Int)),(S:List (List Int))⟩⟩⟩⟩⟩,_⟩:=x
 have hl0:(W.length:Int)<=9223372036854775807:=lenAt h 0 (t:=.str) (l:=W)
 have hl1:(E.length:Int)<=9223372036854775807:=lenAt h 1 (t:=(.pair .str (.pair .int edT))) (l:=E)
 have hl2:=lnI h 2 V
 have hl3:=lnI h 3 L
 have hl4:=lnL h 4 T
 have hl5:=lnL h 5 S
 have hn:inR 0:=by decide
 refine go (pr:=((¬((40:Int)<(W.length:Int)))/\(¬((40:Int)<(E.length:Int))))->(inR (0:Int))) [] h (fun _=>hn) fun _ _ h=>?_
 refine go_if h (fun(q1:(((40:Int)<(W.length:Int))\/((40:Int)<(E.length:Int)))\/(sm8 (0:Int) [] V L T S=0))=>?_) (fun(q1:((¬((40:Int)<(W.length:Int)))/\(¬((40:Int)<(E.length:Int))))/\(¬(sm8 (0:Int) [] V L T S=0)))=>?_)
 .refine go0 [] h fun _ _ h=>?_
  exact out (((0:Int):Int),()) h (by show _=(sm26 W E V L T S,());unfold sm26;rw[if_pos q1]<;>rfl)
 have hc0:¬(((40:Int)<(W.length:Int)\/(40:Int)<(E.length:Int))\/sm8 0 [] V L T S=0):=by intro z;have q:=q1;rcases z with(z|z)|z;exact q.1.1 z;exact q.1.2 z;exact q.2 z
 refine go0 [] h fun _ _ h=>?_
 refine go_loop (Int) (fun i=>⟨[(1,ep 0),(3,en i)],[(0,some (.box 31 [.v (.int .i64 K),.own 1,.own 2,.own 3,.own 4,.own 5,.own 6])),(1,some (.ar .str W)),(2,some (.ar (.pair .str (.pair .int edT)) E)),(3,some (.ar .int V)),(4,some (.ar .int L)),(5,some (.ar (.list .int) T)),(6,some (.ar (.list .int) S))],7⟩) (fun i=>0<=i/\i<=(W.length:Int)/\∀j:Nat,(j:Int)<i->¬(200:Int)<((W.getD j ⟨#[]⟩).size:Int)) (fun i=>((W.length:Int)-i).toNat) (0) (rk [6,0,1,2,3,4,5]) h ⟨Int.le_refl _,Int.natCast_nonneg _,fun j hj=>by omega⟩ fun i _ _ _ hK1 hI h=>?_
 obtain⟨i0,i1,i2⟩:=hI
 refine go0 [] h fun _ _ h=>?_
 refine go_if h (fun(q2:i<(W.length:Int))=>?_) (fun(q2:¬(i<(W.length:Int)))=>?_)
 .refine go (pr:=(Bnd i W.length)) [] h bx fun _ _ h=>?_
  refine go_if h (fun(q3:(200:Int)<((W.getD i.toNat ⟨#[]⟩).size:Int))=>?_) (fun(q3:¬((200:Int)<((W.getD i.toNat ⟨#[]⟩).size:Int)))=>?_)
  .refine go0 [] h fun _ _ h=>?_
   exact out (((0:Int):Int),()) h (by show _=(sm26 W E V L T S,());unfold sm26;rw[if_neg hc0,if_pos (longS_yes i0 q2 q3)]<;>rfl)
  refine go (pr:=(InR .i64 (i+1))) [] h r64 fun _ _ h=>?_
  exact lp_ (hK1 (i+1) (ir 7) h ⟨by omega,by omega,fun j hj=>if z:(j:Int)<i then i2 j z else by rw[show j=i.toNat by omega];exact q3⟩ (by omega))
 have hw:=longS_no (N:=200) q2 i2
 refine go0 [] h fun _ _ h=>?_
 refine go_loop (Int) (fun k=>⟨[(1,ep 0),(4,en k)],[(0,some (.box 31 [.v (.int .i64 K),.own 1,.own 2,.own 3,.own 4,.own 5,.own 6])),(1,some (.ar .str W)),(2,some (.ar (.pair .str (.pair .int edT)) E)),(3,some (.ar .int V)),(4,some (.ar .int L)),(5,some (.ar (.list .int) T)),(6,some (.ar (.list .int) S))],7⟩) (fun k=>0<=k/\k<=(E.length:Int)/\∀j:Nat,(j:Int)<k->¬(200:Int)<((E.getD j ln0).1.size:Int)) (fun k=>((E.length:Int)-k).toNat) (0) (ir 7) h ⟨Int.le_refl _,Int.natCast_nonneg _,fun j hj=>by omega⟩ fun k _ _ _ hK2 hI h=>?_
 obtain⟨k0,k1,k2⟩:=hI
 refine go0 [] h fun _ _ h=>?_
 refine go_if h (fun(q4:k<(E.length:Int))=>?_) (fun(q4:¬(k<(E.length:Int)))=>?_)
 .refine go (pr:=(Bnd k E.length)) [] h bx fun _ _ h=>?_
  refine go_if h (fun(q5:(200:Int)<(((E.getD k.toNat (⟨#[]⟩,(0,(0,0)))).1).size:Int))=>?_) (fun(q5:¬((200:Int)<(((E.getD k.toNat (⟨#[]⟩,(0,(0,0)))).1).size:Int)))=>?_)
  .refine go0 [] h fun _ _ h=>?_
   exact out (((0:Int):Int),()) h (by show _=(sm26 W E V L T S,());unfold sm26;rw[if_neg hc0,hw,if_neg (by decide),if_pos (longN_yes k0 q4 q5)]<;>rfl)
  refine go (pr:=(InR .i64 (k+1))) [] h r64 fun _ _ h=>?_
  exact lp_ (hK2 (k+1) (ir 7) h ⟨by omega,by omega,fun j hj=>if z:(j:Int)<k then k2 j z else by rw[show j=k.toNat by omega];exact q5⟩ (by omega))
 refine go0 [] h fun _ _ h=>?_
 exact out (((1:Int):Int),()) h (by show _=(sm26 W E V L T S,());unfold sm26;rw[if_neg hc0,hw,if_neg (by decide),longN_no (N:=200) q4 k2,if_neg (by decide)]<;>rfl)
def C_sm26:Con Tryz.prog:=plain sm26_c
theorem rsame4_c:ConOk Tryz.prog 25 [(false,ptT),(false,ptT)] [.bool] (fun _=>True) (fun x=>((decide ((J_ x.1.1)=(J_ x.2.1.1)) && decide ((J_ x.1.2)=(J_ x.2.1.2))),())):=by
 refine con_of Tryz.f25 17 [C_requal] Tryz.func25 fun o x hd _ _ h=>?_
 obtain⟨⟨(V:List Int),(L:List Int)⟩,⟨(V2:List Int),(L2:List Int)⟩,_⟩:=x
 have hl0:=lnI h 0 V
 have hl1:=lnI h 1 L
 have hl2:=lnI h 2 V2
 have hl3:=lnI h 3 L2
 refine go (pr:=True/\(((decide (V=V2))=true)->True)) [] h ⟨tv,fun _=>trivial⟩ fun _ _ h=>?_
 exact out (((decide (V=V2)) && (decide (L=L2)):Bool),()) h rfl
def C_rsame4:Con Tryz.prog:=plain rsame4_c
theorem req6_c:ConOk Tryz.prog 26 [(false,(.list (.list .int))),(false,(.list (.list .int)))] [.bool] (fun _=>True) (fun x=>(decide ((K_ x.1)=(K_ x.2.1)),())):=by
 refine con_of Tryz.f26 27 [C_requal] Tryz.func26 fun o x hd _ _ h=>?_
 obtain⟨(l:List (List Int)),(m:List (List Int)),_⟩:=x
 have hl0:=lnL h 0 l
 have hl1:=lnL h 1 m
 refine go0 [] h fun _ _ h=>?_
 refine go_if h (fun(q1:¬((l.length:Int)=(m.length:Int)))=>?_) (fun(q1:(l.length:Int)=(m.length:Int))=>?_)
 .refine go0 [] h fun _ _ h=>?_
  exact out ((false:Bool),()) h (by rw[decide_eq_false (p:=l=m) (fun e=>q1 (by rw[e]))]<;>rfl)
 have hle:=q1
 refine go0 [] h fun _ _ h=>?_
 refine go_loop (Int) (fun i=>⟨[(0,eo 0),(1,eo 1),(5,en i)],[(0,some (.ar (.list .int) l)),(1,some (.ar (.list .int) m))],2⟩) (fun i=>0<=i/\i<=(l.length:Int)/\∀j:Nat,(j:Int)<i->l.getD j []=m.getD j []) (fun i=>((l.length:Int)-i).toNat) (0) (ir 2) h ⟨Int.le_refl _,Int.natCast_nonneg _,fun j hj=>by omega⟩ fun i _ _ _ hK1 hI h=>?_
 obtain⟨i0,i1,i2⟩:=hI
 refine go0 [] h fun _ _ h=>?_
 refine go_if h (fun(q2:i<(l.length:Int))=>?_) (fun(q2:¬(i<(l.length:Int)))=>?_)
 .refine go (pr:=(Bnd i l.length)/\(Bnd i m.length)/\True) [] h ⟨bx,bx,tv⟩ fun _ _ h=>?_
  refine go_if h (fun(q3:(decide ((l.getD i.toNat [])=(m.getD i.toNat [])))=false)=>?_) (fun(q3:(decide ((l.getD i.toNat [])=(m.getD i.toNat [])))=true)=>?_)
  .refine go0 [] h fun _ _ h=>?_
   exact out ((false:Bool),()) h (by rw[eqLL_no i0 (of_decide_eq_false q3)]<;>rfl)
  refine go (pr:=(InR .i64 (i+1))) [] h r64 fun _ _ h=>?_
  exact lp_ (hK1 (i+1) (ir 2) h ⟨by omega,by omega,fun j hj=>if z:(j:Int)<i then i2 j z else by rw[show j=i.toNat by omega];exact of_decide_eq_true q3⟩ (by omega))
 refine go0 [] h fun _ _ h=>?_
 exact out ((true:Bool),()) h (by rw[eqLL_yes (by omega) q2 i2]<;>rfl)
def C_req6:Con Tryz.prog:=plain req6_c
theorem rpair_c:ConOk Tryz.prog 23 [(false,(.pair .int (.pair (.list .str) (.pair (.list (.pair .str (.pair .int edT))) (.pair ptT (.pair (.list (.list .int)) (.list (.list .int))))))))] [(.pair grT (.pair grT (.list .int))),.int] (fun x=>(show List (ByteArray×Int×Int×Int) from x.1.2.2.1).length<=1000000/\(J_ x.1.2.2.2.1.1).length<=1000000/\(J_ x.1.2.2.2.1.2).length<=1000000/\szLL (K_ x.1.2.2.2.2.1)/\szLL (K_ x.1.2.2.2.2.2)) (fun x=>((pairF (I_ x.1.1) (show List ByteArray from x.1.2.1) (show List (ByteArray×Int×Int×Int) from x.1.2.2.1) (J_ x.1.2.2.2.1.1) (J_ x.1.2.2.2.1.2) (K_ x.1.2.2.2.2.1) (K_ x.1.2.2.2.2.2)).1,(pairF (I_ x.1.1) (show List ByteArray from x.1.2.1) (show List (ByteArray×Int×Int×Int) from x.1.2.2.1) (J_ x.1.2.2.2.1.1) (J_ x.1.2.2.2.1.2) (K_ x.1.2.2.2.2.1) (K_ x.1.2.2.2.2.2)).2,())):=by
 refine con_of Tryz.f23 112 [] Tryz.func23 fun o x hd _ _ h=>?_
 obtain⟨⟨(K:Int),⟨(W:List ByteArray),⟨(E:List (ByteArray×Int×Int×Int)),⟨⟨(V:List Int),(L:List Int)⟩,⟨(T:List (List Int)),(S:List (List Int))⟩⟩⟩⟩⟩,_⟩:=x
 have hl0:(W.length:Int)<=9223372036854775807:=lenAt h 0 (t:=.str) (l:=W)
 have hl1:(E.length:Int)<=9223372036854775807:=lenAt h 1 (t:=(.pair .str (.pair .int edT))) (l:=E)
 have hl2:=lnI h 2 V
 have hl3:=lnI h 3 L
 have hl4:=lnL h 4 T
 have hl5:=lnL h 5 S
 change E.length<=1000000/\V.length<=1000000/\L.length<=1000000/\szLL T/\szLL S at hd
 obtain⟨hE,hV,hL,hT,hS⟩:=hd
 have hT1:=hT.1
 have hS1:=hS.1
 refine go0 [] h fun _ _ h=>?_
 refine go_if h (fun(q1:¬(K=1))=>?_) (fun(q1:K=1)=>?_)
 .refine go0 [] h fun _ _ h=>?_
  exact out (((((0:Int),[]),(((0:Int),[]),[])):(Int×List (Int×Int))×(Int×List (Int×Int))×List Int),((16:Int):Int),()) h (by rw[pairF_kind q1]<;>rfl)
 refine go0 [] h fun _ _ h=>?_
 refine go_loop4 Int (List (Int×Int)) (List (Int×Int)) (List Int) (fun i pa pb ps=>⟨[(1,ep 0),(2,ep 1),(4,ep 2),(5,en i)],[(0,some (.box 31 [.v (.int .i64 K),.own 3,.own 4,.own 5,.own 6,.own 7,.own 8])),(1,some (.box 63 [.v (.int .i64 0),.v (.slice none 0 0),.v (.int .i64 0),.v (.slice none 0 0),.v (.slice none 0 0)])),(2,some (.box 63 [.v (.int .i64 (W.length:Int)),.own 9,.v (.int .i64 (W.length:Int)),.own 10,.own 11])),(3,some (.ar .str W)),(4,some (.ar (.pair .str (.pair .int edT)) E)),(5,some (.ar .int V)),(6,some (.ar .int L)),(7,some (.ar (.list .int) T)),(8,some (.ar (.list .int) S)),(9,some (.row 70 edT pa)),(10,some (.row 70 edT pb)),(11,some (.row 3 .int ps))],12⟩) (fun i pa pb ps=>0<=i/\i<=(E.length:Int)/\pa=(pGo (E.take i.toNat)).1/\pb=(pGo (E.take i.toNat)).2.1/\ps=(pGo (E.take i.toNat)).2.2/\∀j:Nat,(j:Int)<i->okIn (E.getD j ln0).2.2.2) (fun i pa pb ps=>((E.length:Int)-i).toNat) 0 [] [] [] [(0,some 6),(1,some 4102),(2,some 61446),(3,some 0),(4,some 1),(5,some 2),(6,some 3),(7,some 4),(8,some 5),(9,none),(10,none),(11,none)] h ⟨Int.le_refl _,Int.natCast_nonneg _,rfl,rfl,rfl,fun j hj=>by omega⟩ fun i pa pb ps _ _ _ hK1 hI h=>?_
 obtain⟨h0,h1,h2,h3,h4,h5⟩:=hI
 refine go0 [] h fun _ _ h=>?_
 refine go_if h (fun(q2:i<(E.length:Int))=>?_) (fun(q2:¬(i<(E.length:Int)))=>?_)
 .have hol:=pGo_lenT E i
  rw[<-h2,<-h3,<-h4] at hol
  obtain⟨hoa,hob,hos⟩:=hol
  refine go (pr:=(Bnd i E.length)) [] h bx fun _ _ h=>?_
  refine go_if h (fun(q3:((((E.getD i.toNat (⟨#[]⟩,(0,(0,0)))).2).2).2<0)\/((2:Int)<(((E.getD i.toNat (⟨#[]⟩,(0,(0,0)))).2).2).2))=>?_) (fun(q3:(¬((((E.getD i.toNat (⟨#[]⟩,(0,(0,0)))).2).2).2<0))/\(¬((2:Int)<(((E.getD i.toNat (⟨#[]⟩,(0,(0,0)))).2).2).2)))=>?_)
  .refine go0 [] h fun _ _ h=>?_
   exact out (((((0:Int),[]),(((0:Int),[]),[])):(Int×List (Int×Int))×(Int×List (Int×Int))×List Int),((1:Int):Int),()) h (by rw[pairF_in q1 h0 q2 (fun z=>by have z1:0<=(E.getD i.toNat (⟨#[]⟩,(0,(0,0)))).2.2.2/\(E.getD i.toNat (⟨#[]⟩,(0,(0,0)))).2.2.2<=2:=z;omega)]<;>rfl)
  refine go0 [] h fun _ _ h=>?_
  refine go_if h (fun(q4:(((E.getD i.toNat (⟨#[]⟩,(0,(0,0)))).2).2).2<2)=>?_) (fun(q4:¬((((E.getD i.toNat (⟨#[]⟩,(0,(0,0)))).2).2).2<2))=>?_)
  .have hl2:(ps++([-1]:List Int)).length=ps.length+1:=by simp
   refine go (pr:=(pa.length+([(((E.getD i.toNat (⟨#[]⟩,(0,(0,0)))).2).1,(((E.getD i.toNat (⟨#[]⟩,(0,(0,0)))).2).2).1)]:List (Int×Int)).length<=2147483647)/\(ps.length+([(-1:Int)]:List Int).length<=2147483647)) [] h ⟨ln,ln⟩ fun _ _ h=>?_
   refine go_if h (fun(q5:(((E.getD i.toNat (⟨#[]⟩,(0,(0,0)))).2).2).2=0)=>?_) (fun(q5:¬((((E.getD i.toNat (⟨#[]⟩,(0,(0,0)))).2).2).2=0))=>?_)
   .refine go (pr:=(InR .i64 (((ps++([(-1:Int)]:List Int)).length:Int)-1))/\(Bnd (((ps++([(-1:Int)]:List Int)).length:Int)-1) (ps++([(-1:Int)]:List Int)).length)/\(Bnd (((ps++([(-1:Int)]:List Int)).length:Int)-1) (ps++([(-1:Int)]:List Int)).length)) [] h ⟨r64,bx,bx⟩ fun _ _ h=>?_
    refine go_if h (fun(q6:¬((((E.getD i.toNat (⟨#[]⟩,(0,(0,0)))).2).2).2=1))=>?_) (fun(q6:(((E.getD i.toNat (⟨#[]⟩,(0,(0,0)))).2).2).2=1)=>?_)
    .refine go (pr:=(pb.length+([(((E.getD i.toNat (⟨#[]⟩,(0,(0,0)))).2).1,(((E.getD i.toNat (⟨#[]⟩,(0,(0,0)))).2).2).1)]:List (Int×Int)).length<=2147483647)/\(InR .i64 (i+1))) [] h ⟨ln,r64⟩ fun _ _ h=>?_
     exact lp_ (hK1 (i+1) (pa++([(((E.getD i.toNat (⟨#[]⟩,(0,(0,0)))).2).1,(((E.getD i.toNat (⟨#[]⟩,(0,(0,0)))).2).2).1)]:List (Int×Int))) (pb++([(((E.getD i.toNat (⟨#[]⟩,(0,(0,0)))).2).1,(((E.getD i.toNat (⟨#[]⟩,(0,(0,0)))).2).2).1)]:List (Int×Int))) ((ps++([(-1:Int)]:List Int)).set (((ps++([(-1:Int)]:List Int)).length:Int)-1).toNat (pb.length:Int)) (rk [0,1,2,3,4,5,6,7,8,131084,282636,159756]) h ⟨by omega,by omega,by rw[pGo_take h0 (by omega),pStep_0 q5,h2],by rw[pGo_take h0 (by omega),pStep_0 q5,h3],by rw[pGo_take h0 (by omega),pStep_0 q5,h4,set_last,h3],fun j hj=>if z:(j:Int)<i then h5 j z else by rw[show j=i.toNat by omega];show 0<=(E.getD i.toNat (⟨#[]⟩,(0,(0,0)))).2.2.2/\(E.getD i.toNat (⟨#[]⟩,(0,(0,0)))).2.2.2<=2;omega⟩ (by omega))
    refine go (pr:=(InR .i64 (i+1))) [] h r64 fun _ _ h=>?_
    exact lp_ (hK1 (i+1) (pa++([(((E.getD i.toNat (⟨#[]⟩,(0,(0,0)))).2).1,(((E.getD i.toNat (⟨#[]⟩,(0,(0,0)))).2).2).1)]:List (Int×Int))) pb ((ps++([(-1:Int)]:List Int)).set (((ps++([(-1:Int)]:List Int)).length:Int)-1).toNat (pb.length:Int)) (rk [0,1,2,3,4,5,6,7,8,131084,10,159756]) h (by exfalso;omega) (by omega))
   refine go0 [] h fun _ _ h=>?_
   refine go_if h (fun(q7:¬((((E.getD i.toNat (⟨#[]⟩,(0,(0,0)))).2).2).2=1))=>?_) (fun(q7:(((E.getD i.toNat (⟨#[]⟩,(0,(0,0)))).2).2).2=1)=>?_)
   .refine go (pr:=(pb.length+([(((E.getD i.toNat (⟨#[]⟩,(0,(0,0)))).2).1,(((E.getD i.toNat (⟨#[]⟩,(0,(0,0)))).2).2).1)]:List (Int×Int)).length<=2147483647)/\(InR .i64 (i+1))) [] h ⟨ln,r64⟩ fun _ _ h=>?_
    exact lp_ (hK1 (i+1) (pa++([(((E.getD i.toNat (⟨#[]⟩,(0,(0,0)))).2).1,(((E.getD i.toNat (⟨#[]⟩,(0,(0,0)))).2).2).1)]:List (Int×Int))) (pb++([(((E.getD i.toNat (⟨#[]⟩,(0,(0,0)))).2).1,(((E.getD i.toNat (⟨#[]⟩,(0,(0,0)))).2).2).1)]:List (Int×Int))) (ps++([(-1:Int)]:List Int)) (rk [0,1,2,3,4,5,6,7,8,131084,233484,159756]) h (by exfalso;omega) (by omega))
   refine go (pr:=(InR .i64 (i+1))) [] h r64 fun _ _ h=>?_
   exact lp_ (hK1 (i+1) (pa++([(((E.getD i.toNat (⟨#[]⟩,(0,(0,0)))).2).1,(((E.getD i.toNat (⟨#[]⟩,(0,(0,0)))).2).2).1)]:List (Int×Int))) pb (ps++([(-1:Int)]:List Int)) (rk [0,1,2,3,4,5,6,7,8,131084,10,159756]) h ⟨by omega,by omega,by rw[pGo_take h0 (by omega),pStep_1 q7,h2],by rw[pGo_take h0 (by omega),pStep_1 q7,h3],by rw[pGo_take h0 (by omega),pStep_1 q7,h4],fun j hj=>if z:(j:Int)<i then h5 j z else by rw[show j=i.toNat by omega];show 0<=(E.getD i.toNat (⟨#[]⟩,(0,(0,0)))).2.2.2/\(E.getD i.toNat (⟨#[]⟩,(0,(0,0)))).2.2.2<=2;omega⟩ (by omega))
  refine go0 [] h fun _ _ h=>?_
  refine go_if h (fun(q8:(((E.getD i.toNat (⟨#[]⟩,(0,(0,0)))).2).2).2=0)=>?_) (fun(q8:¬((((E.getD i.toNat (⟨#[]⟩,(0,(0,0)))).2).2).2=0))=>?_)
  .refine go (pr:=(InR .i64 ((ps.length:Int)-1))/\(Bnd ((ps.length:Int)-1) ps.length)/\(Bnd ((ps.length:Int)-1) ps.length)) [] h ⟨r64,bx,bx⟩ fun _ _ h=>?_
   refine go_if h (fun(q9:¬((((E.getD i.toNat (⟨#[]⟩,(0,(0,0)))).2).2).2=1))=>?_) (fun(q9:(((E.getD i.toNat (⟨#[]⟩,(0,(0,0)))).2).2).2=1)=>?_)
   .refine go (pr:=(pb.length+([(((E.getD i.toNat (⟨#[]⟩,(0,(0,0)))).2).1,(((E.getD i.toNat (⟨#[]⟩,(0,(0,0)))).2).2).1)]:List (Int×Int)).length<=2147483647)/\(InR .i64 (i+1))) [] h ⟨ln,r64⟩ fun _ _ h=>?_
    exact lp_ (hK1 (i+1) pa (pb++([(((E.getD i.toNat (⟨#[]⟩,(0,(0,0)))).2).1,(((E.getD i.toNat (⟨#[]⟩,(0,(0,0)))).2).2).1)]:List (Int×Int))) (ps.set ((ps.length:Int)-1).toNat (pb.length:Int)) (rk [0,1,2,3,4,5,6,7,8,9,204812,11]) h (by exfalso;omega) (by omega))
   refine go (pr:=(InR .i64 (i+1))) [] h r64 fun _ _ h=>?_
   exact lp_ (hK1 (i+1) pa pb (ps.set ((ps.length:Int)-1).toNat (pb.length:Int)) (ir 12) h (by exfalso;omega) (by omega))
  refine go0 [] h fun _ _ h=>?_
  refine go_if h (fun(q10:¬((((E.getD i.toNat (⟨#[]⟩,(0,(0,0)))).2).2).2=1))=>?_) (fun(q10:(((E.getD i.toNat (⟨#[]⟩,(0,(0,0)))).2).2).2=1)=>?_)
  .refine go (pr:=(pb.length+([(((E.getD i.toNat (⟨#[]⟩,(0,(0,0)))).2).1,(((E.getD i.toNat (⟨#[]⟩,(0,(0,0)))).2).2).1)]:List (Int×Int)).length<=2147483647)/\(InR .i64 (i+1))) [] h ⟨ln,r64⟩ fun _ _ h=>?_
   exact lp_ (hK1 (i+1) pa (pb++([(((E.getD i.toNat (⟨#[]⟩,(0,(0,0)))).2).1,(((E.getD i.toNat (⟨#[]⟩,(0,(0,0)))).2).2).1)]:List (Int×Int))) ps (rk [0,1,2,3,4,5,6,7,8,9,155660,11]) h ⟨by omega,by omega,by rw[pGo_take h0 (by omega),pStep_2 q8 q10,h2],by rw[pGo_take h0 (by omega),pStep_2 q8 q10,h3],by rw[pGo_take h0 (by omega),pStep_2 q8 q10,h4],fun j hj=>if z:(j:Int)<i then h5 j z else by rw[show j=i.toNat by omega];show 0<=(E.getD i.toNat (⟨#[]⟩,(0,(0,0)))).2.2.2/\(E.getD i.toNat (⟨#[]⟩,(0,(0,0)))).2.2.2<=2;omega⟩ (by omega))
  refine go (pr:=(InR .i64 (i+1))) [] h r64 fun _ _ h=>?_
  exact lp_ (hK1 (i+1) pa pb ps (ir 12) h (by exfalso;omega) (by omega))
 refine go (pr:=(InR .i64 ((V.length:Int)+(L.length:Int)))/\(InR .i64 (((V.length:Int)+(L.length:Int))+(T.length:Int)))/\(InR .i64 ((((V.length:Int)+(L.length:Int))+(T.length:Int))+(S.length:Int)))) [] h ⟨r64,r64,r64⟩ fun _ _ h=>?_
 refine go_if h (fun(q11:(0:Int)<(((V.length:Int)+(L.length:Int))+(T.length:Int))+(S.length:Int))=>?_) (fun(q11:¬((0:Int)<(((V.length:Int)+(L.length:Int))+(T.length:Int))+(S.length:Int)))=>?_)
 .refine go0 [] h fun _ _ h=>?_
  exact out (((((0:Int),[]),(((0:Int),[]),[])):(Int×List (Int×Int))×(Int×List (Int×Int))×List Int),((1:Int):Int),()) h (by rw[pairF_held q1 q11]<;>rfl)
 refine go0 [] h fun _ _ h=>?_
 exact out (((((W.length:Int),pa),(((W.length:Int),pb),ps)):(Int×List (Int×Int))×(Int×List (Int×Int))×List Int),((0:Int):Int),()) h (by rw[pairF_ok q1 q11 q2 h5,h2,h3,h4,tk_all q2]<;>rfl)
noncomputable def C_rpair:Con Tryz.prog:=plain rpair_c
theorem fileCases_any (w:World)(K:Int)(W:List ByteArray)(E:List (ByteArray×Int×Int×Int))(V:List Int)(L:List Int)(T:List (List Int))(S:List (List Int))(v0:Value)(g0:Rd (· <w.heap.size) w v0 ((K,(W,(E,((V,L),(T,S))))):Int×(List ByteArray)×(List (ByteArray×Int×Int×Int))×((List Int)×List Int)×(List (List Int))×List (List Int))):Calls Tryz.prog 6 [v0].toArray w (Ans (.bool true) w):=by
 refine ans_bool1 (con_ofR Tryz.f6 206 [C_awake,C_case,C_of,C_pair,C_rcase,C_req6,C_requal,C_rpair,C_rsame4,C_sm26] (ags:=[(true,(.pair .int (.pair (.list .str) (.pair (.list (.pair .str (.pair .int edT))) (.pair ptT (.pair (.list (.list .int)) (.list (.list .int))))))))]) (rs:=[.bool]) [] (org1 w) [v0] ((K,(W,(E,((V,L),(T,S))))),()) ⟨g0,tv⟩ Tryz.func6 fun _ _ h=>?_)
 have hl0:(W.length:Int)<=9223372036854775807:=lenAt h 0 (t:=.str) (l:=W)
 have hl1:(E.length:Int)<=9223372036854775807:=lenAt h 1 (t:=(.pair .str (.pair .int edT))) (l:=E)
 have hl2:=lnI h 2 V
 have hl3:=lnI h 3 L
 have hl4:=lnL h 4 T
 have hl5:=lnL h 5 S
 refine go (pr:=True/\((true=true)->True)) [] h ⟨tv,fun _=>trivial⟩ fun _ _ h=>?_
 refine go_if h (fun(q1:(true=false)\/(sm26 W E V L T S=0))=>?_) (fun(q1:(true=true)/\(¬(sm26 W E V L T S=0)))=>?_)
 .refine go (pr:=True) [] h tv fun _ _ h=>?_
  exact out ((true:Bool),()) h rfl
 obtain⟨hW,hE,hV,hL,hT,hS,hw1,hw2⟩:=sm26_of q1.2
 have hcl:=caseF_len K W E V L T S
 obtain⟨hpa,hpb⟩:=pairF_len K W E V L T S
 replace hE:E.length<=1000000:=by omega
 replace hV:V.length<=1000000:=by omega
 replace hL:L.length<=1000000:=by omega
 refine go (pr:=(E.length<=1000000)/\(E.length<=1000000/\V.length<=1000000/\L.length<=1000000/\szLL T/\szLL S)/\(E.length<=1000000/\V.length<=1000000/\L.length<=1000000/\szLL T/\szLL S)/\(E.length<=1000000)/\(E.length<=1000000/\V.length<=1000000/\L.length<=1000000/\szLL T/\szLL S)/\(E.length<=1000000/\V.length<=1000000/\L.length<=1000000/\szLL T/\szLL S)/\(((((((caseF K W E V L T S).2=(caseF K W E V L T S).2)/\((pairF K W E V L T S).2=(pairF K W E V L T S).2))/\((((((caseF K W E V L T S).1).1).2).length:Int)=(((((caseF K W E V L T S).1).1).2).length:Int)))/\((((((pairF K W E V L T S).1).1).2).length:Int)=(((((pairF K W E V L T S).1).1).2).length:Int)))/\(((((((pairF K W E V L T S).1).2).1).2).length:Int)=((((((pairF K W E V L T S).1).2).1).2).length:Int)))->True)) [] h ⟨hE,⟨hE,hV,hL,hT,hS⟩,⟨hE,hV,hL,hT,hS⟩,hE,⟨hE,hV,hL,hT,hS⟩,⟨hE,hV,hL,hT,hS⟩,fun _=>trivial⟩ fun _ _ h=>?_
 refine go_if h (fun(q2:((((((((¬((caseF K W E V L T S).2=(caseF K W E V L T S).2))\/(¬((pairF K W E V L T S).2=(pairF K W E V L T S).2)))\/(¬((((((caseF K W E V L T S).1).1).2).length:Int)=(((((caseF K W E V L T S).1).1).2).length:Int))))\/(¬((((((pairF K W E V L T S).1).1).2).length:Int)=(((((pairF K W E V L T S).1).1).2).length:Int))))\/(¬(((((((pairF K W E V L T S).1).2).1).2).length:Int)=((((((pairF K W E V L T S).1).2).1).2).length:Int))))\/((decide ((((pairF K W E V L T S).1).2).2=(((pairF K W E V L T S).1).2).2))=false))\/(¬((((caseF K W E V L T S).1).1).1=(((caseF K W E V L T S).1).1).1)))\/(¬((((pairF K W E V L T S).1).1).1=(((pairF K W E V L T S).1).1).1)))\/(¬(((((pairF K W E V L T S).1).2).1).1=((((pairF K W E V L T S).1).2).1).1)))=>?_) (fun(q2:(((((((((caseF K W E V L T S).2=(caseF K W E V L T S).2)/\((pairF K W E V L T S).2=(pairF K W E V L T S).2))/\((((((caseF K W E V L T S).1).1).2).length:Int)=(((((caseF K W E V L T S).1).1).2).length:Int)))/\((((((pairF K W E V L T S).1).1).2).length:Int)=(((((pairF K W E V L T S).1).1).2).length:Int)))/\(((((((pairF K W E V L T S).1).2).1).2).length:Int)=((((((pairF K W E V L T S).1).2).1).2).length:Int)))/\((decide ((((pairF K W E V L T S).1).2).2=(((pairF K W E V L T S).1).2).2))=true))/\((((caseF K W E V L T S).1).1).1=(((caseF K W E V L T S).1).1).1))/\((((pairF K W E V L T S).1).1).1=(((pairF K W E V L T S).1).1).1))/\(((((pairF K W E V L T S).1).2).1).1=((((pairF K W E V L T S).1).2).1).1))=>?_)
 .exact absurd q2 (by simp)
 refine go0 [] h fun _ _ h=>?_
 refine go_loop (Int) (fun i=>⟨[(3,ep 0),(5,ep 1),(7,ep 2),(9,ep 3),(11,en i)],[(0,some (.box 57 [.v (.int .i64 ((((caseF K W E V L T S).1).1).1)),.own 4,.own 5,.own 6,.own 7,.own 8])),(1,some (.box 57 [.v (.int .i64 ((((caseF K W E V L T S).1).1).1)),.own 9,.own 10,.own 11,.own 12,.own 13])),(2,some (.box 63 [.v (.int .i64 ((((pairF K W E V L T S).1).1).1)),.own 14,.v (.int .i64 (((((pairF K W E V L T S).1).2).1).1)),.own 15,.own 16])),(3,some (.box 63 [.v (.int .i64 ((((pairF K W E V L T S).1).1).1)),.own 17,.v (.int .i64 (((((pairF K W E V L T S).1).2).1).1)),.own 18,.own 19])),(4,some (.ro edT ((((caseF K W E V L T S).1).1).2))),(5,some (.ro .int (((((caseF K W E V L T S).1).2).1).1))),(6,some (.ro .int (((((caseF K W E V L T S).1).2).1).2))),(7,some (.ro (.list .int) (((((caseF K W E V L T S).1).2).2).1))),(8,some (.ro (.list .int) (((((caseF K W E V L T S).1).2).2).2))),(9,some (.ro edT ((((caseF K W E V L T S).1).1).2))),(10,some (.ro .int (((((caseF K W E V L T S).1).2).1).1))),(11,some (.ro .int (((((caseF K W E V L T S).1).2).1).2))),(12,some (.ro (.list .int) (((((caseF K W E V L T S).1).2).2).1))),(13,some (.ro (.list .int) (((((caseF K W E V L T S).1).2).2).2))),(14,some (.ro edT ((((pairF K W E V L T S).1).1).2))),(15,some (.ro edT (((((pairF K W E V L T S).1).2).1).2))),(16,some (.ro .int ((((pairF K W E V L T S).1).2).2))),(17,some (.ro edT ((((pairF K W E V L T S).1).1).2))),(18,some (.ro edT (((((pairF K W E V L T S).1).2).1).2))),(19,some (.ro .int ((((pairF K W E V L T S).1).2).2)))],20⟩) (fun i=>0<=i/\i<=((caseF K W E V L T S).1.1.2.length:Int)) (fun i=>(((caseF K W E V L T S).1.1.2.length:Int)-i).toNat) (0) (rk [61446,94214,131078,163846,45062,45063,45064,45065,45066,77830,77831,77832,77833,77834,114694,114695,114696,147462,147463,147464]) h ⟨Int.le_refl _,Int.natCast_nonneg _⟩ fun i _ _ _ hK1 hI h=>?_
 obtain⟨i0,i1⟩:=hI
 refine go0 [] h fun _ _ h=>?_
 refine go_if h (fun(q3:i<(((((caseF K W E V L T S).1).1).2).length:Int))=>?_) (fun(q3:¬(i<(((((caseF K W E V L T S).1).1).2).length:Int)))=>?_)
 .refine go (pr:=(Bnd i ((((caseF K W E V L T S).1).1).2).length)/\(Bnd i ((((caseF K W E V L T S).1).1).2).length)) [] h ⟨bx,bx⟩ fun _ _ h=>?_
  refine go_if h (fun(q4:(¬((((((caseF K W E V L T S).1).1).2).getD i.toNat (0,0)).1=(((((caseF K W E V L T S).1).1).2).getD i.toNat (0,0)).1))\/(¬((((((caseF K W E V L T S).1).1).2).getD i.toNat (0,0)).2=(((((caseF K W E V L T S).1).1).2).getD i.toNat (0,0)).2)))=>?_) (fun(q4:((((((caseF K W E V L T S).1).1).2).getD i.toNat (0,0)).1=(((((caseF K W E V L T S).1).1).2).getD i.toNat (0,0)).1)/\((((((caseF K W E V L T S).1).1).2).getD i.toNat (0,0)).2=(((((caseF K W E V L T S).1).1).2).getD i.toNat (0,0)).2))=>?_)
  .exact absurd q4 (by simp)
  refine go (pr:=(InR .i64 (i+1))) [] h r64 fun _ _ h=>?_
  exact lp_ (hK1 (i+1) (ir 20) h ⟨by omega,by omega⟩ (by omega))
 refine go0 [] h fun _ _ h=>?_
 refine go_loop (Int) (fun j=>⟨[(3,ep 0),(5,ep 1),(7,ep 2),(9,ep 3),(12,en j)],[(0,some (.box 57 [.v (.int .i64 ((((caseF K W E V L T S).1).1).1)),.own 4,.own 5,.own 6,.own 7,.own 8])),(1,some (.box 57 [.v (.int .i64 ((((caseF K W E V L T S).1).1).1)),.own 9,.own 10,.own 11,.own 12,.own 13])),(2,some (.box 63 [.v (.int .i64 ((((pairF K W E V L T S).1).1).1)),.own 14,.v (.int .i64 (((((pairF K W E V L T S).1).2).1).1)),.own 15,.own 16])),(3,some (.box 63 [.v (.int .i64 ((((pairF K W E V L T S).1).1).1)),.own 17,.v (.int .i64 (((((pairF K W E V L T S).1).2).1).1)),.own 18,.own 19])),(4,some (.ro edT ((((caseF K W E V L T S).1).1).2))),(5,some (.ro .int (((((caseF K W E V L T S).1).2).1).1))),(6,some (.ro .int (((((caseF K W E V L T S).1).2).1).2))),(7,some (.ro (.list .int) (((((caseF K W E V L T S).1).2).2).1))),(8,some (.ro (.list .int) (((((caseF K W E V L T S).1).2).2).2))),(9,some (.ro edT ((((caseF K W E V L T S).1).1).2))),(10,some (.ro .int (((((caseF K W E V L T S).1).2).1).1))),(11,some (.ro .int (((((caseF K W E V L T S).1).2).1).2))),(12,some (.ro (.list .int) (((((caseF K W E V L T S).1).2).2).1))),(13,some (.ro (.list .int) (((((caseF K W E V L T S).1).2).2).2))),(14,some (.ro edT ((((pairF K W E V L T S).1).1).2))),(15,some (.ro edT (((((pairF K W E V L T S).1).2).1).2))),(16,some (.ro .int ((((pairF K W E V L T S).1).2).2))),(17,some (.ro edT ((((pairF K W E V L T S).1).1).2))),(18,some (.ro edT (((((pairF K W E V L T S).1).2).1).2))),(19,some (.ro .int ((((pairF K W E V L T S).1).2).2)))],20⟩) (fun j=>0<=j/\j<=((pairF K W E V L T S).1.1.2.length:Int)) (fun j=>(((pairF K W E V L T S).1.1.2.length:Int)-j).toNat) (0) (ir 20) h ⟨Int.le_refl _,Int.natCast_nonneg _⟩ fun j _ _ _ hK2 hI h=>?_
 obtain⟨j0,j1⟩:=hI
 refine go0 [] h fun _ _ h=>?_
 refine go_if h (fun(q5:j<(((((pairF K W E V L T S).1).1).2).length:Int))=>?_) (fun(q5:¬(j<(((((pairF K W E V L T S).1).1).2).length:Int)))=>?_)
 .refine go (pr:=(Bnd j ((((pairF K W E V L T S).1).1).2).length)/\(Bnd j ((((pairF K W E V L T S).1).1).2).length)) [] h ⟨bx,bx⟩ fun _ _ h=>?_
  refine go_if h (fun(q6:(¬((((((pairF K W E V L T S).1).1).2).getD j.toNat (0,0)).1=(((((pairF K W E V L T S).1).1).2).getD j.toNat (0,0)).1))\/(¬((((((pairF K W E V L T S).1).1).2).getD j.toNat (0,0)).2=(((((pairF K W E V L T S).1).1).2).getD j.toNat (0,0)).2)))=>?_) (fun(q6:((((((pairF K W E V L T S).1).1).2).getD j.toNat (0,0)).1=(((((pairF K W E V L T S).1).1).2).getD j.toNat (0,0)).1)/\((((((pairF K W E V L T S).1).1).2).getD j.toNat (0,0)).2=(((((pairF K W E V L T S).1).1).2).getD j.toNat (0,0)).2))=>?_)
  .exact absurd q6 (by simp)
  refine go (pr:=(InR .i64 (j+1))) [] h r64 fun _ _ h=>?_
  exact lp_ (hK2 (j+1) (ir 20) h ⟨by omega,by omega⟩ (by omega))
 refine go0 [] h fun _ _ h=>?_
 refine go_loop (Int) (fun k=>⟨[(3,ep 0),(5,ep 1),(7,ep 2),(9,ep 3),(13,en k)],[(0,some (.box 57 [.v (.int .i64 ((((caseF K W E V L T S).1).1).1)),.own 4,.own 5,.own 6,.own 7,.own 8])),(1,some (.box 57 [.v (.int .i64 ((((caseF K W E V L T S).1).1).1)),.own 9,.own 10,.own 11,.own 12,.own 13])),(2,some (.box 63 [.v (.int .i64 ((((pairF K W E V L T S).1).1).1)),.own 14,.v (.int .i64 (((((pairF K W E V L T S).1).2).1).1)),.own 15,.own 16])),(3,some (.box 63 [.v (.int .i64 ((((pairF K W E V L T S).1).1).1)),.own 17,.v (.int .i64 (((((pairF K W E V L T S).1).2).1).1)),.own 18,.own 19])),(4,some (.ro edT ((((caseF K W E V L T S).1).1).2))),(5,some (.ro .int (((((caseF K W E V L T S).1).2).1).1))),(6,some (.ro .int (((((caseF K W E V L T S).1).2).1).2))),(7,some (.ro (.list .int) (((((caseF K W E V L T S).1).2).2).1))),(8,some (.ro (.list .int) (((((caseF K W E V L T S).1).2).2).2))),(9,some (.ro edT ((((caseF K W E V L T S).1).1).2))),(10,some (.ro .int (((((caseF K W E V L T S).1).2).1).1))),(11,some (.ro .int (((((caseF K W E V L T S).1).2).1).2))),(12,some (.ro (.list .int) (((((caseF K W E V L T S).1).2).2).1))),(13,some (.ro (.list .int) (((((caseF K W E V L T S).1).2).2).2))),(14,some (.ro edT ((((pairF K W E V L T S).1).1).2))),(15,some (.ro edT (((((pairF K W E V L T S).1).2).1).2))),(16,some (.ro .int ((((pairF K W E V L T S).1).2).2))),(17,some (.ro edT ((((pairF K W E V L T S).1).1).2))),(18,some (.ro edT (((((pairF K W E V L T S).1).2).1).2))),(19,some (.ro .int ((((pairF K W E V L T S).1).2).2)))],20⟩) (fun k=>0<=k/\k<=((pairF K W E V L T S).1.2.1.2.length:Int)) (fun k=>(((pairF K W E V L T S).1.2.1.2.length:Int)-k).toNat) (0) (ir 20) h ⟨Int.le_refl _,Int.natCast_nonneg _⟩ fun k _ _ _ hK3 hI h=>?_
 obtain⟨k0,k1⟩:=hI
 refine go0 [] h fun _ _ h=>?_
 refine go_if h (fun(q7:k<((((((pairF K W E V L T S).1).2).1).2).length:Int))=>?_) (fun(q7:¬(k<((((((pairF K W E V L T S).1).2).1).2).length:Int)))=>?_)
 .refine go (pr:=(Bnd k (((((pairF K W E V L T S).1).2).1).2).length)/\(Bnd k (((((pairF K W E V L T S).1).2).1).2).length)) [] h ⟨bx,bx⟩ fun _ _ h=>?_
  refine go_if h (fun(q8:(¬(((((((pairF K W E V L T S).1).2).1).2).getD k.toNat (0,0)).1=((((((pairF K W E V L T S).1).2).1).2).getD k.toNat (0,0)).1))\/(¬(((((((pairF K W E V L T S).1).2).1).2).getD k.toNat (0,0)).2=((((((pairF K W E V L T S).1).2).1).2).getD k.toNat (0,0)).2)))=>?_) (fun(q8:(((((((pairF K W E V L T S).1).2).1).2).getD k.toNat (0,0)).1=((((((pairF K W E V L T S).1).2).1).2).getD k.toNat (0,0)).1)/\(((((((pairF K W E V L T S).1).2).1).2).getD k.toNat (0,0)).2=((((((pairF K W E V L T S).1).2).1).2).getD k.toNat (0,0)).2))=>?_)
  .exact absurd q8 (by simp)
  refine go (pr:=(InR .i64 (k+1))) [] h r64 fun _ _ h=>?_
  exact lp_ (hK3 (k+1) (ir 20) h ⟨by omega,by omega⟩ (by omega))
 refine go (pr:=True/\(((decide (((((caseF K W E V L T S).1).2).1).1=((((caseF K W E V L T S).1).2).1).1) && decide (((((caseF K W E V L T S).1).2).1).2=((((caseF K W E V L T S).1).2).1).2))=true)->True)/\((((decide (((((caseF K W E V L T S).1).2).1).1=((((caseF K W E V L T S).1).2).1).1) && decide (((((caseF K W E V L T S).1).2).1).2=((((caseF K W E V L T S).1).2).1).2))=true)/\((decide (((((caseF K W E V L T S).1).2).2).1=((((caseF K W E V L T S).1).2).2).1))=true))->True)) [] h ⟨tv,fun _=>trivial,fun _=>trivial⟩ fun _ _ h=>?_
 exact out ((((decide (((((caseF K W E V L T S).1).2).1).1=((((caseF K W E V L T S).1).2).1).1) && decide (((((caseF K W E V L T S).1).2).1).2=((((caseF K W E V L T S).1).2).1).2)) && (decide (((((caseF K W E V L T S).1).2).2).1=((((caseF K W E V L T S).1).2).2).1))) && (decide (((((caseF K W E V L T S).1).2).2).2=((((caseF K W E V L T S).1).2).2).2)):Bool),()) h (by simp<;>rfl)
end Go.Proofs.YtnfdimfepbbbpaaGreatDoor
