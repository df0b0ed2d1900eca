/-
  Texts joined by program: VTF4, VTA4, VTA1, VTA5, VTH1, VTH2, VTA2, VTH6, VTH4, VTH5, VTH3, VTH7, VTH8, VTA6, WkVk, VTL2, VTL3.
-/
import Derived.Test.YtnfdimfepbbbpaaGreatJAuditPlays7
import Derived.Test.YtnfdimfepbbbpaaGreatProg
set_option linter.unusedSimpArgs false
set_option linter.unusedVariables false
set_option maxRecDepth 100000
set_option maxHeartbeats 8000000
namespace Go.Proofs.YtnfdimfepbbbpaaGreat
open Go.RowKit
theorem Qn:aS Tryz.prog 34 [(false,gX),(false,fR),(false,(.pair (.list (.list .int)) (.list (.list .int))))] [.int] (fun x=>bz (I_ x.1.1)/\aO (K_ x.2.2.1.1)/\av (K_ x.2.2.1.1)/\aO (K_ x.2.2.1.2)/\av (K_ x.2.2.1.2)) (fun x=>(bA (I_ x.1.1) (E_ x.1.2) (J_ x.2.1.1) (J_ x.2.1.2) (K_ x.2.2.1.1) (K_ x.2.2.1.2),())):=by
 refine aF Tryz.f34 134 [UZ,TO,XE,Qm,U0,Qh] Tryz.func34 fun o x hd _ _ h=>?_
 obtain⟨⟨(n:Int),(E:List (Int×Int))⟩,⟨(V:List Int),(L:List Int)⟩,⟨(T:List (List Int)),(S:List (List Int))⟩,_⟩:=x
 have e7:=gL h 0 E
 have eZ:=cg h 1 V
 have fS:=cg h 2 L
 have jm:=eP h 3 T
 have tE:=eP h 4 S
 change bz n/\aO T/\av T/\aO S/\av S at hd
 obtain⟨hn,gp,cw,gF,cS⟩:=hd
 have tF:=cS.1
 refine go (pr:=(bz n/\aO T/\av T)) [] h (⟨hn,gp,cw⟩) fun _ _ h=>?_
 refine ag h (fun(q1:¬(fW n E V L T=0))=>?_) (fun(q1:fW n E V L T=0)=>?_)
 .refine aC [] h fun _ _ h=>?_
  exact out ((fW n E V L T:Int),()) h (by rw[kO q1])
 have DV:=q1
 have lU:=bf DV
 obtain⟨gw,hT,hW⟩:=bS lU
 have hP:=fo gw
 obtain⟨jZ,hV,hL,_⟩:=aD gw
 obtain⟨r1,r2,r3,_⟩:=aN jZ
 have zw:=ay hV r1
 have vf:=ay hL (by omega)
 have Jk:=hP.len
 have GK:=hW.len
 have XC:=nV (fun k=>(hP.bd k).1) (P:=(az n E V L))
 have QS:OB (bL E (az n E V L) (aa n E V L T).1 (aa n E V L T).1.length) (az n E V L).length:=⟨fun x v hx=>OC gw hP hW (Nat.le_refl _) x v hx,Nat.le_trans (Cc _) (by omega)⟩
 refine go (pr:=(bz n/\aO T/\av T/\(aa n E V L T).2=0)/\(([]:List Int)=[])) [] h ⟨⟨hn,gp,cw,lU⟩,rfl⟩ fun _ _ h=>?_
 refine go_loop (Int×(List (Int×Int))×List Int×List Int×Int) (fun x_=>(fun(i:Int) (M:List (Int×Int)) (K:List Int) (U:List Int) (c:Int)=>⟨[(5,ep 0),(8,em 1),(10,ep 2),(38,en ((az n E V L).length:Int)),(39,en i)],[(0,some (.box 30 [.own 3,.own 4])),(1,some (.nA .int .int (bL E (az n E V L) (aa n E V L T).1 (aa n E V L T).1.length))),(2,some (.box 138 [.mp 5,.own 6,.own 7,.v (.int .i64 c)])),(3,some (.ar (.list .int) T)),(4,some (.ar (.list .int) S)),(5,some (.map .int .int M)),(6,some (.row 3 .int K)),(7,some (.row 3 .int U))],8⟩) x_.1 x_.2.1 x_.2.2.1 x_.2.2.2.1 x_.2.2.2.2) (fun x_=>(fun(i:Int) (M:List (Int×Int)) (K:List Int) (U:List Int) (c:Int)=>0<=i/\i<=((az n E V L).length:Int)/\mQ i.toNat=(M,K,U,c)) x_.1 x_.2.1 x_.2.2.1 x_.2.2.2.1 x_.2.2.2.2) (fun x_=>(fun(i:Int) (M:List (Int×Int)) (K:List Int) (U:List Int) (c:Int)=>(((az n E V L).length:Int)-i).toNat) x_.1 x_.2.1 x_.2.2.1 x_.2.2.2.1 x_.2.2.2.2) (0,[],[],[],0) (rk [8197,65541,90117,3,4,90118,90119,90120]) h ⟨Int.le_refl _,Int.natCast_nonneg _,rfl⟩ fun x_ _ _ _ cq hI h=>?_
 obtain⟨i,M,K,U,c⟩:=x_
 obtain⟨i0,i1,i2⟩:=hI
 dsimp only at i0 i1 i2
 refine aC [] h fun _ _ h=>?_
 refine ag h (fun(q2:i<((az n E V L).length:Int))=>?_) (fun(q2:¬(i<((az n E V L).length:Int)))=>?_)
 .obtain⟨a1,a2,a3,_⟩:=wg i.toNat
  rw[i2] at a1 a2 a3
  change K.length=i.toNat at a2
  have ab:=a1.bd
  change 0<=c/\c<=(K.length:Int) at ab
  have am:M.length<=K.length:=a1.rep.th
  have au:U.length=K.length:=a1.rep.len
  refine go (pr:=((-9223372036854775808<=i/\i<=9223372036854775807)/\M.length<=900000/\K.length<=900000/\U.length<=900000/\-900000<=c/\c<=900000)/\(aX .i64 (i+1))) [] h ⟨⟨⟨by omega,by omega⟩,by omega,by omega,by omega,by omega,by omega⟩,bw⟩ fun _ _ h=>?_
  exact bZ (cq (i+1,bQ M K i,bX M K i,ck M K U i,iC M c i) (rk [0,1,2,3,4,20489,20490,20491]) h ⟨by dsimp only;omega,by dsimp only;omega,by dsimp only;rw[KS i0,i2];rfl⟩ (by dsimp only;omega))
 have oz:i.toNat=(az n E V L).length:=by omega
 rw[oz] at i2
 refine aC [] h fun _ _ h=>?_
 refine go_loop (Int×(List (Int×Int))×List Int×List Int×Int×(List (Int×Int))) (fun x_=>(fun(i:Int) (M:List (Int×Int)) (K:List Int) (U:List Int) (c:Int) (mt:List (Int×Int))=>⟨[(5,ep 0),(8,em 1),(10,ep 2),(12,em 3),(48,eo 4),(49,en (S.length:Int)),(50,en i)],[(0,some (.box 30 [.own 5,.own 4])),(1,some (.nA .int .int (bL E (az n E V L) (aa n E V L T).1 (aa n E V L T).1.length))),(2,some (.box 138 [.mp 6,.own 7,.own 8,.v (.int .i64 c)])),(3,some (.map .int .int mt)),(4,some (.ar (.list .int) S)),(5,some (.ar (.list .int) T)),(6,some (.map .int .int M)),(7,some (.row 3 .int K)),(8,some (.row 3 .int U))],9⟩) x_.1 x_.2.1 x_.2.2.1 x_.2.2.2.1 x_.2.2.2.2.1 x_.2.2.2.2.2) (fun x_=>(fun(i:Int) (M:List (Int×Int)) (K:List Int) (U:List Int) (c:Int) (mt:List (Int×Int))=>0<=i/\i<=(S.length:Int)/\iU (bL E (az n E V L) (aa n E V L T).1 (aa n E V L T).1.length) S (az n E V L).length i.toNat=some ((M,K,U,c),mt)/\yS (bL E (az n E V L) (aa n E V L T).1 (aa n E V L T).1.length) (az n E V L).length ((M,K,U,c),mt)) x_.1 x_.2.1 x_.2.2.1 x_.2.2.2.1 x_.2.2.2.2.1 x_.2.2.2.2.2) (fun x_=>(fun(i:Int) (M:List (Int×Int)) (K:List Int) (U:List Int) (c:Int) (mt:List (Int×Int))=>((S.length:Int)-i).toNat) x_.1 x_.2.1 x_.2.2.1 x_.2.2.2.1 x_.2.2.2.2.1 x_.2.2.2.2.2) (0,M,K,U,c,[]) (rk [0,1,2,4104,4,3,5,6,7]) h ⟨Int.le_refl _,Int.natCast_nonneg _,by show some (mQ (az n E V L).length,[])=_;rw[i2],by rw[<-i2];exact yS.start⟩ fun x_ _ _ _ fQ hI h=>?_
 obtain⟨i,M,K,U,c,mt⟩:=x_
 obtain⟨j0,j1,j2,j3⟩:=hI
 dsimp only at j0 j1 j2 j3
 refine aC [] h fun _ _ h=>?_
 refine ag h (fun(q3:i<(S.length:Int))=>?_) (fun(q3:¬(i<(S.length:Int)))=>?_)
 .have hm:(S.getD i.toNat [])∈S:=af (by omega)
  have Oy:=cS.2 _ hm
  have IS:=mT j2
  have UI:0<i->2<=(S.getD (i-1).toNat []).length:=fun h=>IS _ (by omega)
  by_cases z1:((S.getD i.toNat []).length:Int)<2
  .refine go (pr:=(aV i S.length)/\(((S.getD i.toNat []).length:Int)<2)) [(58,true)] h ⟨bx,z1⟩ fun _ _ h=>?_
   exact out (((7:Int):Int),()) h (by rw[gE DV (mS j0 (by omega) j2 (AS j0 (.inl z1)))])
  by_cases z2:(0:Int)<i
  .have abl:=UI z2
   refine go (pr:=(aV i S.length)/\(¬(((S.getD i.toNat []).length:Int)<2))/\((0:Int)<i)/\(aV (0:Int) (S.getD i.toNat []).length)/\(aX .i64 (i-1))/\(aV (i-1) S.length)/\(aV (0:Int) (S.getD (i-1).toNat []).length)) [(58,false),(61,true)] h ⟨bx,z1,z2,bx,bw,bx,bx⟩ fun _ _ h=>?_
   refine ag h (fun(q4:((S.getD i.toNat []).getD 0 0)<=((S.getD (i-1).toNat []).getD 0 0))=>?_) (fun(q4:¬(((S.getD i.toNat []).getD 0 0)<=((S.getD (i-1).toNat []).getD 0 0)))=>?_)
   .refine aC [] h fun _ _ h=>?_
    exact out (((7:Int):Int),()) h (by rw[gE DV (mS j0 (by omega) j2 (AS j0 (.inr ⟨z2,q4⟩)))])
   have zy:¬(((S.getD i.toNat []).length:Int)<2)/\(¬(0<i)\/¬((S.getD i.toNat []).getD 0 0<=(S.getD (i-1).toNat []).getD 0 0)):=⟨z1,.inr q4⟩
   refine aC [] h fun _ _ h=>?_
   refine go_loop (Int×(List (Int×Int))×List Int×List Int×Int×(List (Int×Int))) (fun x_=>(fun(k:Int) (M2:List (Int×Int)) (K2:List Int) (U2:List Int) (c2:Int) (nc:List (Int×Int))=>⟨[(5,ep 0),(8,em 1),(10,ep 2),(12,em 3),(13,en i),(14,eo 4),(48,eo 5),(49,en (S.length:Int)),(50,en i),(76,eo 4),(77,en ((S.getD i.toNat []).length:Int)),(78,en k)],[(0,some (.box 30 [.own 6,.own 5])),(1,some (.nA .int .int (bL E (az n E V L) (aa n E V L T).1 (aa n E V L T).1.length))),(2,some (.box 138 [.mp 7,.own 8,.own 9,.v (.int .i64 c2)])),(3,some (.map .int .int nc)),(4,some (.ar .int (S.getD i.toNat []))),(5,some (.ar (.list .int) S)),(6,some (.ar (.list .int) T)),(7,some (.map .int .int M2)),(8,some (.row 3 .int K2)),(9,some (.row 3 .int U2))],10⟩) x_.1 x_.2.1 x_.2.2.1 x_.2.2.2.1 x_.2.2.2.2.1 x_.2.2.2.2.2) (fun x_=>(fun(k:Int) (M2:List (Int×Int)) (K2:List Int) (U2:List Int) (c2:Int) (nc:List (Int×Int))=>0<=k/\k<=((S.getD i.toNat []).length:Int)/\runK (bL E (az n E V L) (aa n E V L T).1 (aa n E V L T).1.length) (S.getD i.toNat []) i ((M,K,U,c),mt) k.toNat=some ((M2,K2,U2,c2),nc)/\yS (bL E (az n E V L) (aa n E V L T).1 (aa n E V L T).1.length) (az n E V L).length ((M2,K2,U2,c2),nc)) x_.1 x_.2.1 x_.2.2.1 x_.2.2.2.1 x_.2.2.2.2.1 x_.2.2.2.2.2) (fun x_=>(fun(k:Int) (M2:List (Int×Int)) (K2:List Int) (U2:List Int) (c2:Int) (nc:List (Int×Int))=>(((S.getD i.toNat []).length:Int)-k).toNat) x_.1 x_.2.1 x_.2.2.1 x_.2.2.2.1 x_.2.2.2.2.1 x_.2.2.2.2.2) (0,M,K,U,c,mt) (rk [0,1,2,3,12297,4,5,6,7,8]) h ⟨Int.le_refl _,Int.natCast_nonneg _,rfl,j3⟩ fun x_ _ _ _ sj hI h=>?_
   obtain⟨k,M2,K2,U2,c2,nc⟩:=x_
   obtain⟨k0,k1,k2,k3⟩:=hI
   dsimp only at k0 k1 k2 k3
   refine aC [] h fun _ _ h=>?_
   refine ag h (fun(q5:k<((S.getD i.toNat []).length:Int))=>?_) (fun(q5:¬(k<((S.getD i.toNat []).length:Int)))=>?_)
   .have Sf:=gF _ hm _ (af (l:=(S.getD i.toNat [])) (i:=k.toNat) (d:=0) (by omega))
    have uS:=k3.th QS
    change nc.length<=100000 at uS
    have XH:0<k.toNat->(ah (bL E (az n E V L) (aa n E V L T).1 (aa n E V L T).1.length) ((S.getD i.toNat []).getD 0 0)).isSome=true:=fun h=>nY h k2
    have nK:lu M2 K2 U2:=k3.ok.rep
    have LH:K2.length=(az n E V L).length:=k3.len
    have QE:0<=c2/\c2<=(K2.length:Int):=k3.ok.bd
    have abB:=gF _ hm _ (af (l:=(S.getD i.toNat [])) (i:=0) (d:=0) (by omega))
    refine go (pr:=(aV k (S.getD i.toNat []).length)/\(dc .int ((S.getD i.toNat []).getD k.toNat 0))/\(dc .int ((S.getD i.toNat []).getD k.toNat 0))/\(((((ah (bL E (az n E V L) (aa n E V L T).1 (aa n E V L T).1.length) ((S.getD i.toNat []).getD k.toNat 0)).isSome)=true)/\(((ah nc ((S.getD i.toNat []).getD k.toNat 0)).isSome)=false))->((0:Int)<k)->(aX .i64 (k-1)))/\(((((ah (bL E (az n E V L) (aa n E V L T).1 (aa n E V L T).1.length) ((S.getD i.toNat []).getD k.toNat 0)).isSome)=true)/\(((ah nc ((S.getD i.toNat []).getD k.toNat 0)).isSome)=false))->((0:Int)<k)->(aV (k-1) (S.getD i.toNat []).length))) [] h ⟨bx,wk,wk,fun _ _=>bw,fun _ _=>bx⟩ fun _ _ h=>?_
    refine ag h (fun(q6:((((ah (bL E (az n E V L) (aa n E V L T).1 (aa n E V L T).1.length) ((S.getD i.toNat []).getD k.toNat 0)).isSome)=false)\/(((ah nc ((S.getD i.toNat []).getD k.toNat 0)).isSome)=true))\/(((0:Int)<k)/\(((S.getD i.toNat []).getD k.toNat 0)<=((S.getD i.toNat []).getD (k-1).toNat 0))))=>?_) (fun(q6:((((ah (bL E (az n E V L) (aa n E V L T).1 (aa n E V L T).1.length) ((S.getD i.toNat []).getD k.toNat 0)).isSome)=true)/\(((ah nc ((S.getD i.toNat []).getD k.toNat 0)).isSome)=false))/\((¬((0:Int)<k))\/(¬(((S.getD i.toNat []).getD k.toNat 0)<=((S.getD i.toNat []).getD (k-1).toNat 0)))))=>?_)
    .refine aC [] h fun _ _ h=>?_
     exact out (((7:Int):Int),()) h (by rw[gE DV (mS j0 (by omega) j2 (by rw[qv j0 zy];exact mR (k:=(k+1).toNat) (by rw[qu k0 k2];exact EE (z:=((M2,K2,U2,c2),nc)) k0 q6) (by omega)))])
    have hq5:=q6
    have Hl:=AT (i:=i) (z:=((M2,K2,U2,c2),nc)) k0 hq5
    have MR:=(qu k0 k2).trans Hl
    by_cases z1:(0:Int)<k
    .obtain⟨v0,v1⟩:=QS.at_ (XH (by omega))
     obtain⟨v2,v3⟩:=QS.at_ hq5.1.1
     refine go (pr:=(dc .int ((S.getD i.toNat []).getD k.toNat 0))/\(nc.length<=2147483647)/\((0:Int)<k)/\(aV (0:Int) (S.getD i.toNat []).length)/\(dc .int ((S.getD i.toNat []).getD 0 0))/\((-9223372036854775808<=((ah (bL E (az n E V L) (aa n E V L T).1 (aa n E V L T).1.length) ((S.getD i.toNat []).getD 0 0)).getD 0)/\((ah (bL E (az n E V L) (aa n E V L T).1 (aa n E V L T).1.length) ((S.getD i.toNat []).getD 0 0)).getD 0)<=9223372036854775807)/\(-9223372036854775808<=((ah (bL E (az n E V L) (aa n E V L T).1 (aa n E V L T).1.length) ((S.getD i.toNat []).getD k.toNat 0)).getD 0)/\((ah (bL E (az n E V L) (aa n E V L T).1 (aa n E V L T).1.length) ((S.getD i.toNat []).getD k.toNat 0)).getD 0)<=9223372036854775807)/\lu M2 K2 U2/\K2.length<=900000/\-900000<=c2/\c2<=900000)) [(118,true)] h ⟨wk,ln,z1,bx,wk,⟨⟨by omega,by omega⟩,⟨by omega,by omega⟩,nK,by omega,by omega,by omega⟩⟩ fun _ _ h=>?_
     refine ag h (fun(q7:(Ow M2 K2 U2 ((ah (bL E (az n E V L) (aa n E V L T).1 (aa n E V L T).1.length) ((S.getD i.toNat []).getD 0 0)).getD 0) ((ah (bL E (az n E V L) (aa n E V L T).1 (aa n E V L T).1.length) ((S.getD i.toNat []).getD k.toNat 0)).getD 0))=false)=>?_) (fun(q7:(Ow M2 K2 U2 ((ah (bL E (az n E V L) (aa n E V L T).1 (aa n E V L T).1.length) ((S.getD i.toNat []).getD 0 0)).getD 0) ((ah (bL E (az n E V L) (aa n E V L T).1 (aa n E V L T).1.length) ((S.getD i.toNat []).getD k.toNat 0)).getD 0))=true)=>?_)
     .refine aC [] h fun _ _ h=>?_
      exact out (((7:Int):Int),()) h (by rw[gE DV (mS j0 (by omega) j2 (by rw[qv j0 zy];exact mR (k:=(k+1).toNat) (by rw[MR,if_neg (by omega)];exact if_neg (by show ¬Ow M2 K2 U2 _ _=true;rw[q7];decide)) (by omega)))])
     refine go (pr:=(aX .i64 (k+1))) [] h bw fun _ _ h=>?_
     have h3:yS (bL E (az n E V L) (aa n E V L T).1 (aa n E V L T).1.length) (az n E V L).length ((Sj M2 K2 ((ah (bL E (az n E V L) (aa n E V L T).1 (aa n E V L T).1.length) ((S.getD i.toNat []).getD 0 0)).getD 0) ((ah (bL E (az n E V L) (aa n E V L T).1 (aa n E V L T).1.length) ((S.getD i.toNat []).getD k.toNat 0)).getD 0),Ou M2 K2 ((ah (bL E (az n E V L) (aa n E V L T).1 (aa n E V L T).1.length) ((S.getD i.toNat []).getD 0 0)).getD 0) ((ah (bL E (az n E V L) (aa n E V L T).1 (aa n E V L T).1.length) ((S.getD i.toNat []).getD k.toNat 0)).getD 0),KR M2 K2 U2 ((ah (bL E (az n E V L) (aa n E V L T).1 (aa n E V L T).1.length) ((S.getD i.toNat []).getD 0 0)).getD 0) ((ah (bL E (az n E V L) (aa n E V L T).1 (aa n E V L T).1.length) ((S.getD i.toNat []).getD k.toNat 0)).getD 0),Iz M2 K2 U2 c2 ((ah (bL E (az n E V L) (aa n E V L T).1 (aa n E V L T).1.length) ((S.getD i.toNat []).getD 0 0)).getD 0) ((ah (bL E (az n E V L) (aa n E V L T).1 (aa n E V L T).1.length) ((S.getD i.toNat []).getD k.toNat 0)).getD 0)),(cB nc ((S.getD i.toNat []).getD k.toNat 0) i)):=wh (i:=i) (k:=k.toNat) QS XH k3 (by rw[Hl,if_neg (by omega)];exact if_pos q7)
     exact bZ (sj (k+1,Sj M2 K2 ((ah (bL E (az n E V L) (aa n E V L T).1 (aa n E V L T).1.length) ((S.getD i.toNat []).getD 0 0)).getD 0) ((ah (bL E (az n E V L) (aa n E V L T).1 (aa n E V L T).1.length) ((S.getD i.toNat []).getD k.toNat 0)).getD 0),Ou M2 K2 ((ah (bL E (az n E V L) (aa n E V L T).1 (aa n E V L T).1.length) ((S.getD i.toNat []).getD 0 0)).getD 0) ((ah (bL E (az n E V L) (aa n E V L T).1 (aa n E V L T).1.length) ((S.getD i.toNat []).getD k.toNat 0)).getD 0),KR M2 K2 U2 ((ah (bL E (az n E V L) (aa n E V L T).1 (aa n E V L T).1.length) ((S.getD i.toNat []).getD 0 0)).getD 0) ((ah (bL E (az n E V L) (aa n E V L T).1 (aa n E V L T).1.length) ((S.getD i.toNat []).getD k.toNat 0)).getD 0),Iz M2 K2 U2 c2 ((ah (bL E (az n E V L) (aa n E V L T).1 (aa n E V L T).1.length) ((S.getD i.toNat []).getD 0 0)).getD 0) ((ah (bL E (az n E V L) (aa n E V L T).1 (aa n E V L T).1.length) ((S.getD i.toNat []).getD k.toNat 0)).getD 0),(cB nc ((S.getD i.toNat []).getD k.toNat 0) i)) (rk [0,1,2,3,4,5,6,221195,221196,221197]) h ⟨by dsimp only;omega,by dsimp only;omega,by dsimp only;rw[MR,if_neg (by omega)];exact if_pos q7,h3⟩ (by dsimp only;omega))
    refine go (pr:=(dc .int ((S.getD i.toNat []).getD k.toNat 0))/\(nc.length<=2147483647)/\(¬((0:Int)<k))/\(aX .i64 (k+1))) [(118,false)] h ⟨wk,ln,z1,bw⟩ fun _ _ h=>?_
    have h3:yS (bL E (az n E V L) (aa n E V L T).1 (aa n E V L T).1.length) (az n E V L).length ((M2,K2,U2,c2),(cB nc ((S.getD i.toNat []).getD k.toNat 0) i)):=wh (i:=i) (k:=k.toNat) QS XH k3 (by rw[Hl,if_pos (by omega)])
    exact bZ (sj (k+1,M2,K2,U2,c2,(cB nc ((S.getD i.toNat []).getD k.toNat 0) i)) (ir 10) h ⟨by dsimp only;omega,by dsimp only;omega,by dsimp only;rw[MR,if_pos (by omega)],h3⟩ (by dsimp only;omega))
   have ru:k.toNat=(S.getD i.toNat []).length:=by omega
   rw[ru] at k2
   refine go (pr:=(aX .i64 (i+1))) [] h bw fun _ _ h=>?_
   exact bZ (fQ (i+1,M2,K2,U2,c2,nc) (rk [0,1,2,3,5,6,7,8,9]) h ⟨by dsimp only;omega,by dsimp only;omega,by dsimp only;rw[uw j0 j2,qv j0 zy];exact k2,k3⟩ (by dsimp only;omega))
  have zy:¬(((S.getD i.toNat []).length:Int)<2)/\(¬(0<i)\/¬((S.getD i.toNat []).getD 0 0<=(S.getD (i-1).toNat []).getD 0 0)):=⟨z1,.inl z2⟩
  refine go (pr:=(aV i S.length)/\(¬(((S.getD i.toNat []).length:Int)<2))/\(¬((0:Int)<i))) [(58,false),(61,false)] h ⟨bx,z1,z2⟩ fun _ _ h=>?_
  refine go_loop (Int×(List (Int×Int))×List Int×List Int×Int×(List (Int×Int))) (fun x_=>(fun(k:Int) (M2:List (Int×Int)) (K2:List Int) (U2:List Int) (c2:Int) (nc:List (Int×Int))=>⟨[(5,ep 0),(8,em 1),(10,ep 2),(12,em 3),(13,en i),(14,eo 4),(48,eo 5),(49,en (S.length:Int)),(50,en i),(76,eo 4),(77,en ((S.getD i.toNat []).length:Int)),(78,en k)],[(0,some (.box 30 [.own 6,.own 5])),(1,some (.nA .int .int (bL E (az n E V L) (aa n E V L T).1 (aa n E V L T).1.length))),(2,some (.box 138 [.mp 7,.own 8,.own 9,.v (.int .i64 c2)])),(3,some (.map .int .int nc)),(4,some (.ar .int (S.getD i.toNat []))),(5,some (.ar (.list .int) S)),(6,some (.ar (.list .int) T)),(7,some (.map .int .int M2)),(8,some (.row 3 .int K2)),(9,some (.row 3 .int U2))],10⟩) x_.1 x_.2.1 x_.2.2.1 x_.2.2.2.1 x_.2.2.2.2.1 x_.2.2.2.2.2) (fun x_=>(fun(k:Int) (M2:List (Int×Int)) (K2:List Int) (U2:List Int) (c2:Int) (nc:List (Int×Int))=>0<=k/\k<=((S.getD i.toNat []).length:Int)/\runK (bL E (az n E V L) (aa n E V L T).1 (aa n E V L T).1.length) (S.getD i.toNat []) i ((M,K,U,c),mt) k.toNat=some ((M2,K2,U2,c2),nc)/\yS (bL E (az n E V L) (aa n E V L T).1 (aa n E V L T).1.length) (az n E V L).length ((M2,K2,U2,c2),nc)) x_.1 x_.2.1 x_.2.2.1 x_.2.2.2.1 x_.2.2.2.2.1 x_.2.2.2.2.2) (fun x_=>(fun(k:Int) (M2:List (Int×Int)) (K2:List Int) (U2:List Int) (c2:Int) (nc:List (Int×Int))=>(((S.getD i.toNat []).length:Int)-k).toNat) x_.1 x_.2.1 x_.2.2.1 x_.2.2.2.1 x_.2.2.2.2.1 x_.2.2.2.2.2) (0,M,K,U,c,mt) (rk [0,1,2,3,12297,4,5,6,7,8]) h ⟨Int.le_refl _,Int.natCast_nonneg _,rfl,j3⟩ fun x_ _ _ _ Fs hI h=>?_
  obtain⟨k,M2,K2,U2,c2,nc⟩:=x_
  obtain⟨k0,k1,k2,k3⟩:=hI
  dsimp only at k0 k1 k2 k3
  refine aC [] h fun _ _ h=>?_
  refine ag h (fun(q8:k<((S.getD i.toNat []).length:Int))=>?_) (fun(q8:¬(k<((S.getD i.toNat []).length:Int)))=>?_)
  .have Sf:=gF _ hm _ (af (l:=(S.getD i.toNat [])) (i:=k.toNat) (d:=0) (by omega))
   have uS:=k3.th QS
   change nc.length<=100000 at uS
   have XH:0<k.toNat->(ah (bL E (az n E V L) (aa n E V L T).1 (aa n E V L T).1.length) ((S.getD i.toNat []).getD 0 0)).isSome=true:=fun h=>nY h k2
   have nK:lu M2 K2 U2:=k3.ok.rep
   have LH:K2.length=(az n E V L).length:=k3.len
   have QE:0<=c2/\c2<=(K2.length:Int):=k3.ok.bd
   have abB:=gF _ hm _ (af (l:=(S.getD i.toNat [])) (i:=0) (d:=0) (by omega))
   refine go (pr:=(aV k (S.getD i.toNat []).length)/\(dc .int ((S.getD i.toNat []).getD k.toNat 0))/\(dc .int ((S.getD i.toNat []).getD k.toNat 0))/\(((((ah (bL E (az n E V L) (aa n E V L T).1 (aa n E V L T).1.length) ((S.getD i.toNat []).getD k.toNat 0)).isSome)=true)/\(((ah nc ((S.getD i.toNat []).getD k.toNat 0)).isSome)=false))->((0:Int)<k)->(aX .i64 (k-1)))/\(((((ah (bL E (az n E V L) (aa n E V L T).1 (aa n E V L T).1.length) ((S.getD i.toNat []).getD k.toNat 0)).isSome)=true)/\(((ah nc ((S.getD i.toNat []).getD k.toNat 0)).isSome)=false))->((0:Int)<k)->(aV (k-1) (S.getD i.toNat []).length))) [] h ⟨bx,wk,wk,fun _ _=>bw,fun _ _=>bx⟩ fun _ _ h=>?_
   refine ag h (fun(q9:((((ah (bL E (az n E V L) (aa n E V L T).1 (aa n E V L T).1.length) ((S.getD i.toNat []).getD k.toNat 0)).isSome)=false)\/(((ah nc ((S.getD i.toNat []).getD k.toNat 0)).isSome)=true))\/(((0:Int)<k)/\(((S.getD i.toNat []).getD k.toNat 0)<=((S.getD i.toNat []).getD (k-1).toNat 0))))=>?_) (fun(q9:((((ah (bL E (az n E V L) (aa n E V L T).1 (aa n E V L T).1.length) ((S.getD i.toNat []).getD k.toNat 0)).isSome)=true)/\(((ah nc ((S.getD i.toNat []).getD k.toNat 0)).isSome)=false))/\((¬((0:Int)<k))\/(¬(((S.getD i.toNat []).getD k.toNat 0)<=((S.getD i.toNat []).getD (k-1).toNat 0)))))=>?_)
   .refine aC [] h fun _ _ h=>?_
    exact out (((7:Int):Int),()) h (by rw[gE DV (mS j0 (by omega) j2 (by rw[qv j0 zy];exact mR (k:=(k+1).toNat) (by rw[qu k0 k2];exact EE (z:=((M2,K2,U2,c2),nc)) k0 q9) (by omega)))])
   have hq5:=q9
   have Hl:=AT (i:=i) (z:=((M2,K2,U2,c2),nc)) k0 hq5
   have MR:=(qu k0 k2).trans Hl
   by_cases z2:(0:Int)<k
   .obtain⟨v0,v1⟩:=QS.at_ (XH (by omega))
    obtain⟨v2,v3⟩:=QS.at_ hq5.1.1
    refine go (pr:=(dc .int ((S.getD i.toNat []).getD k.toNat 0))/\(nc.length<=2147483647)/\((0:Int)<k)/\(aV (0:Int) (S.getD i.toNat []).length)/\(dc .int ((S.getD i.toNat []).getD 0 0))/\((-9223372036854775808<=((ah (bL E (az n E V L) (aa n E V L T).1 (aa n E V L T).1.length) ((S.getD i.toNat []).getD 0 0)).getD 0)/\((ah (bL E (az n E V L) (aa n E V L T).1 (aa n E V L T).1.length) ((S.getD i.toNat []).getD 0 0)).getD 0)<=9223372036854775807)/\(-9223372036854775808<=((ah (bL E (az n E V L) (aa n E V L T).1 (aa n E V L T).1.length) ((S.getD i.toNat []).getD k.toNat 0)).getD 0)/\((ah (bL E (az n E V L) (aa n E V L T).1 (aa n E V L T).1.length) ((S.getD i.toNat []).getD k.toNat 0)).getD 0)<=9223372036854775807)/\lu M2 K2 U2/\K2.length<=900000/\-900000<=c2/\c2<=900000)) [(118,true)] h ⟨wk,ln,z2,bx,wk,⟨⟨by omega,by omega⟩,⟨by omega,by omega⟩,nK,by omega,by omega,by omega⟩⟩ fun _ _ h=>?_
    refine ag h (fun(Yh:(Ow M2 K2 U2 ((ah (bL E (az n E V L) (aa n E V L T).1 (aa n E V L T).1.length) ((S.getD i.toNat []).getD 0 0)).getD 0) ((ah (bL E (az n E V L) (aa n E V L T).1 (aa n E V L T).1.length) ((S.getD i.toNat []).getD k.toNat 0)).getD 0))=false)=>?_) (fun(Yh:(Ow M2 K2 U2 ((ah (bL E (az n E V L) (aa n E V L T).1 (aa n E V L T).1.length) ((S.getD i.toNat []).getD 0 0)).getD 0) ((ah (bL E (az n E V L) (aa n E V L T).1 (aa n E V L T).1.length) ((S.getD i.toNat []).getD k.toNat 0)).getD 0))=true)=>?_)
    .refine aC [] h fun _ _ h=>?_
     exact out (((7:Int):Int),()) h (by rw[gE DV (mS j0 (by omega) j2 (by rw[qv j0 zy];exact mR (k:=(k+1).toNat) (by rw[MR,if_neg (by omega)];exact if_neg (by show ¬Ow M2 K2 U2 _ _=true;rw[Yh];decide)) (by omega)))])
    refine go (pr:=(aX .i64 (k+1))) [] h bw fun _ _ h=>?_
    have h3:yS (bL E (az n E V L) (aa n E V L T).1 (aa n E V L T).1.length) (az n E V L).length ((Sj M2 K2 ((ah (bL E (az n E V L) (aa n E V L T).1 (aa n E V L T).1.length) ((S.getD i.toNat []).getD 0 0)).getD 0) ((ah (bL E (az n E V L) (aa n E V L T).1 (aa n E V L T).1.length) ((S.getD i.toNat []).getD k.toNat 0)).getD 0),Ou M2 K2 ((ah (bL E (az n E V L) (aa n E V L T).1 (aa n E V L T).1.length) ((S.getD i.toNat []).getD 0 0)).getD 0) ((ah (bL E (az n E V L) (aa n E V L T).1 (aa n E V L T).1.length) ((S.getD i.toNat []).getD k.toNat 0)).getD 0),KR M2 K2 U2 ((ah (bL E (az n E V L) (aa n E V L T).1 (aa n E V L T).1.length) ((S.getD i.toNat []).getD 0 0)).getD 0) ((ah (bL E (az n E V L) (aa n E V L T).1 (aa n E V L T).1.length) ((S.getD i.toNat []).getD k.toNat 0)).getD 0),Iz M2 K2 U2 c2 ((ah (bL E (az n E V L) (aa n E V L T).1 (aa n E V L T).1.length) ((S.getD i.toNat []).getD 0 0)).getD 0) ((ah (bL E (az n E V L) (aa n E V L T).1 (aa n E V L T).1.length) ((S.getD i.toNat []).getD k.toNat 0)).getD 0)),(cB nc ((S.getD i.toNat []).getD k.toNat 0) i)):=wh (i:=i) (k:=k.toNat) QS XH k3 (by rw[Hl,if_neg (by omega)];exact if_pos Yh)
    exact bZ (Fs (k+1,Sj M2 K2 ((ah (bL E (az n E V L) (aa n E V L T).1 (aa n E V L T).1.length) ((S.getD i.toNat []).getD 0 0)).getD 0) ((ah (bL E (az n E V L) (aa n E V L T).1 (aa n E V L T).1.length) ((S.getD i.toNat []).getD k.toNat 0)).getD 0),Ou M2 K2 ((ah (bL E (az n E V L) (aa n E V L T).1 (aa n E V L T).1.length) ((S.getD i.toNat []).getD 0 0)).getD 0) ((ah (bL E (az n E V L) (aa n E V L T).1 (aa n E V L T).1.length) ((S.getD i.toNat []).getD k.toNat 0)).getD 0),KR M2 K2 U2 ((ah (bL E (az n E V L) (aa n E V L T).1 (aa n E V L T).1.length) ((S.getD i.toNat []).getD 0 0)).getD 0) ((ah (bL E (az n E V L) (aa n E V L T).1 (aa n E V L T).1.length) ((S.getD i.toNat []).getD k.toNat 0)).getD 0),Iz M2 K2 U2 c2 ((ah (bL E (az n E V L) (aa n E V L T).1 (aa n E V L T).1.length) ((S.getD i.toNat []).getD 0 0)).getD 0) ((ah (bL E (az n E V L) (aa n E V L T).1 (aa n E V L T).1.length) ((S.getD i.toNat []).getD k.toNat 0)).getD 0),(cB nc ((S.getD i.toNat []).getD k.toNat 0) i)) (rk [0,1,2,3,4,5,6,221195,221196,221197]) h ⟨by dsimp only;omega,by dsimp only;omega,by dsimp only;rw[MR,if_neg (by omega)];exact if_pos Yh,h3⟩ (by dsimp only;omega))
   refine go (pr:=(dc .int ((S.getD i.toNat []).getD k.toNat 0))/\(nc.length<=2147483647)/\(¬((0:Int)<k))/\(aX .i64 (k+1))) [(118,false)] h ⟨wk,ln,z2,bw⟩ fun _ _ h=>?_
   have h3:yS (bL E (az n E V L) (aa n E V L T).1 (aa n E V L T).1.length) (az n E V L).length ((M2,K2,U2,c2),(cB nc ((S.getD i.toNat []).getD k.toNat 0) i)):=wh (i:=i) (k:=k.toNat) QS XH k3 (by rw[Hl,if_pos (by omega)])
   exact bZ (Fs (k+1,M2,K2,U2,c2,(cB nc ((S.getD i.toNat []).getD k.toNat 0) i)) (ir 10) h ⟨by dsimp only;omega,by dsimp only;omega,by dsimp only;rw[MR,if_pos (by omega)],h3⟩ (by dsimp only;omega))
  have ru:k.toNat=(S.getD i.toNat []).length:=by omega
  rw[ru] at k2
  refine go (pr:=(aX .i64 (i+1))) [] h bw fun _ _ h=>?_
  exact bZ (fQ (i+1,M2,K2,U2,c2,nc) (rk [0,1,2,3,5,6,7,8,9]) h ⟨by dsimp only;omega,by dsimp only;omega,by dsimp only;rw[uw j0 j2,qv j0 zy];exact k2,k3⟩ (by dsimp only;omega))
 have Xa:i.toNat=S.length:=by omega
 rw[Xa] at j2
 refine go (pr:=True) [] h tv fun _ _ h=>?_
 refine ag h (fun(W8:(1:Int)<c)=>?_) (fun(W8:¬((1:Int)<c))=>?_)
 .refine aC [] h fun _ _ h=>?_
  exact out (((7:Int):Int),()) h (by rw[nZ DV j2];exact congrArg (·,()) (if_pos W8).symm)
 refine aC [] h fun _ _ h=>?_
 exact out (((0:Int):Int),()) h (by rw[nZ DV j2];exact congrArg (·,()) (if_neg W8).symm)
def tH:cE Tryz.prog:=plain Qn
theorem Qo:aS Tryz.prog 14 [(false,(.pair gX (.pair fR (.pair (.list (.list .int)) (.list (.list .int))))))] [.int] (fun x=>bz (I_ x.1.1.1)/\aO (K_ x.1.2.2.1)/\av (K_ x.1.2.2.1)/\aO (K_ x.1.2.2.2)/\av (K_ x.1.2.2.2)) (fun x=>(lK (I_ x.1.1.1) (E_ x.1.1.2) (J_ x.1.2.1.1) (J_ x.1.2.1.2) (K_ x.1.2.2.1) (K_ x.1.2.2.2),())):=by
 refine aF Tryz.f14 19 [tH,wm] Tryz.func14 fun o x hd _ _ h=>?_
 obtain⟨⟨⟨(n:Int),(E:List (Int×Int))⟩,⟨⟨(V:List Int),(L:List Int)⟩,⟨(T:List (List Int)),(S:List (List Int))⟩⟩⟩,_⟩:=x
 have e7:=gL h 0 E
 have eZ:=cg h 1 V
 have fS:=cg h 2 L
 have jm:=eP h 3 T
 have tE:=eP h 4 S
 change bz n/\aO T/\av T/\aO S/\av S at hd
 obtain⟨hn,gp,cw,gF,cS⟩:=hd
 refine go (pr:=(bz n)) [] h hn fun _ _ h=>?_
 refine ag h (fun(q1:¬(aA n E V L=0))=>?_) (fun(q1:aA n E V L=0)=>?_)
 .refine aC [] h fun _ _ h=>?_
  exact out ((aA n E V L:Int),()) h (by unfold lK;rw[if_pos q1])
 refine go (pr:=(bz n/\aO T/\av T/\aO S/\av S)) [] h (⟨hn,gp,cw,gF,cS⟩) fun _ _ h=>?_
 exact out ((bA n E V L T S:Int),()) h (by unfold lK;rw[if_neg (by rw[show aA n E V L=0 from q1];exact fun q=>q rfl)])
def Qp:cE Tryz.prog:=plain Qo
theorem Qq:aS Tryz.prog 20 [(false,(.pair gX (.pair fR (.pair (.list (.list .int)) (.list (.list .int)))))),(false,(.pair (.list (.list .int)) (.list (.list .int))))] [.int] (fun x=>bz (I_ x.1.1.1)/\aO (K_ x.1.2.2.1)/\av (K_ x.1.2.2.1)/\aO (K_ x.1.2.2.2)/\av (K_ x.1.2.2.2)/\aO (K_ x.2.1.1)/\av (K_ x.2.1.1)/\aO (K_ x.2.1.2)/\av (K_ x.2.1.2)) (fun x=>(bR (I_ x.1.1.1) (E_ x.1.1.2) (J_ x.1.2.1.1) (J_ x.1.2.1.2) (K_ x.1.2.2.1) (K_ x.1.2.2.2) (K_ x.2.1.1) (K_ x.2.1.2),())):=by
 refine aF Tryz.f20 18 [Qp,tH,IF] Tryz.func20 fun o x hd _ _ h=>?_
 obtain⟨⟨⟨(n:Int),(E:List (Int×Int))⟩,⟨⟨(V:List Int),(L:List Int)⟩,⟨(T:List (List Int)),(S:List (List Int))⟩⟩⟩,⟨(U:List (List Int)),(R:List (List Int))⟩,_⟩:=x
 have e7:=gL h 0 E
 have eZ:=cg h 1 V
 have fS:=cg h 2 L
 have jm:=eP h 3 T
 have tE:=eP h 4 S
 have GX:=eP h 5 U
 have QN:=eP h 6 R
 change bz n/\aO T/\av T/\aO S/\av S/\aO U/\av U/\aO R/\av R at hd
 obtain⟨hn,gp,cw,gF,cS,rZ,jN,r5,lX⟩:=hd
 refine go (pr:=(bz n/\aO T/\av T/\aO S/\av S)) [] h (⟨hn,gp,cw,gF,cS⟩) fun _ _ h=>?_
 refine ag h (fun(q1:¬(lK n E V L T S=0))=>?_) (fun(q1:lK n E V L T S=0)=>?_)
 .refine aC [] h fun _ _ h=>?_
  exact out ((lK n E V L T S:Int),()) h (by unfold bR;rw[if_pos q1])
 refine go (pr:=(bz n)/\(bz n/\aO U/\av U/\aO R/\av R)) [] h ⟨hn,⟨hn,rZ,jN,r5,lX⟩⟩ fun _ _ h=>?_
 exact out ((bA n E ((fD n E).1) ((fD n E).2) U R:Int),()) h (by unfold bR;rw[if_neg (by rw[show lK n E V L T S=0 from q1];exact fun q=>q rfl)])
def yN:cE Tryz.prog:=plain Qq
theorem TP:aS Tryz.prog 41 [(false,(.list .int)),(false,(.list .int))] [.bool] (fun _=>True) (fun x=>(decide ((J_ x.1)=(J_ x.2.1)),())):=by
 refine aF Tryz.f41 26 [] Tryz.func41 fun o x hd _ _ h=>?_
 obtain⟨(l:List Int),(m:List Int),_⟩:=x
 have e7:=cg h 0 l
 have eZ:=cg h 1 m
 refine aC [] h fun _ _ h=>?_
 refine ag h (fun(q1:¬((l.length:Int)=(m.length:Int)))=>?_) (fun(q1:(l.length:Int)=(m.length:Int))=>?_)
 .refine aC [] h fun _ _ h=>?_
  exact out ((false:Bool),()) h (by rw[N5 q1])
 have hle:=q1
 refine aC [] h fun _ _ h=>?_
 refine go_loop (Int) (fun i=>⟨[(0,eo 0),(1,eo 1),(12,en (l.length:Int)),(13,en i)],[(0,some (.ar .int l)),(1,some (.ar .int m))],2⟩) (fun i=>0<=i/\i<=(l.length:Int)/\∀j:Nat,(j:Int)<i->l.getD j 0=m.getD j 0) (fun i=>((l.length:Int)-i).toNat) (0) (ir 2) h ⟨Int.le_refl _,Int.natCast_nonneg _,fun j hj=>by omega⟩ fun i _ _ _ cq hI h=>?_
 obtain⟨i0,i1,i2⟩:=hI
 refine aC [] h fun _ _ h=>?_
 refine ag h (fun(q2:i<(l.length:Int))=>?_) (fun(q2:¬(i<(l.length:Int)))=>?_)
 .refine go (pr:=(aV i l.length)/\(aV i m.length)) [] h ⟨bx,bx⟩ fun _ _ h=>?_
  refine ag h (fun(q3:¬((l.getD i.toNat 0)=(m.getD i.toNat 0)))=>?_) (fun(q3:(l.getD i.toNat 0)=(m.getD i.toNat 0))=>?_)
  .refine aC [] h fun _ _ h=>?_
   exact out ((false:Bool),()) h (by rw[UG i0 q3])
  refine go (pr:=(aX .i64 (i+1))) [] h bw fun _ _ h=>?_
  exact bZ (cq (i+1) (ir 2) h ⟨by omega,by omega,fun j hj=>if z:(j:Int)<i then i2 j z else by rw[show j=i.toNat by omega];exact q3⟩ (by omega))
 refine aC [] h fun _ _ h=>?_
 exact out ((true:Bool),()) h (by rw[N6 hle (i:=i) (by omega) i2])
def TQ:cE Tryz.prog:=plain TP
theorem TR:aS Tryz.prog 24 [(false,(.list .int)),(false,(.list .int))] [.bool] (fun _=>True) (fun x=>(pN (J_ x.1) (J_ x.2.1),())):=by
 refine aF Tryz.f24 41 [TQ] Tryz.func24 fun o x hd _ _ h=>?_
 obtain⟨(l:List Int),(b:List Int),_⟩:=x
 have e7:=cg h 0 l
 have eZ:=cg h 1 b
 refine aC [] h fun _ _ h=>?_
 refine ag h (fun(q1:¬((l.length:Int)=(b.length:Int)))=>?_) (fun(q1:(l.length:Int)=(b.length:Int))=>?_)
 .refine aC [] h fun _ _ h=>?_
  exact out ((false:Bool),()) h (by rw[Pp q1])
 have hle:=q1
 refine aC [] h fun _ _ h=>?_
 refine go_loop (Int) (fun i=>⟨[(0,eo 0),(1,eo 1),(5,en (l.length:Int)),(14,en (b.length:Int)),(15,en i)],[(0,some (.ar .int l)),(1,some (.ar .int b))],2⟩) (fun i=>0<=i/\i<=(b.length:Int)/\∀j:Nat,(j:Int)<i->¬UP l b j) (fun i=>((b.length:Int)-i).toNat) (0) (ir 2) h ⟨Int.le_refl _,Int.natCast_nonneg _,fun j hj=>by omega⟩ fun i _ _ _ cq hI h=>?_
 obtain⟨i0,i1,i2⟩:=hI
 refine aC [] h fun _ _ h=>?_
 refine ag h (fun(q2:i<(b.length:Int))=>?_) (fun(q2:¬(i<(b.length:Int)))=>?_)
 .by_cases z1:decide ((l.take ((l.length:Int)-i).toNat)=(b.drop i.toNat))=true
  .refine go (pr:=(aX .i64 ((l.length:Int)-i))/\(0<=(l.length:Int)-i/\(l.length:Int)-i<=(l.length:Int))/\(0<=i/\i<=(b.length:Int))/\True/\((decide ((l.take ((l.length:Int)-i).toNat)=(b.drop i.toNat)))=true)/\(aX .i64 ((l.length:Int)-i))/\(0<=(l.length:Int)-i/\(l.length:Int)-i<=(l.length:Int))/\(0<=i/\i<=(b.length:Int))/\True) [(27,true)] h ⟨bw,ct,ct,tv,z1,bw,ct,ct,tv⟩ fun _ _ h=>?_
   refine ag h (fun(q3:(decide ((l.drop ((l.length:Int)-i).toNat)=(b.take i.toNat)))=true)=>?_) (fun(q3:(decide ((l.drop ((l.length:Int)-i).toNat)=(b.take i.toNat)))=false)=>?_)
   .refine aC [] h fun _ _ h=>?_
    exact out ((true:Bool),()) h (by rw[Pq hle (i:=i.toNat) (by omega) ((Po i0 (by omega)).2 ⟨of_decide_eq_true z1,of_decide_eq_true q3⟩)])
   refine go (pr:=(aX .i64 (i+1))) [] h bw fun _ _ h=>?_
   exact bZ (cq (i+1) (ir 2) h ⟨by omega,by omega,fun j hj=>if z:(j:Int)<i then i2 j z else by rw[show j=i.toNat by omega,Po i0 (by omega)];exact fun q=>absurd (decide_eq_true q.2) (by rw[q3];decide)⟩ (by omega))
  refine go (pr:=(aX .i64 ((l.length:Int)-i))/\(0<=(l.length:Int)-i/\(l.length:Int)-i<=(l.length:Int))/\(0<=i/\i<=(b.length:Int))/\True/\((decide ((l.take ((l.length:Int)-i).toNat)=(b.drop i.toNat)))=false)/\(aX .i64 (i+1))) [(27,false)] h ⟨bw,ct,ct,tv,(Bool.eq_false_iff.2 z1),bw⟩ fun _ _ h=>?_
  exact bZ (cq (i+1) (ir 2) h ⟨by omega,by omega,fun j hj=>if z:(j:Int)<i then i2 j z else by rw[show j=i.toNat by omega,Po i0 (by omega)];exact fun q=>z1 (decide_eq_true q.1)⟩ (by omega))
 refine aC [] h fun _ _ h=>?_
 exact out ((decide ((l.length:Int)=0):Bool),()) h (by rw[<-Pr hle (fun j hj=>i2 j (by omega))])
def TS:cE Tryz.prog:=plain TR
theorem TU:aS Tryz.prog 8 [(false,(.pair gX (.pair fR (.pair (.list (.list .int)) (.list (.list .int)))))),(false,(.pair (.list (.list .int)) (.list (.list .int))))] [.int,.bool] (fun x=>bz (I_ x.1.1.1)/\aO (K_ x.1.2.2.1)/\av (K_ x.1.2.2.1)/\aO (K_ x.1.2.2.2)/\av (K_ x.1.2.2.2)/\aO (K_ x.2.1.1)/\av (K_ x.2.1.1)/\aO (K_ x.2.1.2)/\av (K_ x.2.1.2)) (fun x=>((cM (I_ x.1.1.1) (E_ x.1.1.2) (J_ x.1.2.1.1) (J_ x.1.2.1.2) (K_ x.1.2.2.1) (K_ x.1.2.2.2) (K_ x.2.1.1) (K_ x.2.1.2)).1,(cM (I_ x.1.1.1) (E_ x.1.1.2) (J_ x.1.2.1.1) (J_ x.1.2.1.2) (K_ x.1.2.2.1) (K_ x.1.2.2.2) (K_ x.2.1.1) (K_ x.2.1.2)).2,())):=by
 refine aF Tryz.f8 39 [yN,Xq,TS] Tryz.func8 fun o x hd _ _ h=>?_
 obtain⟨⟨⟨(n:Int),(E:List (Int×Int))⟩,⟨⟨(V:List Int),(L:List Int)⟩,⟨(T:List (List Int)),(S:List (List Int))⟩⟩⟩,⟨(U:List (List Int)),(R:List (List Int))⟩,_⟩:=x
 have e7:=gL h 0 E
 have eZ:=cg h 1 V
 have fS:=cg h 2 L
 have jm:=eP h 3 T
 have tE:=eP h 4 S
 have GX:=eP h 5 U
 have QN:=eP h 6 R
 change bz n/\aO T/\av T/\aO S/\av S/\aO U/\av U/\aO R/\av R at hd
 obtain⟨hn,gp,cw,gF,cS,rZ,jN,r5,lX⟩:=hd
 refine go (pr:=(bz n/\aO T/\av T/\aO S/\av S/\aO U/\av U/\aO R/\av R)) [] h (⟨hn,gp,cw,gF,cS,rZ,jN,r5,lX⟩) fun _ _ h=>?_
 refine ag h (fun(q1:¬(bR n E V L T S U R=0))=>?_) (fun(q1:bR n E V L T S U R=0)=>?_)
 .refine aC [] h fun _ _ h=>?_
  exact out (((0:Int):Int),(false:Bool),()) h (by rw[yy q1])
 have vt:=q1
 obtain⟨Xe,Yi⟩:=pO vt
 obtain⟨gw,iZ⟩:=tB Xe
 obtain⟨jZ,hV,hL,_⟩:=aD gw
 obtain⟨r1,r2,r3,_⟩:=aN jZ
 have zw:=ay hV r1
 have vf:=ay hL (by omega)
 obtain⟨_,UT,_⟩:=bS (bf (bH iZ).1)
 have Z8:=UT.len
 obtain⟨Tl,Xf,_⟩:=bS (bf (bH Yi).1)
 have hUl:=Xf.len
 refine aC [] h fun _ _ h=>?_
 refine go_loop (Int) (fun i=>⟨[(2,ep 0),(3,ep 1),(15,eo 2),(16,en (V.length:Int)),(17,en i)],[(0,some (.box 32 [.v (.int .i64 n),.own 3,.own 2,.own 4,.own 5,.own 6])),(1,some (.box 30 [.own 7,.own 8])),(2,some (.ar .int V)),(3,some (.ar fA E)),(4,some (.ar .int L)),(5,some (.ar (.list .int) T)),(6,some (.ar (.list .int) S)),(7,some (.ar (.list .int) U)),(8,some (.ar (.list .int) R))],9⟩) (fun i=>0<=i/\i<=(V.length:Int)/\∀j:Nat,(j:Int)<i->K0 V L T U j=true) (fun i=>((V.length:Int)-i).toNat) (0) (rk [7,4103,1,0,2,3,4,5,6]) h ⟨Int.le_refl _,Int.natCast_nonneg _,fun j hj=>by omega⟩ fun i _ _ _ cq hI h=>?_
 obtain⟨i0,i1,i2⟩:=hI
 refine aC [] h fun _ _ h=>?_
 refine ag h (fun(q2:i<(V.length:Int))=>?_) (fun(q2:¬(i<(V.length:Int)))=>?_)
 .have hvv:=(aG.1 hV).2 _ (af (l:=V) (i:=i.toNat) (d:=0) (by omega))
  have hum:(U.getD (V.getD i.toNat 0).toNat [])∈U:=af (by omega)
  have MQ:=jN.2 _ hum
  have hud:∀d∈(U.getD (V.getD i.toNat 0).toNat []),0<=d/\d<=1000000:=fun d hd=>by obtain⟨_,y1,_,y2⟩:=cv Tl ((Xf.mem (V.getD i.toNat 0).toNat (by omega) d).1 hd).1;exact⟨y1,y2⟩
  have htb:pN (GR L (U.getD (V.getD i.toNat 0).toNat []) (U.getD (V.getD i.toNat 0).toNat []).length) (T.getD (V.getD i.toNat 0).toNat [])=K0 V L T U i.toNat:=by rw[I8];rfl
  refine go (pr:=(aV i V.length)/\(aV (V.getD i.toNat 0) U.length)/\((∀d∈(U.getD (V.getD i.toNat 0).toNat []),0<=d/\d<=1000000)/\(U.getD (V.getD i.toNat 0).toNat []).length<=1000000/\L.length<=1000000)/\(aV (V.getD i.toNat 0) T.length)/\True) [] h ⟨bx,bx,⟨hud,by omega,by omega⟩,bx,tv⟩ fun _ _ h=>?_
  refine ag h (fun(q3:(pN (GR L (U.getD (V.getD i.toNat 0).toNat []) (U.getD (V.getD i.toNat 0).toNat []).length) (T.getD (V.getD i.toNat 0).toNat []))=false)=>?_) (fun(q3:(pN (GR L (U.getD (V.getD i.toNat 0).toNat []) (U.getD (V.getD i.toNat 0).toNat []).length) (T.getD (V.getD i.toNat 0).toNat []))=true)=>?_)
  .refine aC [] h fun _ _ h=>?_
   exact out (((V.getD i.toNat 0):Int),(true:Bool),()) h (by rw[GV vt i0 (by omega) (by rw[<-htb];exact q3) i2])
  refine go (pr:=(aX .i64 (i+1))) [] h bw fun _ _ h=>?_
  exact bZ (cq (i+1) (ir 9) h ⟨by omega,by omega,fun j hj=>if z:(j:Int)<i then i2 j z else by rw[show j=i.toNat by omega,<-htb];exact q3⟩ (by omega))
 refine aC [] h fun _ _ h=>?_
 exact out (((0:Int):Int),(false:Bool),()) h (by rw[K1 vt (fun j hj=>i2 j (by omega))])
def CN:cE Tryz.prog:=plain TU
abbrev U1:ur:=⟨[.box 24 [.int,.own 2],.box 3 [.int],.rd fA],[.int,.ptr 0 0,.ptr 1 0],[.box 24 [.int,.own 2],.box 3 [.int],.rd fA],[.bool],3⟩
theorem Lk:gQ Tryz.prog 84 U1 (fun x=>0<=(I_ x.2.1)/\(I_ x.2.1)/2<((E_ x.1.2.2.1).length:Int)/\(I_ x.2.1)<=1000000) (fun x=>((((I_ x.1.1.1),(),()),((I_ x.1.2.1.1),()),(E_ x.1.2.2.1),()),(decide (ak (E_ x.1.2.2.1) (I_ x.2.1)=(I_ x.1.2.1.1)),()))):=by
 refine ij Tryz.f84 10 [qE] U1 Tryz.func84 fun o A x hd _ _ h=>?_
 obtain⟨⟨⟨(n:Int),_,_⟩,⟨(v:Int),_⟩,(E:List (Int×Int)),_⟩,⟨(x:Int),_,_,_⟩⟩:=x
 have fS:=gL h 2 E
 change 0<=x/\x/2<(E.length:Int)/\x<=1000000 at hd
 obtain⟨d0,d1,d2⟩:=hd
 refine go (pr:=(0<=x/\x/2<(E.length:Int)/\x<=1000000)) [] h (⟨by omega,by omega,by omega⟩) fun _ _ h=>?_
 exact pE (((n,(),()),(v,()),E,()),(decide (ak E x=v),())) (ir 3) h rfl
def Ll:cE Tryz.prog:=uv Lk
abbrev U3:ur:=⟨[.box 24 [.int,.own 2],.box 3 [.int],.rd fA,.rd .int],[.own 3,.nh 84 [(0,0),(1,0)]],[.box 24 [.int,.own 2],.box 3 [.int],.rd fA,.rd .int],[.int],4⟩
theorem Qr:gQ Tryz.prog 83 U3 (fun x=> ∀d∈(J_ x.1.2.2.2.1),zk (E_ x.1.2.2.1) d/\d<=1000000) (fun x=>((((I_ x.1.1.1),(),()),((I_ x.1.2.1.1),()),(E_ x.1.2.2.1),(J_ x.1.2.2.2.1),()),(cL (E_ x.1.2.2.1) (I_ x.1.2.1.1) (J_ x.1.2.2.2.1),()))):=by
 refine ij Tryz.f83 19 [Ll] U3 Tryz.func83 fun o A x hd _ _ h=>?_
 obtain⟨⟨⟨(n:Int),_,_⟩,⟨(v:Int),_⟩,(E:List (Int×Int)),(l:List Int),_⟩,⟨_,_,_⟩⟩:=x
 have fS:=gL h 2 E
 have jm:=cg h 3 l
 change ∀d∈l,zk E d/\d<=1000000 at hd
 refine aC [] h fun _ _ h=>?_
 refine go_loop (Int) (fun i=>⟨[(0,eo 3),(1,some ⟨[],.one (.nh 84 [(0,0),(1,0)])⟩),(7,en (l.length:Int)),(8,en i)],[(0,some (.box 24 [.v (.int .i64 n),.own 2])),(1,some (.box 3 [.v (.int .i64 v)])),(2,some (.ar fA E)),(3,some (.ar .int l))],4⟩) (fun i=>0<=i/\i<=(l.length:Int)/\∀j:Nat,(j:Int)<i->¬ak E (l.getD j 0)=v) (fun i=>((l.length:Int)-i).toNat) (0) (ir 4) h ⟨Int.le_refl _,Int.natCast_nonneg _,fun j hj=>by omega⟩ fun i _ _ _ cq hI h=>?_
 obtain⟨i0,i1,i2⟩:=hI
 refine aC [] h fun _ _ h=>?_
 refine ag h (fun(q1:i<(l.length:Int))=>?_) (fun(q1:¬(i<(l.length:Int)))=>?_)
 .obtain⟨⟨d0,d1⟩,d2⟩:=hd _ (af (l:=l) (i:=i.toNat) (d:=0) (by omega))
  refine go (pr:=(aV i l.length)/\(0<=(l.getD i.toNat 0)/\(l.getD i.toNat 0)/2<(E.length:Int)/\(l.getD i.toNat 0)<=1000000)) [] h ⟨bx,⟨by omega,by omega,by omega⟩⟩ fun _ _ h=>?_
  refine ag h (fun(q2:(decide (ak E (l.getD i.toNat 0)=v))=true)=>?_) (fun(q2:(decide (ak E (l.getD i.toNat 0)=v))=false)=>?_)
  .refine aC [] h fun _ _ h=>?_
   exact pE (((n,(),()),(v,()),E,l,()),(i,())) (ir 4) h (by rw[EF i0 (by omega) (of_decide_eq_true q2) i2])
  refine go (pr:=(aX .i64 (i+1))) [] h bw fun _ _ h=>?_
  exact bZ (cq (i+1) (ir 4) h ⟨by omega,by omega,fun j hj=>if z:(j:Int)<i then i2 j z else by rw[show j=i.toNat by omega];exact fun q=>absurd (decide_eq_true q) (by rw[q2];decide)⟩ (by omega))
 refine aC [] h fun _ _ h=>?_
 exact pE (((n,(),()),(v,()),E,l,()),((-1:Int),())) (ir 4) h (by rw[IB (fun j hj=>i2 j (by omega))])
def Qs:cE Tryz.prog:=uv Qr
theorem Qt:aS Tryz.prog 43 [(false,gX),(false,(.pair .int (.list .int)))] [(.list (.list .int))] (fun x=>bz (I_ x.1.1)/\(J_ x.2.1.2).length<=100000/\∀d∈(J_ x.2.1.2),-9223372036854775808<=d/\d<=9223372036854775807) (fun x=>(fP (I_ x.1.1) (E_ x.1.2) (J_ x.2.1.2),())):=by
 refine aF Tryz.f43 82 [IP,Qs,Co,qE] Tryz.func43 fun o x hd _ _ h=>?_
 obtain⟨⟨(n:Int),(E:List (Int×Int))⟩,⟨(k:Int),(ds:List Int)⟩,_⟩:=x
 have e7:=gL h 0 E
 have eZ:=cg h 1 ds
 change bz n/\ds.length<=100000/\∀d∈ds,-9223372036854775808<=d/\d<=9223372036854775807 at hd
 obtain⟨hn,oG,Al⟩:=hd
 refine go (pr:=(bz n)) [] h hn fun _ _ h=>?_
 refine ag h (fun(q1:¬(bh n E=0))=>?_) (fun(q1:bh n E=0)=>?_)
 .refine aC [] h fun _ _ h=>?_
  exact out (([]:List (List Int)),()) h (by rw[ve (fun q=>q1 q.1)])
 have vt:bh n E=0:=q1
 obtain⟨r1,r2,r3,_⟩:=aN vt
 refine aC [] h fun _ _ h=>?_
 refine go_loop (Int) (fun i=>⟨[(2,ep 0),(3,ep 1),(18,eo 2),(19,en (ds.length:Int)),(20,en i)],[(0,some (.box 24 [.v (.int .i64 n),.own 3])),(1,some (.box 75 [.v (.int .i64 k),.own 2])),(2,some (.ar .int ds)),(3,some (.ar fA E))],4⟩) (fun i=>0<=i/\i<=(ds.length:Int)/\∀j:Nat,(j:Int)<i->zk E (ds.getD j 0)) (fun i=>((ds.length:Int)-i).toNat) (0) (rk [2,4098,1,0]) h ⟨Int.le_refl _,Int.natCast_nonneg _,fun j hj=>by omega⟩ fun i _ _ _ cq hI h=>?_
 obtain⟨i0,i1,i2⟩:=hI
 refine aC [] h fun _ _ h=>?_
 refine ag h (fun(q2:i<(ds.length:Int))=>?_) (fun(q2:¬(i<(ds.length:Int)))=>?_)
 .have vn:=Al _ (af (l:=ds) (i:=i.toNat) (d:=0) (by omega))
  refine go (pr:=(aV i ds.length)/\((¬((ds.getD i.toNat 0)<0))->(0<=(ds.getD i.toNat 0)/\0<(2:Int)/\aX .i64 (ds.getD i.toNat 0)))) [] h ⟨bx,fun _=>⟨by omega,by omega,⟨by omega,by omega⟩⟩⟩ fun _ _ h=>?_
  refine ag h (fun(q3:((ds.getD i.toNat 0)<0)\/((E.length:Int)<=(ds.getD i.toNat 0)/2))=>?_) (fun(q3:(¬((ds.getD i.toNat 0)<0))/\(¬((E.length:Int)<=(ds.getD i.toNat 0)/2)))=>?_)
  .refine aC [] h fun _ _ h=>?_
   exact out (([]:List (List Int)),()) h (by rw[ve (n:=n) (E:=E) (ds:=ds) (fun q=>by have:=q.2 _ (af (l:=ds) (i:=i.toNat) (d:=0) (by omega));unfold zk at this;have:=q3;omega)])
  refine go (pr:=(aX .i64 (i+1))) [] h bw fun _ _ h=>?_
  exact bZ (cq (i+1) (ir 4) h ⟨by omega,by omega,fun j hj=>if z:(j:Int)<i then i2 j z else by rw[show j=i.toNat by omega];exact(show zk E (ds.getD i.toNat 0) from⟨by omega,by omega⟩)⟩ (by omega))
 have eE:∀d∈ds,zk E d:=yf (i:=i) (by omega) i2
 refine aC [] h fun _ _ h=>?_
 refine fB Int (List Int) (List (List Int)) (fun i gone ou=>⟨[(2,ep 0),(7,eo 1),(8,eo 2),(36,eo 3),(37,en (ds.length:Int)),(38,en i)],[(0,some (.box 24 [.v (.int .i64 n),.own 4])),(1,some (.row 25 (.list .int) ou)),(2,some (.row 3 .int gone)),(3,some (.ar .int ds)),(4,some (.ar fA E))],5⟩) (fun i gone ou=>0<=i/\i<=(ds.length:Int)/\(gone,ou)=Cj E ds i.toNat) (fun i gone ou=>((ds.length:Int)-i).toNat) 0 [] [] [(0,some 0),(1,none),(2,none),(3,some 2),(4,some 3)] h ⟨Int.le_refl _,Int.natCast_nonneg _,rfl⟩ fun i gone ou _ _ _ fQ hI h=>?_
 obtain⟨i0,i1,i2⟩:=hI
 refine aC [] h fun _ _ h=>?_
 refine ag h (fun(q4:i<(ds.length:Int))=>?_) (fun(q4:¬(i<(ds.length:Int)))=>?_)
 .have zV:(gone,ou)=Cj E ds i.toNat:=i2
  have Xb:=(wj (E:=E) (ds:=ds) i.toNat (by omega)).1
  rw[<-zV] at Xb
  change ∀x∈gone,x∈ds at Xb
  have EW:=qw (E:=E) (ds:=ds) i.toNat
  rw[<-zV] at EW
  change gone.length<=i.toNat/\ou.length<=i.toNat at EW
  have Xc:=eE _ (af (l:=ds) (i:=i.toNat) (d:=0) (by omega))
  have abm:=Xc.1
  have abn:=Xc.2
  have htw:0<=aq (ds.getD i.toNat 0)/\aq (ds.getD i.toNat 0)/2<(E.length:Int)/\aq (ds.getD i.toNat 0)<=1000000:=by unfold aq;split<;>omega
  have LG:∀d∈(gone++[(ds.getD i.toNat 0)]),zk E d/\d<=1000000:=fun d hd=>by
   have h1:zk E d:=(List.mem_append.1 hd).elim (fun q=>eE _ (Xb _ q)) fun q=>by rw[List.mem_singleton.1 q];exact Xc
   have h2:=h1.2;exact⟨h1,by omega⟩
  obtain⟨x0,x1⟩:=V6 (E:=E) (v:=ak E (aq (ds.getD i.toNat 0))) (l:=(gone++[(ds.getD i.toNat 0)]))
  have CP:(gone++[(ds.getD i.toNat 0)]).length=gone.length+1:=by simp
  have hdb:=IC (B:=1000000) (by decide) (fun d hd=>⟨(LG d hd).1.1,(LG d hd).2⟩) (cL E (ak E (aq (ds.getD i.toNat 0))) (gone++[(ds.getD i.toNat 0)])).toNat 1
  have vj:((gone++[(ds.getD i.toNat 0)]).drop (cL E (ak E (aq (ds.getD i.toNat 0))) (gone++[(ds.getD i.toNat 0)])).toNat).length<=(gone++[(ds.getD i.toNat 0)]).length:=by rw[List.length_drop];omega
  refine go (pr:=(aV i ds.length)/\(gone.length+([(ds.getD i.toNat 0)]:List Int).length<=2147483647)/\(0<=(ds.getD i.toNat 0)/\(ds.getD i.toNat 0)<=9223372036854775807)/\(0<=(aq (ds.getD i.toNat 0))/\(aq (ds.getD i.toNat 0))/2<(E.length:Int)/\(aq (ds.getD i.toNat 0))<=1000000)/\(∀d∈(gone++[(ds.getD i.toNat 0)]),zk E d/\d<=1000000)) [] h ⟨bx,ln,⟨by omega,by omega⟩,⟨by omega,by omega,by omega⟩,LG⟩ fun _ _ h=>?_
  refine ag h (fun(q5:cL E (ak E (aq (ds.getD i.toNat 0))) (gone++[(ds.getD i.toNat 0)])<0)=>?_) (fun(q5:¬(cL E (ak E (aq (ds.getD i.toNat 0))) (gone++[(ds.getD i.toNat 0)])<0))=>?_)
  .refine go (pr:=(aX .i64 (i+1))) [] h bw fun _ _ h=>?_
   exact bZ (fQ (i+1) (gone++[(ds.getD i.toNat 0)]) ou (rk [0,1,28677,3,4]) h ⟨by omega,by omega,by rw[mU i0,<-i2];exact(ID q5).symm⟩ (by omega))
  refine go (pr:=(0<=cL E (ak E (aq (ds.getD i.toNat 0))) (gone++[(ds.getD i.toNat 0)])/\cL E (ak E (aq (ds.getD i.toNat 0))) (gone++[(ds.getD i.toNat 0)])<=((gone++[(ds.getD i.toNat 0)]).length:Int))/\(((((gone++[(ds.getD i.toNat 0)]).drop (cL E (ak E (aq (ds.getD i.toNat 0))) (gone++[(ds.getD i.toNat 0)])).toNat).length:Int)=2)->(aV (0:Int) ((gone++[(ds.getD i.toNat 0)]).drop (cL E (ak E (aq (ds.getD i.toNat 0))) (gone++[(ds.getD i.toNat 0)])).toNat).length))/\(((((gone++[(ds.getD i.toNat 0)]).drop (cL E (ak E (aq (ds.getD i.toNat 0))) (gone++[(ds.getD i.toNat 0)])).toNat).length:Int)=2)->(aV (1:Int) ((gone++[(ds.getD i.toNat 0)]).drop (cL E (ak E (aq (ds.getD i.toNat 0))) (gone++[(ds.getD i.toNat 0)])).toNat).length))/\(((((gone++[(ds.getD i.toNat 0)]).drop (cL E (ak E (aq (ds.getD i.toNat 0))) (gone++[(ds.getD i.toNat 0)])).toNat).length:Int)=2)->(0<=(((gone++[(ds.getD i.toNat 0)]).drop (cL E (ak E (aq (ds.getD i.toNat 0))) (gone++[(ds.getD i.toNat 0)])).toNat).getD 1 0)/\(((gone++[(ds.getD i.toNat 0)]).drop (cL E (ak E (aq (ds.getD i.toNat 0))) (gone++[(ds.getD i.toNat 0)])).toNat).getD 1 0)<=9223372036854775807))) [(57,true)] h ⟨⟨by omega,by omega⟩,fun _=>bx,fun _=>bx,fun _=>⟨by omega,by omega⟩⟩ fun _ _ h=>?_
  refine ag h (fun(q6:(¬((((gone++[(ds.getD i.toNat 0)]).drop (cL E (ak E (aq (ds.getD i.toNat 0))) (gone++[(ds.getD i.toNat 0)])).toNat).length:Int)=2))\/(¬((((gone++[(ds.getD i.toNat 0)]).drop (cL E (ak E (aq (ds.getD i.toNat 0))) (gone++[(ds.getD i.toNat 0)])).toNat).getD 0 0)=(if(((gone++[(ds.getD i.toNat 0)]).drop (cL E (ak E (aq (ds.getD i.toNat 0))) (gone++[(ds.getD i.toNat 0)])).toNat).getD 1 0)%2=0 then(((gone++[(ds.getD i.toNat 0)]).drop (cL E (ak E (aq (ds.getD i.toNat 0))) (gone++[(ds.getD i.toNat 0)])).toNat).getD 1 0)+1 else(((gone++[(ds.getD i.toNat 0)]).drop (cL E (ak E (aq (ds.getD i.toNat 0))) (gone++[(ds.getD i.toNat 0)])).toNat).getD 1 0)-1))))=>?_) (fun(q6:((((gone++[(ds.getD i.toNat 0)]).drop (cL E (ak E (aq (ds.getD i.toNat 0))) (gone++[(ds.getD i.toNat 0)])).toNat).length:Int)=2)/\((((gone++[(ds.getD i.toNat 0)]).drop (cL E (ak E (aq (ds.getD i.toNat 0))) (gone++[(ds.getD i.toNat 0)])).toNat).getD 0 0)=(if(((gone++[(ds.getD i.toNat 0)]).drop (cL E (ak E (aq (ds.getD i.toNat 0))) (gone++[(ds.getD i.toNat 0)])).toNat).getD 1 0)%2=0 then(((gone++[(ds.getD i.toNat 0)]).drop (cL E (ak E (aq (ds.getD i.toNat 0))) (gone++[(ds.getD i.toNat 0)])).toNat).getD 1 0)+1 else(((gone++[(ds.getD i.toNat 0)]).drop (cL E (ak E (aq (ds.getD i.toNat 0))) (gone++[(ds.getD i.toNat 0)])).toNat).getD 1 0)-1)))=>?_)
  .refine go (pr:=(((gone++[(ds.getD i.toNat 0)]).drop (cL E (ak E (aq (ds.getD i.toNat 0))) (gone++[(ds.getD i.toNat 0)])).toNat).length<=1000000)/\(ou.length+([((gone++[(ds.getD i.toNat 0)]).drop (cL E (ak E (aq (ds.getD i.toNat 0))) (gone++[(ds.getD i.toNat 0)])).toNat)]:List (List Int)).length<=2147483647)/\(0<=cL E (ak E (aq (ds.getD i.toNat 0))) (gone++[(ds.getD i.toNat 0)])/\cL E (ak E (aq (ds.getD i.toNat 0))) (gone++[(ds.getD i.toNat 0)])<=cL E (ak E (aq (ds.getD i.toNat 0))) (gone++[(ds.getD i.toNat 0)])/\cL E (ak E (aq (ds.getD i.toNat 0))) (gone++[(ds.getD i.toNat 0)])<=((gone++[(ds.getD i.toNat 0)]).length:Int))/\(aX .i64 (i+1))) [] h ⟨by omega,ln,⟨by omega,by omega,by omega⟩,bw⟩ fun _ _ h=>?_
   exact bZ (fQ (i+1) ((gone++[(ds.getD i.toNat 0)]).take (cL E (ak E (aq (ds.getD i.toNat 0))) (gone++[(ds.getD i.toNat 0)])).toNat) (ou++([((gone++[(ds.getD i.toNat 0)]).drop (cL E (ak E (aq (ds.getD i.toNat 0))) (gone++[(ds.getD i.toNat 0)])).toNat)]:List (List Int))) (rk [0,172037,192517,3,4]) h ⟨by omega,by omega,by rw[mU i0,<-i2];exact(IE q5 q6).symm⟩ (by omega))
  refine go (pr:=(0<=cL E (ak E (aq (ds.getD i.toNat 0))) (gone++[(ds.getD i.toNat 0)])/\cL E (ak E (aq (ds.getD i.toNat 0))) (gone++[(ds.getD i.toNat 0)])<=cL E (ak E (aq (ds.getD i.toNat 0))) (gone++[(ds.getD i.toNat 0)])/\cL E (ak E (aq (ds.getD i.toNat 0))) (gone++[(ds.getD i.toNat 0)])<=((gone++[(ds.getD i.toNat 0)]).length:Int))/\(aX .i64 (i+1))) [] h ⟨⟨by omega,by omega,by omega⟩,bw⟩ fun _ _ h=>?_
  exact bZ (fQ (i+1) ((gone++[(ds.getD i.toNat 0)]).take (cL E (ak E (aq (ds.getD i.toNat 0))) (gone++[(ds.getD i.toNat 0)])).toNat) ou (rk [0,1,167941,3,4]) h ⟨by omega,by omega,by rw[mU i0,<-i2];exact(OF q5 q6).symm⟩ (by omega))
 have oz:i.toNat=ds.length:=by omega
 rw[oz] at i2
 refine aC [] h fun _ _ h=>?_
 exact out ((ou:List (List Int)),()) h (by rw[GL vt eE,<-i2])
def Qu:cE Tryz.prog:=plain Qt
theorem Qv:aS Tryz.prog 25 [(false,gX),(false,fR),(false,(.pair (.list (.list .int)) (.list (.list .int))))] [(.list (.list .int)),.int] (fun x=>bz (I_ x.1.1)/\aO (K_ x.2.2.1.1)/\av (K_ x.2.2.1.1)/\aO (K_ x.2.2.1.2)/\av (K_ x.2.2.1.2)) (fun x=>(bn (I_ x.1.1) (E_ x.1.2) (J_ x.2.1.1) (J_ x.2.1.2) (K_ x.2.2.1.1) (K_ x.2.2.1.2),bA (I_ x.1.1) (E_ x.1.2) (J_ x.2.1.1) (J_ x.2.1.2) (K_ x.2.2.1.1) (K_ x.2.2.1.2),())):=by
 refine aF Tryz.f25 45 [Qu,tH,tG] Tryz.func25 fun o x hd _ _ h=>?_
 obtain⟨⟨(n:Int),(E:List (Int×Int))⟩,⟨(V:List Int),(L:List Int)⟩,⟨(T:List (List Int)),(S:List (List Int))⟩,_⟩:=x
 have e7:=gL h 0 E
 have eZ:=cg h 1 V
 have fS:=cg h 2 L
 have jm:=eP h 3 T
 have tE:=eP h 4 S
 change bz n/\aO T/\av T/\aO S/\av S at hd
 obtain⟨hn,gp,cw,gF,cS⟩:=hd
 have tF:=cS.1
 refine go (pr:=(bz n/\aO T/\av T/\aO S/\av S)) [] h (⟨hn,gp,cw,gF,cS⟩) fun _ _ h=>?_
 refine ag h (fun(q1:¬(bA n E V L T S=0))=>?_) (fun(q1:bA n E V L T S=0)=>?_)
 .refine aC [] h fun _ _ h=>?_
  exact out (([]:List (List Int)),(bA n E V L T S:Int),()) h (by rw[rX q1])
 have iZ:=q1
 have lU:=bf (bH iZ).1
 obtain⟨gw,hT,hW⟩:=bS lU
 have hP:=fo gw
 obtain⟨jZ,hV,hL,_⟩:=aD gw
 obtain⟨r1,r2,r3,_⟩:=aN jZ
 have zw:=ay hV r1
 have vf:=ay hL (by omega)
 have Jk:=hP.len
 have GK:=hW.len
 have XC:=nV (fun k=>(hP.bd k).1) (P:=(az n E V L))
 have Ti:=iF lU
 have hWk:=pM (fun w hw=>(Ti w hw).2)
 refine go (pr:=(bz n/\aO T/\av T)) [] h (⟨hn,gp,cw⟩) fun _ _ h=>?_
 refine ag h (fun(q2:¬((aa n E V L T).2=0))=>?_) (fun(q2:(aa n E V L T).2=0)=>?_)
 .exact(q2 lU).elim
 refine aC [] h fun _ _ h=>?_
 refine aK Int (List (List Int)) (fun i ou=>⟨[(3,ep 0),(11,eo 1),(32,eo 2),(33,en (((aa n E V L T).1).length:Int)),(34,en i)],[(0,some (.box 24 [.v (.int .i64 n),.own 3])),(1,some (.row 25 (.list .int) ou)),(2,some (.ro (.pair .int (.list .int)) ((aa n E V L T).1))),(3,some (.ar fA E))],4⟩) (fun i ou=>0<=i/\i<=((aa n E V L T).1.length:Int)/\ou=Lz n E (aa n E V L T).1 i.toNat) (fun i ou=>(((aa n E V L T).1.length:Int)-i).toNat) 0 [] [(0,some 5),(1,none),(2,some 65541),(3,some 0)] h ⟨Int.le_refl _,Int.natCast_nonneg _,rfl⟩ fun i ou _ _ _ cq hI h=>?_
 obtain⟨k0,k1,k2⟩:=hI
 refine aC [] h fun _ _ h=>?_
 refine ag h (fun(q3:i<(((aa n E V L T).1).length:Int))=>?_) (fun(q3:¬(i<(((aa n E V L T).1).length:Int)))=>?_)
 .have rT:((aa n E V L T).1.getD i.toNat (0,[]))∈(aa n E V L T).1:=af (by omega)
  have Tj:=Ti _ rT
  have hwl:=Tj.2
  have hwr:∀d∈((aa n E V L T).1.getD i.toNat (0,[])).2,-9223372036854775808<=d/\d<=9223372036854775807:=fun d hd=>by obtain⟨_,y1,_,y2⟩:=cv gw (Tj.1 d hd);omega
  have zH:=CD (n:=n) (E:=E) hWk i.toNat
  rw[<-k2] at zH
  have WW:i.toNat*(2*L.length)<=10000*10000:=Nat.mul_le_mul (show i.toNat<=10000 by omega) (show 2*L.length<=10000 by omega)
  have ZA:=yu n E ((aa n E V L T).1.getD i.toNat (0,[])).2
  refine go (pr:=(aV i ((aa n E V L T).1).length)/\(bz n/\(((aa n E V L T).1).getD i.toNat (0,[])).2.length<=100000/\∀d∈(((aa n E V L T).1).getD i.toNat (0,[])).2,-9223372036854775808<=d/\d<=9223372036854775807)/\(ou.length+(fP n E (((aa n E V L T).1).getD i.toNat (0,[])).2).length<=2147483647)/\(aX .i64 (i+1))) [] h ⟨bx,⟨hn,by omega,hwr⟩,ln,bw⟩ fun _ _ h=>?_
  exact bZ (cq (i+1) (ou++(fP n E (((aa n E V L T).1).getD i.toNat (0,[])).2)) (rk [0,36868,2,3]) h ⟨by omega,by omega,by rw[Pu k0,<-k2]⟩ (by omega))
 have ru:i.toNat=(aa n E V L T).1.length:=by omega
 rw[ru] at k2
 refine aC [] h fun _ _ h=>?_
 exact out ((ou:List (List Int)),((0:Int):Int),()) h (by rw[mY iZ,iZ,<-k2])
def Qw:cE Tryz.prog:=plain Qv
abbrev Jy:ur:=⟨[.box 138 [.mp 1,.own 2,.own 3,.int],.map .int .int,.row 3 .int,.row 3 .int],[.ptr 0 0,.int,.int],[.box 138 [.mp 1,.own 2,.own 3,.int],.map .int .int,.row 3 .int,.row 3 .int],[.bool],1⟩
theorem XI:gQ Tryz.prog 88 Jy (fun x=>(-9223372036854775808<=(I_ x.2.2.1)/\(I_ x.2.2.1)<=9223372036854775807)/\(-9223372036854775808<=(I_ x.2.2.2.1)/\(I_ x.2.2.2.1)<=9223372036854775807)/\lu (show bl .int Int from x.1.2.1) (J_ x.1.2.2.1) (J_ x.1.2.2.2.1)/\(J_ x.1.2.2.1).length<=900000/\-900000<=(I_ x.1.1.2.2.2.1)/\(I_ x.1.1.2.2.2.1)<=900000) (fun x=>((((),(),(),(I_ x.1.1.2.2.2.1),()),(show bl .int Int from x.1.2.1),(J_ x.1.2.2.1),UK ((show bl .int Int from x.1.2.1),(J_ x.1.2.2.1),(J_ x.1.2.2.2.1),(I_ x.1.1.2.2.2.1)) (I_ x.2.2.1) (I_ x.2.2.2.1),()),(GJ ((show bl .int Int from x.1.2.1),(J_ x.1.2.2.1),(J_ x.1.2.2.2.1),(I_ x.1.1.2.2.2.1)) (I_ x.2.2.1) (I_ x.2.2.2.1),()))):=by
 refine ij Tryz.f88 52 [Ot,Qj] Jy Tryz.func88 fun o A x hd _ _ h=>?_
 obtain⟨⟨⟨_,_,_,(g:Int),_⟩,(M:bl .int Int),(L:List Int),(U:List Int),_⟩,⟨_,(x:Int),(y:Int),_⟩⟩:=x
 have fS:=cg h 2 L
 have jm:=cg h 3 U
 change (-9223372036854775808<=x/\x<=9223372036854775807)/\(-9223372036854775808<=y/\y<=9223372036854775807)/\lu M L U/\L.length<=900000/\-900000<=g/\g<=900000 at hd
 obtain⟨⟨x0,x1⟩,⟨y0,y1⟩,hR,hL,g0,g1⟩:=hd
 have w1:=hR.len
 refine go (pr:=(dc .int x)/\((true=true)->(dc .int y))) [] h ⟨wk,fun _=>wk⟩ fun _ _ h=>?_
 refine ag h (fun(q1:(true=false)\/(true=false))=>?_) (fun(q1:(true=true)/\(true=true))=>?_)
 .rcases q1 with q|q<;>cases q
 by_cases z1:(ah M x).isSome=true
 .by_cases z2:(ah M y).isSome=true
  .obtain⟨i,hi⟩:=Option.isSome_iff_exists.1 z1
   obtain⟨j,hj⟩:=Option.isSome_iff_exists.1 z2
   have gi:((ah M x).getD 0)=i:=by rw[hi];rfl
   have gj:((ah M y).getD 0)=j:=by rw[hj];rfl
   obtain⟨a0,a1,_⟩:=hR.at_ _ _ hi
   obtain⟨b0,b1,_⟩:=hR.at_ _ _ hj
   obtain⟨c1,c2,c3,c4,c5,c6,c7,c8⟩:=UJ hR.ok (i:=((ah M x).getD 0)) (j:=((ah M y).getD 0)) (by omega) (by omega) (by omega) (by omega)
   refine go (pr:=(dc .int x)/\(dc .int y)/\(((ah M x).isSome)=true)/\(((ah M y).isSome)=true)/\(gM U/\0<=((ah M x).getD 0)/\((ah M x).getD 0)<(U.length:Int)/\U.length<=1000000)/\(gM (ia U ((ah M x).getD 0))/\0<=((ah M y).getD 0)/\((ah M y).getD 0)<((ia U ((ah M x).getD 0)).length:Int)/\(ia U ((ah M x).getD 0)).length<=1000000)) [(40,true),(43,true)] h ⟨wk,wk,z1,z2,⟨by first|exact hR.ok|assumption,by omega,by omega,by omega⟩,⟨by first|exact hR.ok|assumption,by omega,by omega,by omega⟩⟩ fun _ _ h=>?_
   exact pE ((((),(),(),g,()),M,L,ia (ia U ((ah M x).getD 0)) ((ah M y).getD 0),()),(decide (tg U ((ah M x).getD 0)=tg (ia U ((ah M x).getD 0)) ((ah M y).getD 0)),())) (rk [0,176133,176134,176135]) h (by simp only[UK,GJ,hi,hj,Option.getD_some];rfl)
  refine go (pr:=(dc .int x)/\(dc .int y)/\(((ah M x).isSome)=true)/\(((ah M y).isSome)=false)) [(40,true),(43,false)] h ⟨wk,wk,z1,(Bool.eq_false_iff.2 z2)⟩ fun _ _ h=>?_
  have hn:ah M y=none:=by cases hq:ah M y with|none=>rfl|some _=>rw[hq] at z2;exact absurd rfl z2
  exact pE ((((),(),(),g,()),M,L,U,()),(false,())) (ir 4) h (by obtain⟨i,hi⟩:=Option.isSome_iff_exists.1 z1;simp only[UK,GJ,hi,hn];rfl)
 refine go (pr:=(dc .int x)/\(dc .int y)/\(((ah M x).isSome)=false)) [(40,false)] h ⟨wk,wk,(Bool.eq_false_iff.2 z1)⟩ fun _ _ h=>?_
 have hn:ah M x=none:=by cases hq:ah M x with|none=>rfl|some _=>rw[hq] at z1;exact absurd rfl z1
 exact pE ((((),(),(),g,()),M,L,U,()),(false,())) (ir 4) h (by simp only[UK,GJ,hn];rfl)
def XJ:cE Tryz.prog:=uv XI
abbrev Fb:ur:=⟨[.row 25 (.list .int)],[.own 0],[.row 25 (.list .int)],[],1⟩
theorem TV:gQ Tryz.prog 126 Fb (fun x=>lJ (K_ x.1.1)/\(K_ x.1.1).length<=1000000) (fun x=>((kP (K_ x.1.1),()),(()))):=by
 refine ij Tryz.f126 4 [Wr] Fb Tryz.func126 fun o A x hd _ _ h=>?_
 obtain⟨⟨(l:List (List Int)),_⟩,⟨_,_⟩⟩:=x
 have e7:=eP h 0 l
 change lJ l/\l.length<=1000000 at hd
 refine go (pr:=(lJ l/\l.length<=1000000)) [] h hd fun _ _ h=>?_
 exact pE ((kP l,()),(())) (ir 1) h rfl
def TW:cE Tryz.prog:=uv TV
theorem Lm:aS Tryz.prog 108 [(false,gX),(false,fR),(false,(.pair (.list (.list .int)) (.list (.list .int))))] [(.list (.list .int)),.int] (fun x=>bz (I_ x.1.1)/\aO (K_ x.2.2.1.1)/\av (K_ x.2.2.1.1)/\aO (K_ x.2.2.1.2)/\av (K_ x.2.2.1.2)) (fun x=>(cA (I_ x.1.1) (E_ x.1.2) (J_ x.2.1.1) (J_ x.2.1.2) (K_ x.2.2.1.1) (K_ x.2.2.1.2),bA (I_ x.1.1) (E_ x.1.2) (J_ x.2.1.1) (J_ x.2.1.2) (K_ x.2.2.1.1) (K_ x.2.2.1.2),())):=by
 refine aF Tryz.f108 86 [IP,TW,tH,tG] Tryz.func108 fun o x hd _ _ h=>?_
 obtain⟨⟨(n:Int),(E:List (Int×Int))⟩,⟨(V:List Int),(L:List Int)⟩,⟨(T:List (List Int)),(S:List (List Int))⟩,_⟩:=x
 have e7:=gL h 0 E
 have eZ:=cg h 1 V
 have fS:=cg h 2 L
 have jm:=eP h 3 T
 have tE:=eP h 4 S
 change bz n/\aO T/\av T/\aO S/\av S at hd
 obtain⟨hn,gp,cw,gF,cS⟩:=hd
 have tF:=cS.1
 refine go (pr:=(bz n/\aO T/\av T/\aO S/\av S)) [] h (⟨hn,gp,cw,gF,cS⟩) fun _ _ h=>?_
 refine ag h (fun(q1:¬(bA n E V L T S=0))=>?_) (fun(q1:bA n E V L T S=0)=>?_)
 .refine aC [] h fun _ _ h=>?_
  exact out (([]:List (List Int)),(bA n E V L T S:Int),()) h (by rw[O7 q1])
 have iZ:=q1
 obtain⟨DV,sx,hsx,_⟩:=bH iZ
 have lU:=bf DV
 obtain⟨gw,hT,hW⟩:=bS lU
 have hP:=fo gw
 obtain⟨jZ,hV,hL,_⟩:=aD gw
 obtain⟨r1,r2,r3,_⟩:=aN jZ
 have zw:=ay hV r1
 have vf:=ay hL (by omega)
 have Jk:=hP.len
 have GK:=hW.len
 have XC:=nV (fun k=>(hP.bd k).1) (P:=(az n E V L))
 have IS:=mT hsx
 have hSl:∀k,(S.getD k []).length<=10000:=fun k=>by rw[List.getD_eq_getElem?_getD];cases hq:S[k]? with|none=>exact Nat.zero_le _|some z=>exact cS.2 _ (List.mem_of_getElem? hq)
 refine aC [] h fun _ _ h=>?_
 refine fB Int (List (List Int)) (List (Int×Int)) (fun i ou m=>⟨[(3,ep 0),(4,ep 1),(5,ep 2),(9,eo 3),(10,em 4),(30,eo 5),(31,en (S.length:Int)),(32,en i)],[(0,some (.box 24 [.v (.int .i64 n),.own 6])),(1,some (.box 27 [.own 7,.own 8])),(2,some (.box 30 [.own 9,.own 5])),(3,some (.row 25 (.list .int) ou)),(4,some (.map .int .int m)),(5,some (.ar (.list .int) S)),(6,some (.ar fA E)),(7,some (.ar .int V)),(8,some (.ar .int L)),(9,some (.ar (.list .int) T))],10⟩) (fun i ou m=>0<=i/\i<=(S.length:Int)/\ou=S.take i.toNat/\m=e6 S i.toNat) (fun i ou m=>((S.length:Int)-i).toNat) 0 [] [] [(0,some 5),(1,some 4101),(2,some 8197),(3,none),(4,some 53253),(5,some 4),(6,some 0),(7,some 1),(8,some 2),(9,some 3)] h ⟨Int.le_refl _,Int.natCast_nonneg _,rfl,rfl⟩ fun i ou m _ _ _ cq hI h=>?_
 obtain⟨i0,i1,i2,i3⟩:=hI
 refine aC [] h fun _ _ h=>?_
 refine ag h (fun(q2:i<(S.length:Int))=>?_) (fun(q2:¬(i<(S.length:Int)))=>?_)
 .have hm:(S.getD i.toNat [])∈S:=af (by omega)
  have Oy:=cS.2 _ hm
  have dL:=IS i.toNat (by omega)
  have uS:=yp hSl i.toNat
  rw[<-i3] at uS
  have WW:i.toNat*10000<=100000000:=Nat.mul_le_mul_right 10000 (show i.toNat<=10000 by omega)
  have CV:ou.length<=i.toNat:=by rw[i2,List.length_take];exact Nat.min_le_left _ _
  refine go (pr:=(aV i S.length)/\((S.getD i.toNat []).length<=1000000)/\(ou.length+([(S.getD i.toNat [])]:List (List Int)).length<=2147483647)) [] h ⟨bx,by omega,ln⟩ fun _ _ h=>?_
  refine aK Int (List (Int×Int)) (fun j mm=>⟨[(3,ep 0),(4,ep 1),(5,ep 2),(9,eo 3),(10,em 4),(11,en i),(30,eo 5),(31,en (S.length:Int)),(32,en i),(42,eo 6),(43,en ((S.getD i.toNat []).length:Int)),(44,en j)],[(0,some (.box 24 [.v (.int .i64 n),.own 7])),(1,some (.box 27 [.own 8,.own 9])),(2,some (.box 30 [.own 10,.own 5])),(3,some (.row 25 (.list .int) (ou++([(S.getD i.toNat [])]:List (List Int))))),(4,some (.map .int .int mm)),(5,some (.ar (.list .int) S)),(6,some (.ar .int (S.getD i.toNat []))),(7,some (.ar fA E)),(8,some (.ar .int V)),(9,some (.ar .int L)),(10,some (.ar (.list .int) T))],11⟩) (fun j mm=>0<=j/\j<=((S.getD i.toNat []).length:Int)/\mm=qJ (e6 S i.toNat) (S.getD i.toNat []) i j.toNat) (fun j mm=>(((S.getD i.toNat []).length:Int)-j).toNat) 0 m (rk [0,1,2,40970,4,5,12298,6,7,8,9]) h ⟨Int.le_refl _,Int.natCast_nonneg _,i3⟩ fun j mm _ _ _ fQ hI h=>?_
  obtain⟨j0,j1,j2⟩:=hI
  refine aC [] h fun _ _ h=>?_
  refine ag h (fun(q3:j<((S.getD i.toNat []).length:Int))=>?_) (fun(q3:¬(j<((S.getD i.toNat []).length:Int)))=>?_)
  .have Sf:=gF _ hm _ (af (l:=(S.getD i.toNat [])) (i:=j.toNat) (d:=0) (by omega))
   have we:=jo (m:=e6 S i.toNat) (vs:=(S.getD i.toNat [])) (c:=i) j.toNat
   rw[<-j2,<-i3] at we
   refine go (pr:=(aV j (S.getD i.toNat []).length)/\(dc .int ((S.getD i.toNat []).getD j.toNat 0))/\(mm.length<=2147483647)/\(aX .i64 (j+1))) [] h ⟨bx,wk,ln,bw⟩ fun _ _ h=>?_
   exact bZ (fQ (j+1) (cB mm ((S.getD i.toNat []).getD j.toNat 0) i) (ir 11) h ⟨by omega,by omega,by rw[pn j0,<-j2]⟩ (by omega))
  have CG:j.toNat=(S.getD i.toNat []).length:=by omega
  have r7:=j2
  rw[CG] at r7
  refine go (pr:=(aX .i64 (i+1))) [] h bw fun _ _ h=>?_
  exact bZ (cq (i+1) (ou++([(S.getD i.toNat [])]:List (List Int))) mm (rk [0,1,2,3,4,5,7,8,9,10]) h ⟨by omega,by omega,by rw[show(i+1).toNat=i.toNat+1 by omega,b6 (show i.toNat<S.length by omega) [],<-i2],by rw[A4 i0,<-r7]⟩ (by omega))
 have oz:i.toNat=S.length:=by omega
 rw[oz] at i2 i3
 rw[List.take_length] at i2
 refine go (pr:=(bz n/\aO T/\av T)) [] h (⟨hn,gp,cw⟩) fun _ _ h=>?_
 refine aK Int (List (List Int)) (fun i o2=>⟨[(9,eo 0),(10,em 1),(61,eo 2),(62,en (((aa n E V L T).1).length:Int)),(63,en i)],[(0,some (.row 25 (.list .int) o2)),(1,some (.map .int .int m)),(2,some (.ro (.pair .int (.list .int)) ((aa n E V L T).1)))],3⟩) (fun i o2=>0<=i/\i<=((aa n E V L T).1.length:Int)/\o2=S++Cu (e6 S S.length) (aa n E V L T).1 i.toNat) (fun i o2=>(((aa n E V L T).1.length:Int)-i).toNat) 0 ou (rk [3,4,20490]) h ⟨Int.le_refl _,Int.natCast_nonneg _,by rw[i2];exact(List.append_nil S).symm⟩ fun i o2 _ _ _ sj hI h=>?_
 obtain⟨k0,k1,k2⟩:=hI
 refine aC [] h fun _ _ h=>?_
 refine ag h (fun(q4:i<(((aa n E V L T).1).length:Int))=>?_) (fun(q4:¬(i<(((aa n E V L T).1).length:Int)))=>?_)
 .have rT:((aa n E V L T).1.getD i.toNat (0,[]))∈(aa n E V L T).1:=af (by omega)
  have My:=u9 gw hW rT
  have abC:=wu (m:=(e6 S S.length)) (W:=(aa n E V L T).1) i.toNat
  have Z9:o2.length=S.length+(Cu (e6 S S.length) (aa n E V L T).1 i.toNat).length:=by rw[k2,List.length_append]
  refine go (pr:=(aV i ((aa n E V L T).1).length)/\(dc .int ((((aa n E V L T).1).getD i.toNat (0,[])).1))) [] h ⟨bx,wk⟩ fun _ _ h=>?_
  refine ag h (fun(q5:((ah m ((((aa n E V L T).1).getD i.toNat (0,[])).1)).isSome)=false)=>?_) (fun(q5:((ah m ((((aa n E V L T).1).getD i.toNat (0,[])).1)).isSome)=true)=>?_)
  .refine go (pr:=(o2.length+([([(((aa n E V L T).1).getD i.toNat (0,[])).1]:List Int)]:List (List Int)).length<=2147483647)/\(aX .i64 (i+1))) [] h ⟨ln,bw⟩ fun _ _ h=>?_
   exact bZ (sj (i+1) (o2++([([(((aa n E V L T).1).getD i.toNat (0,[])).1]:List Int)]:List (List Int))) (rk [86019,1,2]) h ⟨by omega,by omega,by rw[Ws k0 (by rw[<-i3];exact q5),k2,List.append_assoc]⟩ (by omega))
  refine go (pr:=(aX .i64 (i+1))) [] h bw fun _ _ h=>?_
  exact bZ (sj (i+1) o2 (ir 3) h ⟨by omega,by omega,by rw[SS k0 (by rw[<-i3];exact q5),k2]⟩ (by omega))
 have ru:i.toNat=(aa n E V L T).1.length:=by omega
 rw[ru] at k2
 change o2=Cv (aa n E V L T).1 S at k2
 have hrh:=A5 iZ
 rw[<-k2] at hrh
 have abC:=wu (m:=(e6 S S.length)) (W:=(aa n E V L T).1) (aa n E V L T).1.length
 have Z9:o2.length=S.length+(Cu (e6 S S.length) (aa n E V L T).1 (aa n E V L T).1.length).length:=by rw[k2];exact List.length_append ..
 refine go (pr:=(lJ o2/\o2.length<=1000000)) [] h (⟨hrh,by omega⟩) fun _ _ h=>?_
 exact out ((kP o2:List (List Int)),((0:Int):Int),()) h (by rw[qD iZ,iZ,<-k2])
def Ln:cE Tryz.prog:=plain Lm
theorem XK:aS Tryz.prog 87 [(false,gX),(false,fR),(false,(.pair (.list (.list .int)) (.list (.list .int))))] [(.map .int .int),.bool] (fun x=>bz (I_ x.1.1)/\aO (K_ x.2.2.1.1)/\av (K_ x.2.2.1.1)/\aO (K_ x.2.2.1.2)/\av (K_ x.2.2.1.2)) (fun x=>(aQ (I_ x.1.1) (E_ x.1.2) (J_ x.2.1.1) (J_ x.2.1.2) (K_ x.2.2.1.1) (K_ x.2.2.1.2),decide (bA (I_ x.1.1) (E_ x.1.2) (J_ x.2.1.1) (J_ x.2.1.2) (K_ x.2.2.1.1) (K_ x.2.2.1.2)=0),())):=by
 refine aF Tryz.f87 92 [Ln,tG] Tryz.func87 fun o x hd _ _ h=>?_
 obtain⟨⟨(n:Int),(E:List (Int×Int))⟩,⟨(V:List Int),(L:List Int)⟩,⟨(T:List (List Int)),(S:List (List Int))⟩,_⟩:=x
 have e7:=gL h 0 E
 have eZ:=cg h 1 V
 have fS:=cg h 2 L
 have jm:=eP h 3 T
 have tE:=eP h 4 S
 change bz n/\aO T/\av T/\aO S/\av S at hd
 obtain⟨hn,gp,cw,gF,cS⟩:=hd
 have tF:=cS.1
 refine go (pr:=(bz n/\aO T/\av T/\aO S/\av S)) [] h (⟨hn,gp,cw,gF,cS⟩) fun _ _ h=>?_
 refine ag h (fun(q1:¬(bA n E V L T S=0))=>?_) (fun(q1:bA n E V L T S=0)=>?_)
 .refine aC [] h fun _ _ h=>?_
  exact out (([]:bl .int Int),(false:Bool),()) h (by rw[uA q1,decide_eq_false q1];rfl)
 have iZ:=q1
 obtain⟨DV,sx,hsx,_⟩:=bH iZ
 have lU:=bf DV
 obtain⟨gw,hT,hW⟩:=bS lU
 have hP:=fo gw
 obtain⟨jZ,hV,hL,_⟩:=aD gw
 obtain⟨r1,r2,r3,_⟩:=aN jZ
 have zw:=ay hV r1
 have vf:=ay hL (by omega)
 have Jk:=hP.len
 have GK:=hW.len
 have XC:=nV (fun k=>(hP.bd k).1) (P:=(az n E V L))
 have Ti:=iF lU
 have hRl:=IW iZ
 have hRm:∀l∈(cA n E V L T S),l.length<=10000:=fun l hl=>(IV iZ hl).elim (fun q=>cS.2 l q) fun⟨w,hw,e⟩=>by rw[e];show 1<=10000;decide
 have hRk:=SV hRm
 have hRi:∀l∈(cA n E V L T S),∀x∈l,-9223372036854775808<=x/\x<=9223372036854775807:=fun l hl x hx=>(IV iZ hl).elim (fun q=>gF l q x hx) fun⟨w,hw,e⟩=>by rw[e] at hx;rw[List.mem_singleton.1 hx];have:=u9 gw hW hw;omega
 have hWk:=pM (fun w hw=>(Ti w hw).2)
 refine aC [] h fun _ _ h=>?_
 refine aK Int (List (Int×Int)) (fun i m=>⟨[(3,ep 0),(4,ep 1),(5,ep 2),(10,em 3),(32,eo 4),(33,en ((cA n E V L T S).length:Int)),(34,en i)],[(0,some (.box 24 [.v (.int .i64 n),.own 5])),(1,some (.box 27 [.own 6,.own 7])),(2,some (.box 30 [.own 8,.own 9])),(3,some (.map .int .int m)),(4,some (.ro (.list .int) (cA n E V L T S))),(5,some (.ar fA E)),(6,some (.ar .int V)),(7,some (.ar .int L)),(8,some (.ar (.list .int) T)),(9,some (.ar (.list .int) S))],10⟩) (fun i m=>0<=i/\i<=((cA n E V L T S).length:Int)/\m=e6 (cA n E V L T S) i.toNat) (fun i m=>(((cA n E V L T S).length:Int)-i).toNat) 0 [] (rk [5,4101,8197,65541,32773,0,1,2,3,4]) h ⟨Int.le_refl _,Int.natCast_nonneg _,rfl⟩ fun i m _ _ _ cq hI h=>?_
 obtain⟨i0,i1,i3⟩:=hI
 refine aC [] h fun _ _ h=>?_
 refine ag h (fun(q2:i<((cA n E V L T S).length:Int))=>?_) (fun(q2:¬(i<((cA n E V L T S).length:Int)))=>?_)
 .have hm:((cA n E V L T S).getD i.toNat [])∈(cA n E V L T S):=af (by omega)
  have Oy:=hRm _ hm
  have uS:=yp hRk i.toNat
  rw[<-i3] at uS
  have WW:i.toNat*10000<=1000000000:=Nat.mul_le_mul_right 10000 (show i.toNat<=100000 by omega)
  refine go (pr:=(aV i (cA n E V L T S).length)) [] h bx fun _ _ h=>?_
  refine aK Int (List (Int×Int)) (fun j mm=>⟨[(3,ep 0),(4,ep 1),(5,ep 2),(10,em 3),(11,en i),(32,eo 4),(33,en ((cA n E V L T S).length:Int)),(34,en i),(39,eo 5),(40,en (((cA n E V L T S).getD i.toNat []).length:Int)),(41,en j)],[(0,some (.box 24 [.v (.int .i64 n),.own 6])),(1,some (.box 27 [.own 7,.own 8])),(2,some (.box 30 [.own 9,.own 10])),(3,some (.map .int .int mm)),(4,some (.ro (.list .int) (cA n E V L T S))),(5,some (.ro .int ((cA n E V L T S).getD i.toNat []))),(6,some (.ar fA E)),(7,some (.ar .int V)),(8,some (.ar .int L)),(9,some (.ar (.list .int) T)),(10,some (.ar (.list .int) S))],11⟩) (fun j mm=>0<=j/\j<=(((cA n E V L T S).getD i.toNat []).length:Int)/\mm=qJ (e6 (cA n E V L T S) i.toNat) ((cA n E V L T S).getD i.toNat []) i j.toNat) (fun j mm=>((((cA n E V L T S).getD i.toNat []).length:Int)-j).toNat) 0 m (rk [0,1,2,3,4,12298,5,6,7,8,9]) h ⟨Int.le_refl _,Int.natCast_nonneg _,i3⟩ fun j mm _ _ _ fQ hI h=>?_
  obtain⟨j0,j1,j2⟩:=hI
  refine aC [] h fun _ _ h=>?_
  refine ag h (fun(q3:j<(((cA n E V L T S).getD i.toNat []).length:Int))=>?_) (fun(q3:¬(j<(((cA n E V L T S).getD i.toNat []).length:Int)))=>?_)
  .have Sf:=hRi _ hm _ (af (l:=((cA n E V L T S).getD i.toNat [])) (i:=j.toNat) (d:=0) (by omega))
   have we:=jo (m:=e6 (cA n E V L T S) i.toNat) (vs:=((cA n E V L T S).getD i.toNat [])) (c:=i) j.toNat
   rw[<-j2,<-i3] at we
   refine go (pr:=(aV j ((cA n E V L T S).getD i.toNat []).length)/\(dc .int (((cA n E V L T S).getD i.toNat []).getD j.toNat 0))/\(mm.length<=2147483647)/\(aX .i64 (j+1))) [] h ⟨bx,wk,ln,bw⟩ fun _ _ h=>?_
   exact bZ (fQ (j+1) (cB mm (((cA n E V L T S).getD i.toNat []).getD j.toNat 0) i) (ir 11) h ⟨by omega,by omega,by rw[pn j0,<-j2]⟩ (by omega))
  have CG:j.toNat=((cA n E V L T S).getD i.toNat []).length:=by omega
  have r7:=j2
  rw[CG] at r7
  refine go (pr:=(aX .i64 (i+1))) [] h bw fun _ _ h=>?_
  exact bZ (cq (i+1) mm (rk [0,1,2,3,4,6,7,8,9,10]) h ⟨by omega,by omega,by rw[A4 i0,<-r7]⟩ (by omega))
 have oz:i.toNat=(cA n E V L T S).length:=by omega
 rw[oz] at i3
 refine go (pr:=(bz n/\aO T/\av T)) [] h (⟨hn,gp,cw⟩) fun _ _ h=>?_
 refine aK Int (List (Int×Int)) (fun i lm=>⟨[(10,em 0),(15,em 1),(59,eo 2),(60,en (((aa n E V L T).1).length:Int)),(61,en i)],[(0,some (.map .int .int m)),(1,some (.map .int .int lm)),(2,some (.ro (.pair .int (.list .int)) ((aa n E V L T).1)))],3⟩) (fun i lm=>0<=i/\i<=((aa n E V L T).1.length:Int)/\lm=Cx (e6 (cA n E V L T S) (cA n E V L T S).length) (aa n E V L T).1 i.toNat) (fun i lm=>(((aa n E V L T).1.length:Int)-i).toNat) 0 [] (rk [3,4106,28682]) h ⟨Int.le_refl _,Int.natCast_nonneg _,rfl⟩ fun i lm _ _ _ sj hI h=>?_
 obtain⟨k0,k1,k2⟩:=hI
 refine aC [] h fun _ _ h=>?_
 refine ag h (fun(q4:i<(((aa n E V L T).1).length:Int))=>?_) (fun(q4:¬(i<(((aa n E V L T).1).length:Int)))=>?_)
 .have rT:((aa n E V L T).1.getD i.toNat (0,[]))∈(aa n E V L T).1:=af (by omega)
  have My:=u9 gw hW rT
  have Tj:=Ti _ rT
  have uS:=Cy (num:=(e6 (cA n E V L T S) (cA n E V L T S).length)) hWk i.toNat
  rw[<-k2] at uS
  have WW:i.toNat*(2*L.length+1)<=100000*10000:=Nat.mul_le_mul (show i.toNat<=100000 by omega) (show 2*L.length+1<=10000 by omega)
  refine go (pr:=(aV i ((aa n E V L T).1).length)) [] h bx fun _ _ h=>?_
  refine aK Int (List (Int×Int)) (fun j m2=>⟨[(10,em 0),(15,em 1),(19,ep 2),(59,eo 3),(60,en (((aa n E V L T).1).length:Int)),(61,en i),(66,eo 4),(67,en (((((aa n E V L T).1).getD i.toNat (0,[])).2).length:Int)),(68,en j)],[(0,some (.map .int .int m)),(1,some (.map .int .int m2)),(2,some (.box 75 [.v (.int .i64 ((((aa n E V L T).1).getD i.toNat (0,[])).1)),.own 4])),(3,some (.ro (.pair .int (.list .int)) ((aa n E V L T).1))),(4,some (.ro .int ((((aa n E V L T).1).getD i.toNat (0,[])).2)))],5⟩) (fun j m2=>0<=j/\j<=(((aa n E V L T).1.getD i.toNat (0,[])).2.length:Int)/\m2=qJ (Cx (e6 (cA n E V L T S) (cA n E V L T S).length) (aa n E V L T).1 i.toNat) ((aa n E V L T).1.getD i.toNat (0,[])).2 ((ah (e6 (cA n E V L T S) (cA n E V L T S).length) ((aa n E V L T).1.getD i.toNat (0,[])).1).getD 0) j.toNat) (fun j m2=>((((aa n E V L T).1.getD i.toNat (0,[])).2.length:Int)-j).toNat) 0 lm (rk [0,1,12291,2,8195]) h ⟨Int.le_refl _,Int.natCast_nonneg _,k2⟩ fun j m2 _ _ _ Fs hI h=>?_
  obtain⟨j0,j1,j2⟩:=hI
  refine aC [] h fun _ _ h=>?_
  refine ag h (fun(q5:j<(((((aa n E V L T).1).getD i.toNat (0,[])).2).length:Int))=>?_) (fun(q5:¬(j<(((((aa n E V L T).1).getD i.toNat (0,[])).2).length:Int)))=>?_)
  .have vn:=Tj.1 _ (af (l:=((aa n E V L T).1.getD i.toNat (0,[])).2) (i:=j.toNat) (d:=0) (by omega))
   obtain⟨_,dx0,dx1,dx2⟩:=cv gw vn
   have we:=jo (m:=Cx (e6 (cA n E V L T S) (cA n E V L T S).length) (aa n E V L T).1 i.toNat) (vs:=((aa n E V L T).1.getD i.toNat (0,[])).2) (c:=((ah (e6 (cA n E V L T S) (cA n E V L T S).length) ((aa n E V L T).1.getD i.toNat (0,[])).1).getD 0)) j.toNat
   rw[<-j2,<-k2] at we
   refine go (pr:=(aV j ((((aa n E V L T).1).getD i.toNat (0,[])).2).length)/\(dc .int ((((aa n E V L T).1).getD i.toNat (0,[])).1))/\(dc .int (((((aa n E V L T).1).getD i.toNat (0,[])).2).getD j.toNat 0))/\(m2.length<=2147483647)/\(aX .i64 (j+1))) [] h ⟨bx,wk,wk,ln,bw⟩ fun _ _ h=>?_
   exact bZ (Fs (j+1) (cB m2 (((((aa n E V L T).1).getD i.toNat (0,[])).2).getD j.toNat 0) ((ah m ((((aa n E V L T).1).getD i.toNat (0,[])).1)).getD 0)) (ir 5) h ⟨by omega,by omega,by rw[pn j0,<-j2,<-i3]⟩ (by omega))
  have CG:j.toNat=((aa n E V L T).1.getD i.toNat (0,[])).2.length:=by omega
  have r7:=j2
  rw[CG] at r7
  have we:=jo (m:=Cx (e6 (cA n E V L T S) (cA n E V L T S).length) (aa n E V L T).1 i.toNat) (vs:=((aa n E V L T).1.getD i.toNat (0,[])).2) (c:=((ah (e6 (cA n E V L T S) (cA n E V L T S).length) ((aa n E V L T).1.getD i.toNat (0,[])).1).getD 0)) ((aa n E V L T).1.getD i.toNat (0,[])).2.length
  rw[<-r7,<-k2] at we
  refine aC [] h fun _ _ h=>?_
  refine ag h (fun(q6:(((((aa n E V L T).1).getD i.toNat (0,[])).2).length:Int)=0)=>?_) (fun(q6:¬((((((aa n E V L T).1).getD i.toNat (0,[])).2).length:Int)=0))=>?_)
  .refine go (pr:=(dc .int ((((aa n E V L T).1).getD i.toNat (0,[])).1))/\(dc .int ((((aa n E V L T).1).getD i.toNat (0,[])).1))/\(m2.length<=2147483647)/\(aX .i64 (i+1))) [] h ⟨wk,wk,ln,bw⟩ fun _ _ h=>?_
   exact bZ (sj (i+1) (cB m2 ((((aa n E V L T).1).getD i.toNat (0,[])).1) ((ah m ((((aa n E V L T).1).getD i.toNat (0,[])).1)).getD 0)) (rk [0,1,3]) h ⟨by omega,by omega,by rw[ER k0,Z0 (show((aa n E V L T).1.getD i.toNat (0,[])).2.length=0 by omega),<-r7,<-i3]⟩ (by omega))
  refine go (pr:=(aX .i64 (i+1))) [] h bw fun _ _ h=>?_
  exact bZ (sj (i+1) m2 (rk [0,1,3]) h ⟨by omega,by omega,by rw[ER k0,Z1 (show ¬((aa n E V L T).1.getD i.toNat (0,[])).2.length=0 by omega),<-r7]⟩ (by omega))
 have ru:i.toNat=(aa n E V L T).1.length:=by omega
 rw[ru] at k2
 refine aC [] h fun _ _ h=>?_
 exact out ((lm:bl .int Int),(true:Bool),()) h (by rw[tw iZ,decide_eq_true iZ,<-k2])
def XL:cE Tryz.prog:=plain XK
theorem TX:aS Tryz.prog 86 [(false,gX),(false,fR),(false,(.list .int))] [.bool] (fun x=>bz (I_ x.1.1)/\(J_ x.2.2.1).length<=100000/\∀d∈(J_ x.2.2.1),-9223372036854775808<=d/\d<=9223372036854775807) (fun x=>(mV (I_ x.1.1) (E_ x.1.2) (J_ x.2.1.1) (J_ x.2.1.2) (J_ x.2.2.1),())):=by
 refine aF Tryz.f86 97 [OS,wm,qE] Tryz.func86 fun o x hd _ _ h=>?_
 obtain⟨⟨(n:Int),(E:List (Int×Int))⟩,⟨(V:List Int),(L:List Int)⟩,(ds:List Int),_⟩:=x
 have e7:=gL h 0 E
 have eZ:=cg h 1 V
 have fS:=cg h 2 L
 have jm:=cg h 3 ds
 change bz n/\ds.length<=100000/\∀d∈ds,-9223372036854775808<=d/\d<=9223372036854775807 at hd
 obtain⟨hn,oG,Al⟩:=hd
 refine go (pr:=(bz n)) [] h hn fun _ _ h=>?_
 refine ag h (fun(q1:(¬(aA n E V L=0))\/((ds.length:Int)=0))=>?_) (fun(q1:(aA n E V L=0)/\(¬((ds.length:Int)=0)))=>?_)
 .refine aC [] h fun _ _ h=>?_
  exact out ((false:Bool),()) h (congrArg (·,()) (GM fun z=>q1.elim (fun q=>q z.1) fun q=>z.2.1 (show ds=[] from List.eq_nil_of_length_eq_zero (by omega))))
 have hq0:=q1
 have gw:aA n E V L=0:=hq0.1
 have dL:ds≠[]:=fun e=>by subst e;exact hq0.2 rfl
 obtain⟨jZ,hV,hL,_⟩:=aD gw
 obtain⟨r1,r2,r3,_⟩:=aN jZ
 have vf:=ay hL (by omega)
 refine aC [] h fun _ _ h=>?_
 refine go_loop (Int) (fun i=>⟨[(2,eo 0),(3,ep 1),(4,ep 2),(28,eo 0),(29,en (ds.length:Int)),(30,en i)],[(0,some (.ar .int ds)),(1,some (.box 24 [.v (.int .i64 n),.own 3])),(2,some (.box 27 [.own 4,.own 5])),(3,some (.ar fA E)),(4,some (.ar .int V)),(5,some (.ar .int L))],6⟩) (fun i=>0<=i/\i<=(ds.length:Int)/\∀j:Nat,(j:Int)<i->0<=ds.getD j 0/\hasB L (ds.getD j 0/2)=true) (fun i=>((ds.length:Int)-i).toNat) (0) (rk [3,4,4100,0,1,2]) h ⟨Int.le_refl _,Int.natCast_nonneg _,fun j hj=>by omega⟩ fun i _ _ _ cq hI h=>?_
 obtain⟨i0,i1,i2⟩:=hI
 refine aC [] h fun _ _ h=>?_
 refine ag h (fun(q2:i<(ds.length:Int))=>?_) (fun(q2:¬(i<(ds.length:Int)))=>?_)
 .have vn:=Al _ (af (l:=ds) (i:=i.toNat) (d:=0) (by omega))
  refine go (pr:=(aV i ds.length)/\((¬((ds.getD i.toNat 0)<0))->(0<=(ds.getD i.toNat 0)/\0<(2:Int)/\aX .i64 (ds.getD i.toNat 0)))/\((¬((ds.getD i.toNat 0)<0))->(L.length<=1000000))) [] h ⟨bx,fun _=>⟨by omega,by omega,⟨by omega,by omega⟩⟩,fun _=>by omega⟩ fun _ _ h=>?_
  refine ag h (fun(q3:((ds.getD i.toNat 0)<0)\/((hasB L ((ds.getD i.toNat 0)/2))=false))=>?_) (fun(q3:(¬((ds.getD i.toNat 0)<0))/\((hasB L ((ds.getD i.toNat 0)/2))=true))=>?_)
  .refine aC [] h fun _ _ h=>?_
   exact out ((false:Bool),()) h (congrArg (·,()) (GM fun z=>by have z3:=z.2.2.1 _ (af (l:=ds) (i:=i.toNat) (d:=0) (by omega));rcases q3 with q|q;exact absurd z3.1 (by omega);rw[z3.2] at q;cases q))
  refine go (pr:=(aX .i64 (i+1))) [] h bw fun _ _ h=>?_
  exact bZ (cq (i+1) (ir 6) h ⟨by omega,by omega,fun j hj=>if z:(j:Int)<i then i2 j z else by rw[show j=i.toNat by omega];exact⟨by omega,q3.2⟩⟩ (by omega))
 have eE:∀d∈ds,0<=d/\hasB L (d/2)=true:=yf (i:=i) (by omega) i2
 have hof:∀d∈ds,0<=d/\d/2<(E.length:Int)/\d<=100000:=fun d hd=>by
  obtain⟨z0,z1⟩:=eE d hd
  rw[eC hL,decide_eq_true_eq] at z1
  have:=(aG.1 hL).2 _ z1;omega
 have aax:∀d∈ds,aU L d:=fun d hd=>by
  obtain⟨z0,z1⟩:=eE d hd
  rw[eC hL,decide_eq_true_eq] at z1;exact z1
 have vj:0<ds.length:=List.length_pos_iff.2 dL
 have PF:=hof _ (af (l:=ds) (i:=((ds.length:Int)-1).toNat) (d:=0) (by omega))
 refine go (pr:=(aX .i64 ((ds.length:Int)-1))/\(aV ((ds.length:Int)-1) ds.length)) [] h ⟨bw,bx⟩ fun _ _ h=>?_
 refine sK Int (List (Int×Int)) (List (Int×Int)) Int (fun i vm mE a=>⟨[(3,ep 0),(9,em 1),(10,em 2),(11,en a),(53,eo 3),(54,en (ds.length:Int)),(55,en i)],[(0,some (.box 24 [.v (.int .i64 n),.own 4])),(1,some (.map .int .int vm)),(2,some (.map .int .int mE)),(3,some (.ar .int ds)),(4,some (.ar fA E))],5⟩) (fun i vm mE a=>0<=i/\i<=(ds.length:Int)/\Sr E ds i.toNat vm mE a) (fun i vm mE a=>((ds.length:Int)-i).toNat) 0 [] [] (ds.getD ((ds.length:Int)-1).toNat 0) (rk [1,4102,8198,0,3]) h ⟨Int.le_refl _,Int.natCast_nonneg _,by rw[show((ds.length:Int)-1).toNat=ds.length-1 by omega];exact Sr.start⟩ fun i vm mE a _ _ _ fQ hI h=>?_
 obtain⟨i0,i1,hI⟩:=hI
 refine aC [] h fun _ _ h=>?_
 refine ag h (fun(q4:i<(ds.length:Int))=>?_) (fun(q4:¬(i<(ds.length:Int)))=>?_)
 .have hxm:=af (l:=ds) (i:=i.toNat) (d:=0) (by omega)
  have hx:=hof _ hxm
  have hxt:=(aG.1 hV).2 _ (cv gw (aax _ hxm)).1
  have ha:=hof _ (show a∈ds by rw[hI.pr];exact OG dL (by omega))
  have htw:0<=aq a/\aq a/2<(E.length:Int)/\aq a<=1000000:=by unfold aq;split<;>omega
  have uS:=hI.len
  refine go (pr:=(aV i ds.length)/\(0<=(ds.getD i.toNat 0)/\(ds.getD i.toNat 0)/2<(E.length:Int)/\(ds.getD i.toNat 0)<=1000000)/\(dc .int (ak E (ds.getD i.toNat 0)))/\(0<=(ds.getD i.toNat 0)/\0<(2:Int)/\aX .i64 (ds.getD i.toNat 0))/\(dc .int ((ds.getD i.toNat 0)/2))/\(((((ah vm (ak E (ds.getD i.toNat 0))).isSome)=false)/\(((ah mE ((ds.getD i.toNat 0)/2)).isSome)=false))->(0<=a/\a<=9223372036854775807))/\(((((ah vm (ak E (ds.getD i.toNat 0))).isSome)=false)/\(((ah mE ((ds.getD i.toNat 0)/2)).isSome)=false))->(0<=(aq a)/\(aq a)/2<(E.length:Int)/\(aq a)<=1000000))) [] h ⟨bx,⟨by omega,by omega,by omega⟩,wk,⟨by omega,by omega,⟨by omega,by omega⟩⟩,wk,fun _=>⟨by omega,by omega⟩,fun _=>⟨by omega,by omega,by omega⟩⟩ fun _ _ h=>?_
  refine ag h (fun(q5:((((ah vm (ak E (ds.getD i.toNat 0))).isSome)=true)\/(((ah mE ((ds.getD i.toNat 0)/2)).isSome)=true))\/(¬(ak E (aq a)=ak E (ds.getD i.toNat 0))))=>?_) (fun(q5:((((ah vm (ak E (ds.getD i.toNat 0))).isSome)=false)/\(((ah mE ((ds.getD i.toNat 0)/2)).isSome)=false))/\(ak E (aq a)=ak E (ds.getD i.toNat 0)))=>?_)
  .refine aC [] h fun _ _ h=>?_
   exact out ((false:Bool),()) h (congrArg (·,()) (GM fun z=>hI.bad i0 (by omega) q5 z.2.2.2))
  refine go (pr:=(0<=(ds.getD i.toNat 0)/\0<(2:Int)/\aX .i64 (ds.getD i.toNat 0))/\(dc .int (ak E (ds.getD i.toNat 0)))/\(vm.length<=2147483647)/\(dc .int ((ds.getD i.toNat 0)/2))/\(mE.length<=2147483647)/\(aX .i64 (i+1))) [] h ⟨⟨by omega,by omega,⟨by omega,by omega⟩⟩,wk,ln,wk,ln,bw⟩ fun _ _ h=>?_
  exact bZ (fQ (i+1) (cB vm (ak E (ds.getD i.toNat 0)) i) (cB mE ((ds.getD i.toNat 0)/2) i) (ds.getD i.toNat 0) (ir 5) h ⟨by omega,by omega,hI.step i0 q5⟩ (by omega))
 refine aC [] h fun _ _ h=>?_
 exact out ((true:Bool),()) h (congrArg (·,()) (Ss ⟨gw,dL,eE,by rw[<-show i.toNat=ds.length by omega];exact hI.ok⟩))
def TY:cE Tryz.prog:=plain TX
theorem TZ:aS Tryz.prog 44 [(false,gX),(false,fR),(false,(.pair (.list (.list .int)) (.list (.list .int)))),(false,(.list .int))] [(.map .int .int),.bool] (fun x=>bz (I_ x.1.1)/\aO (K_ x.2.2.1.1)/\av (K_ x.2.2.1.1)/\aO (K_ x.2.2.1.2)/\av (K_ x.2.2.1.2)/\(J_ x.2.2.2.1).length<=10000/\∀d∈(J_ x.2.2.2.1),-9223372036854775808<=d/\d<=9223372036854775807) (fun x=>(dY (I_ x.1.1) (E_ x.1.2) (J_ x.2.1.1) (J_ x.2.1.2) (K_ x.2.2.1.1) (K_ x.2.2.1.2) (J_ x.2.2.2.1),vu (I_ x.1.1) (E_ x.1.2) (J_ x.2.1.1) (J_ x.2.1.2) (K_ x.2.2.1.1) (K_ x.2.2.1.2) (J_ x.2.2.2.1),())):=by
 refine aF Tryz.f44 126 [UZ,TY,Qm,XL,U0,XJ] Tryz.func44 fun o x hd _ _ h=>?_
 obtain⟨⟨(n:Int),(E:List (Int×Int))⟩,⟨(V:List Int),(L:List Int)⟩,⟨(T:List (List Int)),(S:List (List Int))⟩,(ds:List Int),_⟩:=x
 have e7:=gL h 0 E
 have eZ:=cg h 1 V
 have fS:=cg h 2 L
 have jm:=eP h 3 T
 have tE:=eP h 4 S
 have GX:=cg h 5 ds
 change bz n/\aO T/\av T/\aO S/\av S/\ds.length<=10000/\∀d∈ds,-9223372036854775808<=d/\d<=9223372036854775807 at hd
 obtain⟨hn,gp,cw,gF,cS,oG,Al⟩:=hd
 have tF:=cS.1
 refine go (pr:=(bz n/\ds.length<=100000/\∀d∈ds,-9223372036854775808<=d/\d<=9223372036854775807)) [] h (⟨hn,by omega,Al⟩) fun _ _ h=>?_
 refine ag h (fun(q1:(mV n E V L ds)=false)=>?_) (fun(q1:(mV n E V L ds)=true)=>?_)
 .refine aC [] h fun _ _ h=>?_
  exact out (([]:bl .int Int),(false:Bool),()) h (by unfold vu;rw[yt (fun q=>by rw[q1] at q;cases q.1),q1];rfl)
 refine go (pr:=(bz n/\aO T/\av T/\aO S/\av S)) [] h (⟨hn,gp,cw,gF,cS⟩) fun _ _ h=>?_
 refine ag h (fun(q2:(decide (bA n E V L T S=0))=false)=>?_) (fun(q2:(decide (bA n E V L T S=0))=true)=>?_)
 .refine aC [] h fun _ _ h=>?_
  exact out (([]:bl .int Int),(false:Bool),()) h (by unfold vu;rw[yt (fun q=>by rw[decide_eq_true q.2] at q2;cases q2),q2,Bool.and_false];rfl)
 have Qx:mV n E V L ds=true:=q1
 have hcy:yg n E V L ds:=of_decide_eq_true Qx
 have iZ:bA n E V L T S=0:=of_decide_eq_true q2
 obtain⟨gw,dL,T0,_⟩:=hcy
 obtain⟨jZ,hV,hL,_⟩:=aD gw
 obtain⟨r1,r2,r3,_⟩:=aN jZ
 have zw:=ay hV r1
 have vf:=ay hL (by omega)
 have tI:=I1 (aQ n E V L T S) L ds
 have Lo:=tI.1
 have abW:=tI.2
 have Yg:=Ww (n:=n) (E:=E) (V:=V) (L:=L) (T:=T) tF
 have abH:0<ds.length:=List.length_pos_iff.2 dL
 have abI:=Yg (ds.getD 0 0)
 have hd0:=Al _ (af (l:=ds) (i:=0) (d:=0) (by omega))
 refine aC [] h fun _ _ h=>?_
 refine aK Int (List (Int×Int)) (fun i cm=>⟨[(3,eo 0),(5,ep 1),(10,em 2),(12,em 3),(41,eo 0),(42,en (ds.length:Int)),(43,en i)],[(0,some (.ar .int ds)),(1,some (.box 27 [.own 4,.own 5])),(2,some (.nA .int .int (aQ n E V L T S))),(3,some (.map .int .int cm)),(4,some (.ar .int V)),(5,some (.ar .int L))],6⟩) (fun i cm=>0<=i/\i<=(ds.length:Int)/\cm=zo ds i.toNat) (fun i cm=>((ds.length:Int)-i).toNat) 0 [] (rk [5,4102,53254,86022,1,2]) h ⟨Int.le_refl _,Int.natCast_nonneg _,rfl⟩ fun i cm _ _ _ cq hI h=>?_
 obtain⟨i0,i1,i2⟩:=hI
 refine aC [] h fun _ _ h=>?_
 refine ag h (fun(q3:i<(ds.length:Int))=>?_) (fun(q3:¬(i<(ds.length:Int)))=>?_)
 .have CV:=IZ ds i.toNat
  rw[<-i2] at CV
  have Jh:=T0 _ (af (l:=ds) (i:=i.toNat) (d:=0) (by omega))
  have abX:=Jh.1
  have abD:=Al _ (af (l:=ds) (i:=i.toNat) (d:=0) (by omega))
  refine go (pr:=(aV i ds.length)/\(0<=(ds.getD i.toNat 0)/\0<(2:Int)/\aX .i64 (ds.getD i.toNat 0))/\(dc .int ((ds.getD i.toNat 0)/2))/\(cm.length<=2147483647)/\(aX .i64 (i+1))) [] h ⟨bx,⟨by omega,by omega,⟨by omega,by omega⟩⟩,wk,ln,bw⟩ fun _ _ h=>?_
  exact bZ (cq (i+1) (cB cm ((ds.getD i.toNat 0)/2) i) (ir 6) h ⟨by omega,by omega,by rw[Pb i0,<-i2]⟩ (by omega))
 have oz:i.toNat=ds.length:=by omega
 rw[oz] at i2
 refine go (pr:=(([]:List Int)=[])) [] h rfl fun _ _ h=>?_
 refine go_loop (Int×(List (Int×Int))×List Int×List Int×Int) (fun x_=>(fun(i:Int) (M:List (Int×Int)) (K:List Int) (U:List Int) (c:Int)=>⟨[(3,eo 0),(10,em 1),(12,em 2),(15,ep 3),(55,eo 4),(56,en (L.length:Int)),(57,en i)],[(0,some (.ar .int ds)),(1,some (.nA .int .int (aQ n E V L T S))),(2,some (.map .int .int cm)),(3,some (.box 138 [.mp 5,.own 6,.own 7,.v (.int .i64 c)])),(4,some (.ar .int L)),(5,some (.map .int .int M)),(6,some (.row 3 .int K)),(7,some (.row 3 .int U))],8⟩) x_.1 x_.2.1 x_.2.2.1 x_.2.2.2.1 x_.2.2.2.2) (fun x_=>(fun(i:Int) (M:List (Int×Int)) (K:List Int) (U:List Int) (c:Int)=>0<=i/\i<=(L.length:Int)/\jF (aQ n E V L T S) (zo ds ds.length) L i.toNat=(M,K,U,c)) x_.1 x_.2.1 x_.2.2.1 x_.2.2.2.1 x_.2.2.2.2) (fun x_=>(fun(i:Int) (M:List (Int×Int)) (K:List Int) (U:List Int) (c:Int)=>((L.length:Int)-i).toNat) x_.1 x_.2.1 x_.2.2.1 x_.2.2.2.1 x_.2.2.2.2) (0,[],[],[],0) (rk [0,2,3,4102,5,4103,4104,4105]) h ⟨Int.le_refl _,Int.natCast_nonneg _,rfl⟩ fun x_ _ _ _ fQ hI h=>?_
 obtain⟨i,M,K,U,c⟩:=x_
 obtain⟨k0,k1,k2⟩:=hI
 dsimp only at k0 k1 k2
 refine aC [] h fun _ _ h=>?_
 refine ag h (fun(q4:i<(L.length:Int))=>?_) (fun(q4:¬(i<(L.length:Int)))=>?_)
 .obtain⟨GZ,Lr⟩:=A7 (left:=(aQ n E V L T S)) (on:=(zo ds ds.length)) (L:=L) i.toNat
  rw[k2] at GZ Lr
  change K.length<=2*i.toNat at Lr
  have nK:lu M K U:=GZ.rep
  have Fe:M.length<=K.length:=nK.th
  have huu:U.length=K.length:=nK.len
  have QE:0<=c/\c<=(K.length:Int):=GZ.bd
  have hle:=(aG.1 hL).2 _ (af (l:=L) (i:=i.toNat) (d:=0) (by omega))
  have Q9:=Yg (2*(L.getD i.toNat 0))
  have MK:=Yg (2*(L.getD i.toNat 0)+1)
  refine go (pr:=(aV i L.length)/\(dc .int (L.getD i.toNat 0))) [] h ⟨bx,wk⟩ fun _ _ h=>?_
  refine ag h (fun(q5:((ah cm (L.getD i.toNat 0)).isSome)=false)=>?_) (fun(q5:((ah cm (L.getD i.toNat 0)).isSome)=true)=>?_)
  .refine go (pr:=(aX .i64 (2*(L.getD i.toNat 0)))/\(dc .int (2*(L.getD i.toNat 0)))/\(aX .i64 (2*(L.getD i.toNat 0)))/\(aX .i64 ((2*(L.getD i.toNat 0))+1))/\(dc .int ((2*(L.getD i.toNat 0))+1))/\((-9223372036854775808<=((ah (aQ n E V L T S) (2*(L.getD i.toNat 0))).getD 0)/\((ah (aQ n E V L T S) (2*(L.getD i.toNat 0))).getD 0)<=9223372036854775807)/\(-9223372036854775808<=((ah (aQ n E V L T S) ((2*(L.getD i.toNat 0))+1)).getD 0)/\((ah (aQ n E V L T S) ((2*(L.getD i.toNat 0))+1)).getD 0)<=9223372036854775807)/\lu M K U/\K.length<=900000/\-900000<=c/\c<=900000)/\(aX .i64 (i+1))) [] h ⟨bw,wk,bw,bw,wk,⟨⟨by omega,by omega⟩,⟨by omega,by omega⟩,nK,by omega,by omega,by omega⟩,bw⟩ fun _ _ h=>?_
   exact bZ (fQ (i+1,Sj M K ((ah (aQ n E V L T S) (2*(L.getD i.toNat 0))).getD 0) ((ah (aQ n E V L T S) ((2*(L.getD i.toNat 0))+1)).getD 0),Ou M K ((ah (aQ n E V L T S) (2*(L.getD i.toNat 0))).getD 0) ((ah (aQ n E V L T S) ((2*(L.getD i.toNat 0))+1)).getD 0),KR M K U ((ah (aQ n E V L T S) (2*(L.getD i.toNat 0))).getD 0) ((ah (aQ n E V L T S) ((2*(L.getD i.toNat 0))+1)).getD 0),Iz M K U c ((ah (aQ n E V L T S) (2*(L.getD i.toNat 0))).getD 0) ((ah (aQ n E V L T S) ((2*(L.getD i.toNat 0))+1)).getD 0)) (rk [0,1,2,3,4,98313,98314,98315]) h ⟨by dsimp only;omega,by dsimp only;omega,by dsimp only;rw[Z2 k0 (by rw[<-i2];exact q5),k2];rfl⟩ (by dsimp only;omega))
  refine go (pr:=(aX .i64 (i+1))) [] h bw fun _ _ h=>?_
  exact bZ (fQ (i+1,M,K,U,c) (ir 8) h ⟨by dsimp only;omega,by dsimp only;omega,by dsimp only;rw[Wt k0 (by rw[<-i2];exact q5),k2]⟩ (by dsimp only;omega))
 have ru:i.toNat=L.length:=by omega
 rw[ru] at k2
 refine aC [] h fun _ _ h=>?_
 refine go_loop (Int×(List (Int×Int))×List Int×List Int×Int) (fun x_=>(fun(i:Int) (M:List (Int×Int)) (K:List Int) (U:List Int) (c:Int)=>⟨[(3,eo 0),(10,em 1),(15,ep 2),(81,eo 0),(82,en (ds.length:Int)),(83,en i)],[(0,some (.ar .int ds)),(1,some (.nA .int .int (aQ n E V L T S))),(2,some (.box 138 [.mp 3,.own 4,.own 5,.v (.int .i64 c)])),(3,some (.map .int .int M)),(4,some (.row 3 .int K)),(5,some (.row 3 .int U))],6⟩) x_.1 x_.2.1 x_.2.2.1 x_.2.2.2.1 x_.2.2.2.2) (fun x_=>(fun(i:Int) (M:List (Int×Int)) (K:List Int) (U:List Int) (c:Int)=>0<=i/\i<=(ds.length:Int)/\KY (aQ n E V L T S) ds (jF (aQ n E V L T S) (zo ds ds.length) L L.length) i.toNat=(M,K,U,c)) x_.1 x_.2.1 x_.2.2.1 x_.2.2.2.1 x_.2.2.2.2) (fun x_=>(fun(i:Int) (M:List (Int×Int)) (K:List Int) (U:List Int) (c:Int)=>((ds.length:Int)-i).toNat) x_.1 x_.2.1 x_.2.2.1 x_.2.2.2.1 x_.2.2.2.2) (0,M,K,U,c) (rk [0,1,3,5,6,7]) h ⟨Int.le_refl _,Int.natCast_nonneg _,k2⟩ fun x_ _ _ _ sj hI h=>?_
 obtain⟨i,M,K,U,c⟩:=x_
 obtain⟨k0,k1,k3⟩:=hI
 dsimp only at k0 k1 k3
 refine aC [] h fun _ _ h=>?_
 refine ag h (fun(q6:i<(ds.length:Int))=>?_) (fun(q6:¬(i<(ds.length:Int)))=>?_)
 .obtain⟨GZ,Lr⟩:=A7 (left:=(aQ n E V L T S)) (on:=(zo ds ds.length)) (L:=L) L.length
  obtain⟨hao,we⟩:=CC (left:=(aQ n E V L T S)) (ds:=ds) GZ i.toNat
  rw[k3] at hao we
  change K.length<=_ at we
  have nK:lu M K U:=hao.rep
  have Fe:M.length<=K.length:=nK.th
  have huu:U.length=K.length:=nK.len
  have QE:0<=c/\c<=(K.length:Int):=hao.bd
  have Jh:=(T0 _ (af (l:=ds) (i:=i.toNat) (d:=0) (by omega))).1
  have abD:=Al _ (af (l:=ds) (i:=i.toNat) (d:=0) (by omega))
  have htw: -9223372036854775808<=aq (ds.getD i.toNat 0)/\aq (ds.getD i.toNat 0)<=9223372036854775807:=by unfold aq;split<;>omega
  have Q9:=Yg (ds.getD i.toNat 0)
  have MK:=Yg (aq (ds.getD i.toNat 0))
  have s1:=(hao.add ((ah (aQ n E V L T S) (ds.getD i.toNat 0)).getD 0)).1
  have t1:=CB (s:=(M,K,U,c)) (x:=((ah (aQ n E V L T S) (ds.getD i.toNat 0)).getD 0))
  have m1:=s1.rep.th
  have u1:=s1.rep.len
  have b1:=s1.bd
  change (bX M K ((ah (aQ n E V L T S) (ds.getD i.toNat 0)).getD 0)).length<=K.length+1 at t1
  change (bQ M K ((ah (aQ n E V L T S) (ds.getD i.toNat 0)).getD 0)).length<=(bX M K ((ah (aQ n E V L T S) (ds.getD i.toNat 0)).getD 0)).length at m1
  change (ck M K U ((ah (aQ n E V L T S) (ds.getD i.toNat 0)).getD 0)).length=(bX M K ((ah (aQ n E V L T S) (ds.getD i.toNat 0)).getD 0)).length at u1
  change 0<=iC M c ((ah (aQ n E V L T S) (ds.getD i.toNat 0)).getD 0)/\iC M c ((ah (aQ n E V L T S) (ds.getD i.toNat 0)).getD 0)<=((bX M K ((ah (aQ n E V L T S) (ds.getD i.toNat 0)).getD 0)).length:Int) at b1
  refine go (pr:=(aV i ds.length)/\(dc .int (ds.getD i.toNat 0))/\((-9223372036854775808<=((ah (aQ n E V L T S) (ds.getD i.toNat 0)).getD 0)/\((ah (aQ n E V L T S) (ds.getD i.toNat 0)).getD 0)<=9223372036854775807)/\M.length<=900000/\K.length<=900000/\U.length<=900000/\-900000<=c/\c<=900000)/\(0<=(ds.getD i.toNat 0)/\(ds.getD i.toNat 0)<=9223372036854775807)/\(dc .int (aq (ds.getD i.toNat 0)))/\((-9223372036854775808<=((ah (aQ n E V L T S) (aq (ds.getD i.toNat 0))).getD 0)/\((ah (aQ n E V L T S) (aq (ds.getD i.toNat 0))).getD 0)<=9223372036854775807)/\(bQ M K ((ah (aQ n E V L T S) (ds.getD i.toNat 0)).getD 0)).length<=900000/\(bX M K ((ah (aQ n E V L T S) (ds.getD i.toNat 0)).getD 0)).length<=900000/\(ck M K U ((ah (aQ n E V L T S) (ds.getD i.toNat 0)).getD 0)).length<=900000/\-900000<=(iC M c ((ah (aQ n E V L T S) (ds.getD i.toNat 0)).getD 0))/\(iC M c ((ah (aQ n E V L T S) (ds.getD i.toNat 0)).getD 0))<=900000)/\(aX .i64 (i+1))) [] h ⟨bx,wk,⟨⟨by omega,by omega⟩,by omega,by omega,by omega,by omega,by omega⟩,⟨by omega,by omega⟩,wk,⟨⟨by omega,by omega⟩,by omega,by omega,by omega,by omega,by omega⟩,bw⟩ fun _ _ h=>?_
  exact bZ (sj (i+1,bQ (bQ M K ((ah (aQ n E V L T S) (ds.getD i.toNat 0)).getD 0)) (bX M K ((ah (aQ n E V L T S) (ds.getD i.toNat 0)).getD 0)) ((ah (aQ n E V L T S) (aq (ds.getD i.toNat 0))).getD 0),bX (bQ M K ((ah (aQ n E V L T S) (ds.getD i.toNat 0)).getD 0)) (bX M K ((ah (aQ n E V L T S) (ds.getD i.toNat 0)).getD 0)) ((ah (aQ n E V L T S) (aq (ds.getD i.toNat 0))).getD 0),ck (bQ M K ((ah (aQ n E V L T S) (ds.getD i.toNat 0)).getD 0)) (bX M K ((ah (aQ n E V L T S) (ds.getD i.toNat 0)).getD 0)) (ck M K U ((ah (aQ n E V L T S) (ds.getD i.toNat 0)).getD 0)) ((ah (aQ n E V L T S) (aq (ds.getD i.toNat 0))).getD 0),iC (bQ M K ((ah (aQ n E V L T S) (ds.getD i.toNat 0)).getD 0)) (iC M c ((ah (aQ n E V L T S) (ds.getD i.toNat 0)).getD 0)) ((ah (aQ n E V L T S) (aq (ds.getD i.toNat 0))).getD 0)) (rk [0,1,2,57351,57352,57353]) h ⟨by dsimp only;omega,by dsimp only;omega,by dsimp only;rw[Pd k0,k3];rfl⟩ (by dsimp only;omega))
 have oz:i.toNat=ds.length:=by omega
 have k4:=k3
 rw[oz] at k4
 refine go (pr:=(aV (0:Int) ds.length)/\(dc .int (ds.getD 0 0))) [] h ⟨bx,wk⟩ fun _ _ h=>?_
 refine go_loop ((Int->Bool)×Nat×(Option (Int×Int))×(List (Int×Int))×List Int×List Int×Int×(List (Int×Int))) (fun x_=>(fun(lf:Int->Bool) (cnt:Nat) (cur:Option (Int×Int)) (M:List (Int×Int)) (K:List Int) (U:List Int) (c:Int) (mo:List (Int×Int))=>⟨[(15,ep 0),(22,en ((ah (aQ n E V L T S) (ds.getD 0 0)).getD 0)),(23,em 1),(106,ep 2)],[(0,some (.box 138 [.mp 3,.own 4,.own 5,.v (.int .i64 c)])),(1,some (.map .int .int mo)),(2,some (.iter .int .int (aQ n E V L T S) lf cnt cur)),(3,some (.map .int .int M)),(4,some (.row 3 .int K)),(5,some (.row 3 .int U))],6⟩) x_.1 x_.2.1 x_.2.2.1 x_.2.2.2.1 x_.2.2.2.2.1 x_.2.2.2.2.2.1 x_.2.2.2.2.2.2.1 x_.2.2.2.2.2.2.2) (fun x_=>(fun(lf:Int->Bool) (cnt:Nat) (cur:Option (Int×Int)) (M:List (Int×Int)) (K:List Int) (U:List Int) (c:Int) (mo:List (Int×Int))=>Pe (aQ n E V L T S) (dF (aQ n E V L T S) L ds) ((ah (aQ n E V L T S) (ds.getD 0 0)).getD 0) lf cnt (M,K,U,c) mo/\True) x_.1 x_.2.1 x_.2.2.1 x_.2.2.2.1 x_.2.2.2.2.1 x_.2.2.2.2.2.1 x_.2.2.2.2.2.2.1 x_.2.2.2.2.2.2.2) (fun x_=>(fun(lf:Int->Bool) (cnt:Nat) (cur:Option (Int×Int)) (M:List (Int×Int)) (K:List Int) (U:List Int) (c:Int) (mo:List (Int×Int))=>cnt) x_.1 x_.2.1 x_.2.2.1 x_.2.2.2.1 x_.2.2.2.2.1 x_.2.2.2.2.2.1 x_.2.2.2.2.2.2.1 x_.2.2.2.2.2.2.2) ((fun z=>(ah (aQ n E V L T S) z).isSome),(aQ n E V L T S).length,none,M,K,U,c,[]) (rk [2,28678,40966,3,4,5]) h ⟨by have e:(dF (aQ n E V L T S) L ds)=(M,K,U,c):=k4;rw[<-e];exact Pe.start Lo,tv⟩ fun x_ _ _ _ Fs hI h=>?_
 obtain⟨lf,cnt,cur,M,K,U,c,mo⟩:=x_
 obtain⟨hI,_⟩:=hI
 dsimp only at hI
 refine aC [] h fun _ _ h=>?_
 refine BU ⟨.int,.int,(aQ n E V L T S),lf,cnt,cur,2,107⟩ h (fun(eZ:∀x:Int,lf x=false) _ _ h=>?_) (fun(k1:Int) (v1:Int) (c1:Nat) (eZ:lf k1=true) (QJ: -9223372036854775808<=k1/\k1<=9223372036854775807) (Ki:ah (aQ n E V L T S) k1=some v1) (zT:c1<cnt) _ _ h=>?_)
 .have hmf:=hI.fin eZ ES
  refine aC [] h fun _ _ h=>?_
  exact out ((mo:bl .int Int),(true:Bool),()) h (by unfold vu;rw[A8 Qx iZ,Qx,decide_eq_true iZ,<-hmf];rfl)
 have Fg:=Pf tF Ki
 have nK:lu M K U:=hI.ok.rep
 have Fe:M.length<=K.length:=nK.th
 have huu:U.length=K.length:=nK.len
 have QE:0<=c/\c<=(K.length:Int):=hI.ok.bd
 have hKl:=hI.len
 change K.length=(dF (aQ n E V L T S) L ds).2.1.length at hKl
 have hmo:=hI.Wv (Pa ES)
 have MN:(aQ n E V L T S).length<=100000000:=Pg
 have hmp:=dh mo k1 2
 by_cases z1:v1=((ah (aQ n E V L T S) (ds.getD 0 0)).getD 0)
 .refine go (pr:=(dc .int k1)/\(mo.length<=2147483647)/\(v1=((ah (aQ n E V L T S) (ds.getD 0 0)).getD 0))/\(dc .int k1)/\((cB mo k1 (2:Int)).length<=2147483647)) [(117,true)] h ⟨wk,ln,z1,wk,ln⟩ fun _ _ h=>?_
  exact bZ (Fs ((fun z=>lf z && !decide (z=k1)),c1,some (k1,v1),M,K,U,c,(cB (cB mo k1 (2:Int)) k1 (1:Int))) (ir 6) h ⟨hI.step Lo eZ Ki ⟨hI.ok,fun _ _=>Iff.rfl,rfl⟩ (r:=1) (by unfold KZ;rw[if_pos (.inl z1)]) _ (.inr rfl),tv⟩ (zT))
 refine go (pr:=(dc .int k1)/\(mo.length<=2147483647)/\(¬(v1=((ah (aQ n E V L T S) (ds.getD 0 0)).getD 0)))/\((-9223372036854775808<=v1/\v1<=9223372036854775807)/\(-9223372036854775808<=((ah (aQ n E V L T S) (ds.getD 0 0)).getD 0)/\((ah (aQ n E V L T S) (ds.getD 0 0)).getD 0)<=9223372036854775807)/\lu M K U/\K.length<=900000/\-900000<=c/\c<=900000)) [(117,false)] h ⟨wk,ln,z1,⟨⟨by omega,by omega⟩,⟨by omega,by omega⟩,nK,by omega,by omega,by omega⟩⟩ fun _ _ h=>?_
 refine ag h (fun(q7:(GJ (M,K,U,c) v1 ((ah (aQ n E V L T S) (ds.getD 0 0)).getD 0))=true)=>?_) (fun(q7:(GJ (M,K,U,c) v1 ((ah (aQ n E V L T S) (ds.getD 0 0)).getD 0))=false)=>?_)
 .refine go (pr:=(dc .int k1)/\((cB mo k1 (2:Int)).length<=2147483647)) [] h ⟨wk,ln⟩ fun _ _ h=>?_
  exact bZ (Fs ((fun z=>lf z && !decide (z=k1)),c1,some (k1,v1),M,K,UK (M,K,U,c) v1 ((ah (aQ n E V L T S) (ds.getD 0 0)).getD 0),c,(cB (cB mo k1 (2:Int)) k1 (1:Int))) (rk [0,1,2,69639,69640,69641]) h ⟨hI.step Lo eZ Ki ⟨(hI.ok.sm _ _).1,(hI.ok.sm _ _).2.1,rfl⟩ (r:=1) (by unfold KZ;rw[if_pos (.inr (by rw[<-I2 hI.ok Lo hI.rl];exact q7))]) _ (.inr rfl),tv⟩ (zT))
 refine aC [] h fun _ _ h=>?_
 exact bZ (Fs ((fun z=>lf z && !decide (z=k1)),c1,some (k1,v1),M,K,UK (M,K,U,c) v1 ((ah (aQ n E V L T S) (ds.getD 0 0)).getD 0),c,(cB mo k1 (2:Int))) (rk [0,1,2,69639,69640,69641]) h ⟨hI.step Lo eZ Ki ⟨(hI.ok.sm _ _).1,(hI.ok.sm _ _).2.1,rfl⟩ (r:=2) (by unfold KZ;rw[if_neg (by rintro(y|y);exact z1 y;rw[<-I2 hI.ok Lo hI.rl] at y;rw[show GJ (M,K,U,c) _ _=false from q7] at y;cases y)]) _ (.inl rfl),tv⟩ (zT))
def T1:cE Tryz.prog:=plain TZ
theorem aay:aS Tryz.prog 26 [(false,gX),(false,fR),(false,(.pair (.list (.list .int)) (.list (.list .int)))),(false,(.list .int))] [(.map .int .int),(.map .int .int),.bool] (fun x=>bz (I_ x.1.1)/\aO (K_ x.2.2.1.1)/\av (K_ x.2.2.1.1)/\aO (K_ x.2.2.1.2)/\av (K_ x.2.2.1.2)/\(J_ x.2.2.2.1).length<=10000/\∀d∈(J_ x.2.2.2.1),-9223372036854775808<=d/\d<=9223372036854775807) (fun x=>(si (I_ x.1.1) (E_ x.1.2) (J_ x.2.1.1) (J_ x.2.1.2) (K_ x.2.2.1.1) (K_ x.2.2.1.2) (J_ x.2.2.2.1),alE (I_ x.1.1) (E_ x.1.2) (J_ x.2.1.1) (J_ x.2.1.2) (K_ x.2.2.1.1) (K_ x.2.2.1.2) (J_ x.2.2.2.1),vu (I_ x.1.1) (E_ x.1.2) (J_ x.2.1.1) (J_ x.2.1.2) (K_ x.2.2.1.1) (K_ x.2.2.1.2) (J_ x.2.2.2.1),())):=by
 refine aF Tryz.f26 91 [T1,qE] Tryz.func26 fun o x hd _ _ h=>?_
 obtain⟨⟨(n:Int),(E:List (Int×Int))⟩,⟨(V:List Int),(L:List Int)⟩,⟨(T:List (List Int)),(S:List (List Int))⟩,(ds:List Int),_⟩:=x
 have e7:=gL h 0 E
 have eZ:=cg h 1 V
 have fS:=cg h 2 L
 have jm:=eP h 3 T
 have tE:=eP h 4 S
 have GX:=cg h 5 ds
 change bz n/\aO T/\av T/\aO S/\av S/\ds.length<=10000/\∀d∈ds,-9223372036854775808<=d/\d<=9223372036854775807 at hd
 obtain⟨hn,gp,cw,gF,cS,oG,Al⟩:=hd
 have tF:=cS.1
 refine go (pr:=(bz n/\aO T/\av T/\aO S/\av S/\ds.length<=10000/\∀d∈ds,-9223372036854775808<=d/\d<=9223372036854775807)) [] h (⟨hn,gp,cw,gF,cS,oG,Al⟩) fun _ _ h=>?_
 refine ag h (fun(q1:(vu n E V L T S ds)=false)=>?_) (fun(q1:(vu n E V L T S ds)=true)=>?_)
 .refine aC [] h fun _ _ h=>?_
  exact out (([]:bl .int Int),([]:bl .int Int),(false:Bool),()) h (by unfold si alE;rw[q1];rfl)
 have eE:vu n E V L T S ds=true:=q1
 obtain⟨Qx,UI⟩:=(Bool.and_eq_true _ _).mp eE
 have hcy:yg n E V L ds:=of_decide_eq_true Qx
 have iZ:bA n E V L T S=0:=of_decide_eq_true UI
 obtain⟨gw,dL,T0,_⟩:=hcy
 obtain⟨jZ,hV,hL,_⟩:=aD gw
 obtain⟨r1,r2,r3,_⟩:=aN jZ
 have zw:=ay hV r1
 have vf:=ay hL (by omega)
 obtain⟨_,UT,_⟩:=bS (bf (bH iZ).1)
 have Z8:=UT.len
 refine aC [] h fun _ _ h=>?_
 refine aK Int (List (Int×Int)) (fun i vm=>⟨[(3,eo 0),(4,ep 1),(5,ep 2),(6,ep 3),(11,em 4),(13,em 5),(14,em 6),(36,eo 7),(37,en (V.length:Int)),(38,en i)],[(0,some (.ar .int ds)),(1,some (.box 24 [.v (.int .i64 n),.own 8])),(2,some (.box 27 [.own 7,.own 9])),(3,some (.box 30 [.own 10,.own 11])),(4,some (.nA .int .int (dY n E V L T S ds))),(5,some (.map .int .int vm)),(6,some (.map .int .int ([]:bl .int Int))),(7,some (.ar .int V)),(8,some (.ar fA E)),(9,some (.ar .int L)),(10,some (.ar (.list .int) T)),(11,some (.ar (.list .int) S))],12⟩) (fun i vm=>0<=i/\i<=(V.length:Int)/\vm=GQ T (dY n E V L T S ds) V i.toNat) (fun i vm=>((V.length:Int)-i).toNat) 0 [] (rk [5,6,4102,8198,40966,73734,77830,1,0,2,3,4]) h ⟨Int.le_refl _,Int.natCast_nonneg _,rfl⟩ fun i vm _ _ _ cq hI h=>?_
 obtain⟨i0,i1,i2⟩:=hI
 refine aC [] h fun _ _ h=>?_
 refine ag h (fun(q2:i<(V.length:Int))=>?_) (fun(q2:¬(i<(V.length:Int)))=>?_)
 .have hvv:=(aG.1 hV).2 _ (af (l:=V) (i:=i.toNat) (d:=0) (by omega))
  have YB:=wz T (dY n E V L T S ds) V i.toNat
  rw[<-i2] at YB
  have hTm:(T.getD (V.getD i.toNat 0).toNat [])∈T:=af (by omega)
  refine go (pr:=(aV i V.length)/\(aX .i64 ((-1)-(V.getD i.toNat 0)))/\(aV (V.getD i.toNat 0) T.length)) [] h ⟨bx,bw,bx⟩ fun _ _ h=>?_
  refine ag h (fun(q3:(0:Int)<((T.getD (V.getD i.toNat 0).toNat []).length:Int))=>?_) (fun(q3:¬((0:Int)<((T.getD (V.getD i.toNat 0).toNat []).length:Int)))=>?_)
  .have abY:=gp _ hTm _ (af (l:=(T.getD (V.getD i.toNat 0).toNat [])) (i:=0) (d:=0) (by have:=q3;omega))
   refine go (pr:=(aV (0:Int) (T.getD (V.getD i.toNat 0).toNat []).length)/\(dc .int ((T.getD (V.getD i.toNat 0).toNat []).getD 0 0))/\(dc .int (V.getD i.toNat 0))/\(vm.length<=2147483647)/\(aX .i64 (i+1))) [] h ⟨bx,wk,wk,ln,bw⟩ fun _ _ h=>?_
   exact bZ (cq (i+1) (cB vm (V.getD i.toNat 0) ((ah (dY n E V L T S ds) ((T.getD (V.getD i.toNat 0).toNat []).getD 0 0)).getD 0)) (ir 12) h ⟨by omega,by omega,by rw[SY i0 q3,<-i2]⟩ (by omega))
  refine go (pr:=(dc .int ((-1)-(V.getD i.toNat 0)))/\(dc .int (V.getD i.toNat 0))/\(vm.length<=2147483647)/\(aX .i64 (i+1))) [] h ⟨wk,wk,ln,bw⟩ fun _ _ h=>?_
  exact bZ (cq (i+1) (cB vm (V.getD i.toNat 0) ((ah (dY n E V L T S ds) ((-1)-(V.getD i.toNat 0))).getD 0)) (ir 12) h ⟨by omega,by omega,by rw[Wx i0 q3,<-i2]⟩ (by omega))
 have oz:i.toNat=V.length:=by omega
 rw[oz] at i2
 have YB:=wz T (dY n E V L T S ds) V V.length
 rw[<-i2] at YB
 refine aC [] h fun _ _ h=>?_
 refine aK Int (List (Int×Int)) (fun i eM=>⟨[(3,eo 0),(4,ep 1),(11,em 2),(13,em 3),(14,em 4),(62,eo 5),(63,en (L.length:Int)),(64,en i)],[(0,some (.ar .int ds)),(1,some (.box 24 [.v (.int .i64 n),.own 6])),(2,some (.nA .int .int (dY n E V L T S ds))),(3,some (.map .int .int vm)),(4,some (.map .int .int eM)),(5,some (.ar .int L)),(6,some (.ar fA E))],7⟩) (fun i eM=>0<=i/\i<=(L.length:Int)/\eM=UO (dY n E V L T S ds) L i.toNat) (fun i eM=>((L.length:Int)-i).toNat) 0 [] (rk [0,1,4,5,6,9,8]) h ⟨Int.le_refl _,Int.natCast_nonneg _,rfl⟩ fun i eM _ _ _ fQ hI h=>?_
 obtain⟨k0,k1,k2⟩:=hI
 refine aC [] h fun _ _ h=>?_
 refine ag h (fun(q4:i<(L.length:Int))=>?_) (fun(q4:¬(i<(L.length:Int)))=>?_)
 .have hle:=(aG.1 hL).2 _ (af (l:=L) (i:=i.toNat) (d:=0) (by omega))
  have QW:=wA (dY n E V L T S ds) L i.toNat
  rw[<-k2] at QW
  refine go (pr:=(aV i L.length)/\(aX .i64 (2*(L.getD i.toNat 0)))/\(dc .int (2*(L.getD i.toNat 0)))/\(dc .int (L.getD i.toNat 0))/\(eM.length<=2147483647)/\(aX .i64 (i+1))) [] h ⟨bx,bw,wk,wk,ln,bw⟩ fun _ _ h=>?_
  exact bZ (fQ (i+1) (cB eM (L.getD i.toNat 0) ((ah (dY n E V L T S ds) (2*(L.getD i.toNat 0))).getD 0)) (ir 7) h ⟨by omega,by omega,by rw[Pj k0,<-k2]⟩ (by omega))
 have ru:i.toNat=L.length:=by omega
 rw[ru] at k2
 have QW:=wA (dY n E V L T S ds) L L.length
 rw[<-k2] at QW
 refine aC [] h fun _ _ h=>?_
 refine fB Int (List (Int×Int)) (List (Int×Int)) (fun i v2 e2=>⟨[(4,ep 0),(13,em 1),(14,em 2),(75,eo 3),(76,en (ds.length:Int)),(77,en i)],[(0,some (.box 24 [.v (.int .i64 n),.own 4])),(1,some (.map .int .int v2)),(2,some (.map .int .int e2)),(3,some (.ar .int ds)),(4,some (.ar fA E))],5⟩) (fun i v2 e2=>0<=i/\i<=(ds.length:Int)/\v2=Ph E ds (GQ T (dY n E V L T S ds) V V.length) i.toNat/\e2=Yf ds (UO (dY n E V L T S ds) L L.length) i.toNat) (fun i v2 e2=>((ds.length:Int)-i).toNat) 0 vm eM (rk [1,3,4,0,6]) h ⟨Int.le_refl _,Int.natCast_nonneg _,i2,k2⟩ fun i v2 e2 _ _ _ sj hI h=>?_
 obtain⟨m0,m1,m2,m3⟩:=hI
 refine aC [] h fun _ _ h=>?_
 refine ag h (fun(q5:i<(ds.length:Int))=>?_) (fun(q5:¬(i<(ds.length:Int)))=>?_)
 .obtain⟨U9,Lp⟩:=T0 _ (af (l:=ds) (i:=i.toNat) (d:=0) (by omega))
  rw[eC hL,decide_eq_true_eq] at Lp
  obtain⟨hd3,hd4,hd5,hd6⟩:=cv gw (show aU L (ds.getD i.toNat 0) from Lp)
  have hd7:=(aG.1 hV).2 _ hd3
  have Ue:=I4 E ds (GQ T (dY n E V L T S ds) V V.length) i.toNat
  rw[<-m2] at Ue
  have he2:=I5 ds (UO (dY n E V L T S ds) L L.length) i.toNat
  rw[<-m3] at he2
  have abZ:=wz T (dY n E V L T S ds) V V.length
  have ab0:=wA (dY n E V L T S ds) L L.length
  refine go (pr:=(aV i ds.length)/\(0<=(ds.getD i.toNat 0)/\(ds.getD i.toNat 0)/2<(E.length:Int)/\(ds.getD i.toNat 0)<=1000000)/\(dc .int (ak E (ds.getD i.toNat 0)))/\(v2.length<=2147483647)/\(0<=(ds.getD i.toNat 0)/\0<(2:Int)/\aX .i64 (ds.getD i.toNat 0))/\(dc .int ((ds.getD i.toNat 0)/2))/\(e2.length<=2147483647)/\(aX .i64 (i+1))) [] h ⟨bx,⟨by omega,by omega,by omega⟩,wk,ln,⟨by omega,by omega,⟨by omega,by omega⟩⟩,wk,ln,bw⟩ fun _ _ h=>?_
  exact bZ (sj (i+1) (cB v2 (ak E (ds.getD i.toNat 0)) (0:Int)) (cB e2 ((ds.getD i.toNat 0)/2) (0:Int)) (ir 5) h ⟨by omega,by omega,by rw[Pk m0,<-m2],by rw[Pm m0,<-m3]⟩ (by omega))
 have Fq:i.toNat=ds.length:=by omega
 rw[Fq] at m2 m3
 refine aC [] h fun _ _ h=>?_
 exact out ((v2:bl .int Int),(e2:bl .int Int),(true:Bool),()) h (by unfold si alE;rw[eE,if_pos rfl,if_pos rfl,<-m2,<-m3])
def aaz:cE Tryz.prog:=plain aay
theorem Qy:aS Tryz.prog 9 [(false,(.pair gX (.pair fR (.pair (.list (.list .int)) (.list (.list .int)))))),(false,(.pair (.list (.list .int)) (.list (.list .int))))] [(.list .int),.int,.bool] (fun x=>bz (I_ x.1.1.1)/\aO (K_ x.1.2.2.1)/\av (K_ x.1.2.2.1)/\aO (K_ x.1.2.2.2)/\av (K_ x.1.2.2.2)/\aO (K_ x.2.1.1)/\av (K_ x.2.1.1)/\aO (K_ x.2.1.2)/\av (K_ x.2.1.2)) (fun x=>((cR (I_ x.1.1.1) (E_ x.1.1.2) (J_ x.1.2.1.1) (J_ x.1.2.1.2) (K_ x.1.2.2.1) (K_ x.1.2.2.2) (K_ x.2.1.1) (K_ x.2.1.2)).1,(cR (I_ x.1.1.1) (E_ x.1.1.2) (J_ x.1.2.1.1) (J_ x.1.2.1.2) (K_ x.1.2.2.1) (K_ x.1.2.2.2) (K_ x.2.1.1) (K_ x.2.1.2)).2.1,(cR (I_ x.1.1.1) (E_ x.1.1.2) (J_ x.1.2.1.1) (J_ x.1.2.1.2) (K_ x.1.2.2.1) (K_ x.1.2.2.2) (K_ x.2.1.1) (K_ x.2.1.2)).2.2,())):=by
 refine aF Tryz.f9 102 [aaz,yN,Qw,CN,IF] Tryz.func9 fun o x hd _ _ h=>?_
 obtain⟨⟨⟨(n:Int),(E:List (Int×Int))⟩,⟨⟨(V:List Int),(L:List Int)⟩,⟨(T:List (List Int)),(S:List (List Int))⟩⟩⟩,⟨(U:List (List Int)),(R:List (List Int))⟩,_⟩:=x
 have e7:=gL h 0 E
 have eZ:=cg h 1 V
 have fS:=cg h 2 L
 have jm:=eP h 3 T
 have tE:=eP h 4 S
 have GX:=eP h 5 U
 have QN:=eP h 6 R
 change bz n/\aO T/\av T/\aO S/\av S/\aO U/\av U/\aO R/\av R at hd
 obtain⟨hn,gp,cw,gF,cS,rZ,jN,r5,lX⟩:=hd
 refine go (pr:=(bz n/\aO T/\av T/\aO S/\av S/\aO U/\av U/\aO R/\av R)) [] h (⟨hn,gp,cw,gF,cS,rZ,jN,r5,lX⟩) fun _ _ h=>?_
 refine ag h (fun(q1:¬(bR n E V L T S U R=0))=>?_) (fun(q1:bR n E V L T S U R=0)=>?_)
 .refine aC [] h fun _ _ h=>?_
  exact out (([]:List Int),((0:Int):Int),(false:Bool),()) h (by rw[n0 (.inl q1)])
 refine go (pr:=(bz n/\aO T/\av T/\aO S/\av S/\aO U/\av U/\aO R/\av R)) [] h (⟨hn,gp,cw,gF,cS,rZ,jN,r5,lX⟩) fun _ _ h=>?_
 refine ag h (fun(q2:((cM n E V L T S U R).2)=true)=>?_) (fun(q2:((cM n E V L T S U R).2)=false)=>?_)
 .refine aC [] h fun _ _ h=>?_
  exact out (([]:List Int),((0:Int):Int),(false:Bool),()) h (by rw[n0 (.inr q2)])
 have vt:=q1
 obtain⟨Xe,Yi⟩:=pO vt
 obtain⟨gw,iZ⟩:=tB Xe
 have XN:(cM n E V L T S U R).2=false:=q2
 have abq:=yx (n:=n) (E:=E) (V:=V) (L:=L) (T:=T) (S:=S)
 refine go (pr:=(bz n/\aO T/\av T/\aO S/\av S)) [] h (⟨hn,gp,cw,gF,cS⟩) fun _ _ h=>?_
 refine ag h (fun(q3:¬(bA n E V L T S=0))=>?_) (fun(q3:bA n E V L T S=0)=>?_)
 .exact(q3 iZ).elim
 refine aC [] h fun _ _ h=>?_
 refine go_loop (Int) (fun i=>⟨[(2,ep 0),(3,ep 1),(46,eo 2),(47,en ((bn n E V L T S).length:Int)),(48,en i)],[(0,some (.box 32 [.v (.int .i64 n),.own 3,.own 4,.own 5,.own 6,.own 7])),(1,some (.box 30 [.own 8,.own 9])),(2,some (.ro (.list .int) (bn n E V L T S))),(3,some (.ar fA E)),(4,some (.ar .int V)),(5,some (.ar .int L)),(6,some (.ar (.list .int) T)),(7,some (.ar (.list .int) S)),(8,some (.ar (.list .int) U)),(9,some (.ar (.list .int) R))],10⟩) (fun i=>0<=i/\i<=((bn n E V L T S).length:Int)/\∀j:Nat,(j:Int)<i->(LB n E V L T S U R ((bn n E V L T S).getD j [])).2=false) (fun i=>(((bn n E V L T S).length:Int)-i).toNat) (0) (rk [7,4103,98311,0,1,2,3,4,5,6]) h ⟨Int.le_refl _,Int.natCast_nonneg _,fun j hj=>by omega⟩ fun i _ _ _ cq hI h=>?_
 obtain⟨i0,i1,i2⟩:=hI
 refine aC [] h fun _ _ h=>?_
 refine ag h (fun(q4:i<((bn n E V L T S).length:Int))=>?_) (fun(q4:¬(i<((bn n E V L T S).length:Int)))=>?_)
 .obtain⟨zT,_,hc2,y6⟩:=yw (af (l:=(bn n E V L T S)) (i:=i.toNat) (d:=[]) (by omega))
  have zH:((bn n E V L T S).getD i.toNat []).length<=10000:=by omega
  have hcr:∀d∈((bn n E V L T S).getD i.toNat []),-9223372036854775808<=d/\d<=9223372036854775807:=fun d hd=>by have:=y6 d hd;omega
  refine go (pr:=(aV i (bn n E V L T S).length)/\(bz n/\aO T/\av T/\aO S/\av S/\((bn n E V L T S).getD i.toNat []).length<=10000/\∀d∈((bn n E V L T S).getD i.toNat []),-9223372036854775808<=d/\d<=9223372036854775807)/\(bz n)/\(bz n/\aO U/\av U/\aO R/\av R/\((bn n E V L T S).getD i.toNat []).length<=10000/\∀d∈((bn n E V L T S).getD i.toNat []),-9223372036854775808<=d/\d<=9223372036854775807)) [] h ⟨bx,⟨hn,gp,cw,gF,cS,zH,hcr⟩,hn,⟨hn,rZ,jN,r5,lX,zH,hcr⟩⟩ fun _ _ h=>?_
  refine go_loop ((Int->Bool)×Nat×(Option (Int×Int))×Int×Bool) (fun x_=>(fun(lf:Int->Bool) (cnt:Nat) (cur:Option (Int×Int)) (least:Int) (bad:Bool)=>⟨[(2,ep 0),(3,ep 1),(12,eo 2),(16,em 3),(19,en least),(20,some ⟨[],.one (.b (.raw bad))⟩),(46,eo 4),(47,en ((bn n E V L T S).length:Int)),(48,en i),(77,ep 5)],[(0,some (.box 32 [.v (.int .i64 n),.own 6,.own 7,.own 8,.own 9,.own 10])),(1,some (.box 30 [.own 11,.own 12])),(2,some (.ro .int ((bn n E V L T S).getD i.toNat []))),(3,some (.nA .int .int (si n E ((fD n E).1) ((fD n E).2) U R ((bn n E V L T S).getD i.toNat [])))),(4,some (.ro (.list .int) (bn n E V L T S))),(5,some (.iter .int .int (si n E V L T S ((bn n E V L T S).getD i.toNat [])) lf cnt cur)),(6,some (.ar fA E)),(7,some (.ar .int V)),(8,some (.ar .int L)),(9,some (.ar (.list .int) T)),(10,some (.ar (.list .int) S)),(11,some (.ar (.list .int) U)),(12,some (.ar (.list .int) R))],13⟩) x_.1 x_.2.1 x_.2.2.1 x_.2.2.2.1 x_.2.2.2.2) (fun x_=>(fun(lf:Int->Bool) (cnt:Nat) (cur:Option (Int×Int)) (least:Int) (bad:Bool)=>LA (si n E V L T S ((bn n E V L T S).getD i.toNat [])) (si n E (fD n E).1 (fD n E).2 U R ((bn n E V L T S).getD i.toNat [])) lf least bad/\True) x_.1 x_.2.1 x_.2.2.1 x_.2.2.2.1 x_.2.2.2.2) (fun x_=>(fun(lf:Int->Bool) (cnt:Nat) (cur:Option (Int×Int)) (least:Int) (bad:Bool)=>cnt) x_.1 x_.2.1 x_.2.2.1 x_.2.2.2.1 x_.2.2.2.2) ((fun z=>(ah (si n E V L T S ((bn n E V L T S).getD i.toNat [])) z).isSome),(si n E V L T S ((bn n E V L T S).getD i.toNat [])).length,none,0,false) (rk [0,1,8202,106506,2,151562,3,4,5,6,7,8,9]) h ⟨LA.start,tv⟩ fun x_ _ _ _ fQ hI h=>?_
  obtain⟨lf,cnt,cur,least,bad⟩:=x_
  obtain⟨hI,_⟩:=hI
  dsimp only at hI
  refine aC [] h fun _ _ h=>?_
  refine BU ⟨.int,.int,(si n E V L T S ((bn n E V L T S).getD i.toNat [])),lf,cnt,cur,5,78⟩ h (fun(eZ:∀x:Int,lf x=false) _ _ h=>?_) (fun(k1:Int) (v1:Int) (c1:Nat) (eZ:lf k1=true) (QJ: -9223372036854775808<=k1/\k1<=9223372036854775807) (Ki:ah (si n E V L T S ((bn n E V L T S).getD i.toNat [])) k1=some v1) (zT:c1<cnt) _ _ h=>?_)
  .have sJ:LB n E V L T S U R ((bn n E V L T S).getD i.toNat [])=(least,bad):=hI.fin eZ Jb
   refine aC [] h fun _ _ h=>?_
   refine ag h (fun(q5:bad=true)=>?_) (fun(q5:bad=false)=>?_)
   .refine aC [] h fun _ _ h=>?_
    exact out ((((bn n E V L T S).getD i.toNat []):List Int),(least:Int),(true:Bool),()) h (by rw[yz vt XN i0 (by omega) (by rw[sJ,show bad=true from q5]) i2])
   refine go (pr:=(aX .i64 (i+1))) [] h bw fun _ _ h=>?_
   exact bZ (cq (i+1) (rk [0,1,4,6,7,8,9,10,11,12]) h ⟨by omega,by omega,fun j hj=>if z:(j:Int)<i then i2 j z else by rw[show j=i.toNat by omega,sJ];exact q5⟩ (by omega))
  refine go (pr:=(dc .int k1)) [] h wk fun _ _ h=>?_
  refine ag h (fun(q6:(¬(((ah (si n E ((fD n E).1) ((fD n E).2) U R ((bn n E V L T S).getD i.toNat [])) k1).getD 0)=v1))/\((bad=false)\/(k1<least)))=>?_) (fun(q6:(((ah (si n E ((fD n E).1) ((fD n E).2) U R ((bn n E V L T S).getD i.toNat [])) k1).getD 0)=v1)\/((bad=true)/\(¬(k1<least))))=>?_)
  .refine aC [] h fun _ _ h=>?_
   exact bZ (fQ ((fun z=>lf z && !decide (z=k1)),c1,some (k1,v1),k1,true) (ir 13) h ⟨hI.take Ki q6.1 q6.2,tv⟩ (zT))
  refine aC [] h fun _ _ h=>?_
  exact bZ (fQ ((fun z=>lf z && !decide (z=k1)),c1,some (k1,v1),least,bad) (ir 13) h ⟨hI.stay Ki q6,tv⟩ (zT))
 refine aC [] h fun _ _ h=>?_
 exact out (([]:List Int),((0:Int):Int),(false:Bool),()) h (by rw[A9 vt XN (fun j hj=>i2 j (by omega))])
def Fc:cE Tryz.prog:=plain Qy
theorem T2:aS Tryz.prog 7 [(false,(.pair gX (.pair fR (.pair (.list (.list .int)) (.list (.list .int)))))),(false,(.pair (.list (.list .int)) (.list (.list .int))))] [.int] (fun x=>bz (I_ x.1.1.1)/\aO (K_ x.1.2.2.1)/\av (K_ x.1.2.2.1)/\aO (K_ x.1.2.2.2)/\av (K_ x.1.2.2.2)/\aO (K_ x.2.1.1)/\av (K_ x.2.1.1)/\aO (K_ x.2.1.2)/\av (K_ x.2.1.2)) (fun x=>(fI (I_ x.1.1.1) (E_ x.1.1.2) (J_ x.1.2.1.1) (J_ x.1.2.1.2) (K_ x.1.2.2.1) (K_ x.1.2.2.2) (K_ x.2.1.1) (K_ x.2.1.2),())):=by
 refine aF Tryz.f7 32 [yN,Fc,CN] Tryz.func7 fun o x hd _ _ h=>?_
 obtain⟨⟨⟨(n:Int),(E:List (Int×Int))⟩,⟨⟨(V:List Int),(L:List Int)⟩,⟨(T:List (List Int)),(S:List (List Int))⟩⟩⟩,⟨(U:List (List Int)),(R:List (List Int))⟩,_⟩:=x
 have e7:=gL h 0 E
 have eZ:=cg h 1 V
 have fS:=cg h 2 L
 have jm:=eP h 3 T
 have tE:=eP h 4 S
 have GX:=eP h 5 U
 have QN:=eP h 6 R
 change bz n/\aO T/\av T/\aO S/\av S/\aO U/\av U/\aO R/\av R at hd
 obtain⟨hn,gp,cw,gF,cS,rZ,jN,r5,lX⟩:=hd
 refine go (pr:=(bz n/\aO T/\av T/\aO S/\av S/\aO U/\av U/\aO R/\av R)) [] h (⟨hn,gp,cw,gF,cS,rZ,jN,r5,lX⟩) fun _ _ h=>?_
 refine ag h (fun(q1:¬(bR n E V L T S U R=0))=>?_) (fun(q1:bR n E V L T S U R=0)=>?_)
 .refine aC [] h fun _ _ h=>?_
  exact out ((bR n E V L T S U R:Int),()) h (by unfold fI;rw[if_pos q1])
 refine go (pr:=(bz n/\aO T/\av T/\aO S/\av S/\aO U/\av U/\aO R/\av R)) [] h (⟨hn,gp,cw,gF,cS,rZ,jN,r5,lX⟩) fun _ _ h=>?_
 refine ag h (fun(q2:((cM n E V L T S U R).2)=true)=>?_) (fun(q2:((cM n E V L T S U R).2)=false)=>?_)
 .refine aC [] h fun _ _ h=>?_
  exact out (((5:Int):Int),()) h (by unfold fI;rw[if_neg (by rw[show bR n E V L T S U R=0 from q1];exact fun q=>q rfl),if_pos q2])
 refine go (pr:=(bz n/\aO T/\av T/\aO S/\av S/\aO U/\av U/\aO R/\av R)) [] h (⟨hn,gp,cw,gF,cS,rZ,jN,r5,lX⟩) fun _ _ h=>?_
 refine ag h (fun(q3:((cR n E V L T S U R).2.2)=true)=>?_) (fun(q3:((cR n E V L T S U R).2.2)=false)=>?_)
 .refine aC [] h fun _ _ h=>?_
  exact out (((7:Int):Int),()) h (by unfold fI;rw[if_neg (by rw[show bR n E V L T S U R=0 from q1];exact fun q=>q rfl),if_neg (by rw[q2];decide),if_pos q3])
 refine aC [] h fun _ _ h=>?_
 exact out (((0:Int):Int),()) h (by unfold fI;rw[if_neg (by rw[show bR n E V L T S U R=0 from q1];exact fun q=>q rfl),if_neg (by rw[q2];decide),if_neg (by rw[q3];decide)])
def Jz:cE Tryz.prog:=plain T2
end Go.Proofs.YtnfdimfepbbbpaaGreat
namespace Go.Proofs.YtnfdimfepbbbpaaGreat
open Go.RowKit
open Go.Proofs.YtnfdimfepbbbpaaGreat.Deep
section
variable {n:Int}{E:List (Int×Int)}{V L:List Int}{T S U R:List (List Int)}
theorem XM (h:¬zq n E V L T S U R=0):fI n E V L T S U R=zq n E V L T S U R/\cM n E V L T S U R=(0,false)/\cR n E V L T S U R=([],0,false):=by
 rw[PX] at h ⊢
 exact⟨if_pos h,yy h,n0 (.inl h)⟩
theorem CO (h:bR n E V L T S U R=0):fI n E V L T S U R=if(cM n E V L T S U R).2=true then 5 else if(cR n E V L T S U R).2.2=true then 7 else 0:=if_neg fun q=>q h
theorem T3 (h:bR n E V L T S U R=0)(k:0<=Fo V L T U):fI n E V L T S U R=5/\cM n E V L T S U R=(Fo V L T U,true)/\cR n E V L T S U R=([],0,false):=by
 have e:=(Hf h).1 k
 exact⟨by rw[CO h,e];rfl,e,n0 (.inr (by rw[e]))⟩
theorem JA (h:bR n E V L T S U R=0)(k:¬0<=Fo V L T U)(j:0<=(CF n E V L T S U R).2):fI n E V L T S U R=7/\cM n E V L T S U R=(0,false)/\cR n E V L T S U R=((CF n E V L T S U R).1,(CF n E V L T S U R).2,true):=by
 have e:=(Hf h).2 k
 have e2:=(P3 h (by rw[e])).1 j
 exact⟨by rw[CO h,e,e2];rfl,e,e2⟩
theorem U4 (h:bR n E V L T S U R=0)(k:¬0<=Fo V L T U)(j:¬0<=(CF n E V L T S U R).2):fI n E V L T S U R=0/\cM n E V L T S U R=(0,false)/\cR n E V L T S U R=([],0,false):=by
 have e:=(Hf h).2 k
 have e2:=(P3 h (by rw[e])).2 j
 exact⟨by rw[CO h,e,e2];rfl,e,e2⟩
end
abbrev xmE:List (Int×Int):=[(0,1),(1,2),(2,0)]
abbrev xmT:List (List Int):=[[0,5],[1,2],[3,4],[]]
theorem aaA:fI 4 xmE (upto 4) (upto (xmE.length:Int)) xmT [[-4,0]] xmT [[-4,0]]=0:=(U4 (by decide+kernel) (by decide+kernel) (by decide+kernel)).1
theorem aaB:fI 4 xmE (upto 4) (upto (xmE.length:Int)) xmT [[-4,0]] xmT [[-4,1]]=7:=(JA (by decide+kernel) (by decide+kernel) (by decide+kernel)).1
theorem T4:aS Tryz.prog 5 [] [.bool] (fun _=>True) (fun x=>(true,())):=by
 refine aF Tryz.f5 37 [Jz,yj] Tryz.func5 fun o x hd _ _ h=>?_
 have hn:bz 4:=by decide
 refine go (pr:=(bz (4:Int)/\(4:Int)<=1000000/\([((0:Int),(1:Int)),((1:Int),(2:Int)),((2:Int),(0:Int))]:List (Int×Int)).length<=1000000)/\(bz 4/\aO ([([(0:Int),(5:Int)]:List Int),([(1:Int),(2:Int)]:List Int),([(3:Int),(4:Int)]:List Int),[]]:List (List Int))/\av ([([(0:Int),(5:Int)]:List Int),([(1:Int),(2:Int)]:List Int),([(3:Int),(4:Int)]:List Int),[]]:List (List Int))/\aO ([([(-4:Int),(0:Int)]:List Int)]:List (List Int))/\av ([([(-4:Int),(0:Int)]:List Int)]:List (List Int))/\aO ([([(0:Int),(5:Int)]:List Int),([(1:Int),(2:Int)]:List Int),([(3:Int),(4:Int)]:List Int),[]]:List (List Int))/\av ([([(0:Int),(5:Int)]:List Int),([(1:Int),(2:Int)]:List Int),([(3:Int),(4:Int)]:List Int),[]]:List (List Int))/\aO ([([(-4:Int),(0:Int)]:List Int)]:List (List Int))/\av ([([(-4:Int),(0:Int)]:List Int)]:List (List Int)))/\((fI (4:Int) ([((0:Int),(1:Int)),((1:Int),(2:Int)),((2:Int),(0:Int))]:List (Int×Int)) (upto (4:Int)) (upto (([((0:Int),(1:Int)),((1:Int),(2:Int)),((2:Int),(0:Int))]:List (Int×Int)).length:Int)) ([([(0:Int),(5:Int)]:List Int),([(1:Int),(2:Int)]:List Int),([(3:Int),(4:Int)]:List Int),[]]:List (List Int)) ([([(-4:Int),(0:Int)]:List Int)]:List (List Int)) ([([(0:Int),(5:Int)]:List Int),([(1:Int),(2:Int)]:List Int),([(3:Int),(4:Int)]:List Int),[]]:List (List Int)) ([([(-4:Int),(0:Int)]:List Int)]:List (List Int))=0)->(bz 4/\aO ([([(0:Int),(5:Int)]:List Int),([(1:Int),(2:Int)]:List Int),([(3:Int),(4:Int)]:List Int),[]]:List (List Int))/\av ([([(0:Int),(5:Int)]:List Int),([(1:Int),(2:Int)]:List Int),([(3:Int),(4:Int)]:List Int),[]]:List (List Int))/\aO ([([(-4:Int),(0:Int)]:List Int)]:List (List Int))/\av ([([(-4:Int),(0:Int)]:List Int)]:List (List Int))/\aO ([([(0:Int),(5:Int)]:List Int),([(1:Int),(2:Int)]:List Int),([(3:Int),(4:Int)]:List Int),[]]:List (List Int))/\av ([([(0:Int),(5:Int)]:List Int),([(1:Int),(2:Int)]:List Int),([(3:Int),(4:Int)]:List Int),[]]:List (List Int))/\aO ([([(-4:Int),(1:Int)]:List Int)]:List (List Int))/\av ([([(-4:Int),(1:Int)]:List Int)]:List (List Int))))) [] h ⟨⟨hn,by decide,by decide⟩,by unfold aO av;decide,fun _=>by unfold aO av;decide⟩ fun _ _ h=>?_
 exact out (((decide (fI (4:Int) ([((0:Int),(1:Int)),((1:Int),(2:Int)),((2:Int),(0:Int))]:List (Int×Int)) (upto (4:Int)) (upto (([((0:Int),(1:Int)),((1:Int),(2:Int)),((2:Int),(0:Int))]:List (Int×Int)).length:Int)) ([([(0:Int),(5:Int)]:List Int),([(1:Int),(2:Int)]:List Int),([(3:Int),(4:Int)]:List Int),[]]:List (List Int)) ([([(-4:Int),(0:Int)]:List Int)]:List (List Int)) ([([(0:Int),(5:Int)]:List Int),([(1:Int),(2:Int)]:List Int),([(3:Int),(4:Int)]:List Int),[]]:List (List Int)) ([([(-4:Int),(0:Int)]:List Int)]:List (List Int))=0)) && (decide (fI (4:Int) ([((0:Int),(1:Int)),((1:Int),(2:Int)),((2:Int),(0:Int))]:List (Int×Int)) (upto (4:Int)) (upto (([((0:Int),(1:Int)),((1:Int),(2:Int)),((2:Int),(0:Int))]:List (Int×Int)).length:Int)) ([([(0:Int),(5:Int)]:List Int),([(1:Int),(2:Int)]:List Int),([(3:Int),(4:Int)]:List Int),[]]:List (List Int)) ([([(-4:Int),(0:Int)]:List Int)]:List (List Int)) ([([(0:Int),(5:Int)]:List Int),([(1:Int),(2:Int)]:List Int),([(3:Int),(4:Int)]:List Int),[]]:List (List Int)) ([([(-4:Int),(1:Int)]:List Int)]:List (List Int))=7)):Bool),()) h (congrArg (·,()) ((Bool.and_eq_true _ _).mpr ⟨decide_eq_true aaA,decide_eq_true aaB⟩))
def T5:cE Tryz.prog:=plain T4
theorem yO (w:World)(n:Int)(E:List (Int×Int))(V:List Int)(L:List Int)(T:List (List Int))(S:List (List Int))(U:List (List Int))(R:List (List Int))(v0:Value)(v1:Value)(g0:Rd (· <w.heap.size) w v0 (((n,E),((V,L),(T,S))):(Int×List (Int×Int))×((List Int)×List Int)×(List (List Int))×List (List Int)))(g1:Rd (· <w.heap.size) w v1 ((U,R):(List (List Int))×List (List Int)))(hn:bz n)(gp:aO T)(gF:aO S)(rZ:aO U)(r5:aO R):Calls Tryz.prog 3 [v0,v1].toArray w (Ans (.bool true) w):=by
 refine KQ (Sg Tryz.f3 139 [Fc,T5,Jz,aaf,OK,Xo,WK,Xg,CN] (de:=[(true,(.pair gX (.pair fR (.pair (.list (.list .int)) (.list (.list .int)))))),(true,(.pair (.list (.list .int)) (.list (.list .int))))]) (rs:=[.bool]) [] (V3 w) [v0,v1] (((n,E),((V,L),(T,S))),(U,R),()) ⟨g0,g1,tv⟩ Tryz.func3 fun _ _ h=>?_)
 have e7:=gL h 0 E
 have eZ:=cg h 1 V
 have fS:=cg h 2 L
 have jm:=eP h 3 T
 have tE:=eP h 4 S
 have GX:=eP h 5 U
 have QN:=eP h 6 R
 refine go (pr:=True/\((true=true)->(bz n))) [] h ⟨tv,fun _=>hn⟩ fun _ _ h=>?_
 refine ag h (fun(q1:(true=false)\/((Z3 n E V L T S U R)=false))=>?_) (fun(q1:(true=true)/\((Z3 n E V L T S U R)=true))=>?_)
 .refine go (pr:=True) [] h tv fun _ _ h=>?_
  exact out ((true:Bool),()) h rfl
 obtain⟨cw,cS,jN,lX⟩:=WB q1.2
 refine go (pr:=(bz n/\aO T/\av T/\aO S/\av S/\aO U/\av U/\aO R/\av R)/\(bz n/\aO T/\av T/\aO S/\av S/\aO U/\av U/\aO R/\av R)/\(bz n/\aO T/\av T/\aO S/\av S/\aO U/\av U/\aO R/\av R)/\(bz n/\av T/\av S/\av U/\av R)) [] h ⟨⟨hn,gp,cw,gF,cS,rZ,jN,r5,lX⟩,⟨hn,gp,cw,gF,cS,rZ,jN,r5,lX⟩,⟨hn,gp,cw,gF,cS,rZ,jN,r5,lX⟩,⟨hn,cw,cS,jN,lX⟩⟩ fun _ _ h=>?_
 refine ag h (fun(q2:¬(zq n E V L T S U R=0))=>?_) (fun(q2:zq n E V L T S U R=0)=>?_)
 .refine aC [] h fun _ _ h=>?_
  exact out (((((((decide (fI n E V L T S U R=zq n E V L T S U R)) && (!((cM n E V L T S U R).2))) && (decide ((cM n E V L T S U R).1=0))) && (!((cR n E V L T S U R).2.2))) && (decide ((((cR n E V L T S U R).1).length:Int)=0))) && (decide ((cR n E V L T S U R).2.1=0)):Bool),()) h (by obtain⟨e1,e2,e3⟩:=XM q2;rw[e1,e2,e3];simp<;>rfl)
 have vt:bR n E V L T S U R=0:=PX.symm.trans q2
 refine go (pr:=(bz n/\av T/\av U/\bR n E V L T S U R=0)) [] h (⟨hn,cw,jN,vt⟩) fun _ _ h=>?_
 refine ag h (fun(q3:(0:Int)<=Fo V L T U)=>?_) (fun(q3:¬((0:Int)<=Fo V L T U))=>?_)
 .refine aC [] h fun _ _ h=>?_
  exact out ((((((decide (fI n E V L T S U R=5)) && ((cM n E V L T S U R).2)) && (decide ((cM n E V L T S U R).1=Fo V L T U))) && (!((cR n E V L T S U R).2.2))) && (decide ((((cR n E V L T S U R).1).length:Int)=0)):Bool),()) h (by obtain⟨e1,e2,e3⟩:=T3 vt q3;rw[e1,e2,e3];simp<;>rfl)
 refine go (pr:=(bz n/\av T/\av S/\av U/\av R/\bR n E V L T S U R=0)) [] h (⟨hn,cw,cS,jN,lX,vt⟩) fun _ _ h=>?_
 refine ag h (fun(q4:(0:Int)<=(CF n E V L T S U R).2)=>?_) (fun(q4:¬((0:Int)<=(CF n E V L T S U R).2))=>?_)
 .refine go (pr:=((((fI n E V L T S U R=7)/\(((cM n E V L T S U R).2)=false))/\(((cR n E V L T S U R).2.2)=true))/\((cR n E V L T S U R).2.1=(CF n E V L T S U R).2))->True) [] h (fun _=>trivial) fun _ _ h=>?_
  exact out ((((((decide (fI n E V L T S U R=7)) && (!((cM n E V L T S U R).2))) && ((cR n E V L T S U R).2.2)) && (decide ((cR n E V L T S U R).2.1=(CF n E V L T S U R).2))) && (decide ((cR n E V L T S U R).1=(CF n E V L T S U R).1)):Bool),()) h (by obtain⟨e1,e2,e3⟩:=JA vt q3 q4;rw[e1,e2,e3];simp<;>rfl)
 refine aC [] h fun _ _ h=>?_
 exact out ((((((decide (fI n E V L T S U R=0)) && (!((cM n E V L T S U R).2))) && (!((cR n E V L T S U R).2.2))) && (decide ((((cR n E V L T S U R).1).length:Int)=0))) && (decide ((cR n E V L T S U R).2.1=0)):Bool),()) h (by obtain⟨e1,e2,e3⟩:=U4 vt q3 q4;rw[e1,e2,e3];simp<;>rfl)
end Go.Proofs.YtnfdimfepbbbpaaGreat
