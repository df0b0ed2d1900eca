/-
  Texts joined by program: VTR4, VTR3, VTF1, VTW3, VTW2, VTW4, VTR5, VTF2, VTF3, VTS1, VTF4, VTA4, VTA1, VTA5, VTH1, VTH2, VTA2, VTH6, VTH4, VTH5, VTH3, VTH7, VTH8, VTA6, WkVc.
-/
import Derived.Test.YtnfdimfepbbbpaaGreatJAuditAgrees5
import Derived.Test.YtnfdimfepbbbpaaGreatProg
set_option linter.unusedSimpArgs false
set_option linter.unusedVariables false
set_option maxRecDepth 100000
set_option maxHeartbeats 8000000
namespace Go.Proofs.YtnfdimfepbbbpaaGreat
open Go.RowKit
theorem WG:bG Tryz.prog 80 [(false,nv),(false,kI),(false,(.list (.list .int)))] [(.ptr (.pair (.list (.list .int)) (.pair (.map .int .int) (.pair (.map .int .int) (.list .int))))),.int] (fun x=>cF (I_ x.1.1)/\aC (K_ x.2.2.1)/\az (K_ x.2.2.1)) (fun x=>((eD (I_ x.1.1) (E_ x.1.2) (J_ x.2.1.1) (J_ x.2.1.2) (K_ x.2.2.1)).1,(eD (I_ x.1.1) (E_ x.1.2) (J_ x.2.1.1) (J_ x.2.1.2) (K_ x.2.2.1)).2,())):=by
 refine bn Tryz.f80 135 [tY,WE] Tryz.func80 fun o x hd _ _ h=>?_
 obtain⟨⟨(n:Int),(E:List (Int×Int))⟩,⟨(V:List Int),(L:List Int)⟩,(T:List (List Int)),_⟩:=x
 have jt:=mh h 0 E
 have gE:=dh h 1 V
 have gH:=dh h 2 L
 have lT:=gC h 3 T
 change cF n/\aC T/\az T at hd
 obtain⟨hn,eS,dc⟩:=hd
 have WD:=dc.1
 refine go (pr:=(cF n)) [] h hn fun _ _ h=>?_
 refine av h (fun(q1:¬(aS n E V L=0))=>?_) (fun(q1:aS n E V L=0)=>?_)
 .refine aZ [] h fun _ _ h=>?_
  exact out ((none:Option ((List (List Int))×(bh .int Int)×(bh .int Int)×List Int)),(aS n E V L:Int),()) h (by simp only[eD,if_pos q1];rfl)
 have gX:=q1
 obtain⟨hr,_,hL,_⟩:=aJ gX
 obtain⟨r1,r2,r3,_⟩:=bz hr
 have Fi:=aO hL (by omega)
 refine aZ [] h fun _ _ h=>?_
 refine av h (fun(q2:¬((T.length:Int)=n))=>?_) (fun(q2:(T.length:Int)=n)=>?_)
 .refine aZ [] h fun _ _ h=>?_
  exact out ((none:Option ((List (List Int))×(bh .int Int)×(bh .int Int)×List Int)),((5:Int):Int),()) h (by rw[Oh gX q2];rfl)
 have hT:=q2
 refine go (pr:=(bR .i64 (2*(L.length:Int)))/\(bR .i64 (2*(L.length:Int)))/\(0<=(0:Int)/\(0:Int)<=2*(L.length:Int)/\2*(L.length:Int)<=2147483647)) [] h ⟨cz,cz,⟨by omega,by omega,by omega⟩⟩ fun _ _ h=>?_
 refine jk Int (List (Int×Int)) (List Int) (fun i lv ds=>⟨[(2,eo 0),(3,ep 1),(9,em 2),(10,eo 3),(44,eo 4),(45,en (L.length:Int)),(46,en i)],[(0,some (.ar (.list .int) T)),(1,some (.box 24 [.v (.int .i64 n),.own 5])),(2,some (.map .int .int lv)),(3,some (.row 3 .int ds)),(4,some (.ar .int L)),(5,some (.ar j8 E))],6⟩) (fun i lv ds=>0<=i/\i<=(L.length:Int)/\lv=uD E L i.toNat/\ds=b8 L i.toNat) (fun i lv ds=>((L.length:Int)-i).toNat) 0 [] [] (rk [3,4,77828,102404,2,0]) h ⟨Int.le_refl _,Int.natCast_nonneg _,rfl,rfl⟩ fun i lv ds _ _ _ eH hI h=>?_
 obtain⟨i0,i1,i2,i3⟩:=hI
 refine aZ [] h fun _ _ h=>?_
 refine av h (fun(q3:i<(L.length:Int))=>?_) (fun(q3:¬(i<(L.length:Int)))=>?_)
 .obtain⟨k1,k2,_⟩:=hL i.toNat (by omega)
  have Nf:=IS E L i.toNat
  rw[<-i2] at Nf
  have zO:=ru L i.toNat
  rw[<-i3] at zO
  have hs1:=yL lv (2*(L.getD i.toNat 0)) (E.getD (L.getD i.toNat 0).toNat (0,0)).1
  have hs4:=cQ (wo lv (2*(L.getD i.toNat 0)) (E.getD (L.getD i.toNat 0).toNat (0,0)).1) (2*(L.getD i.toNat 0)+1) ((af (wo lv (2*(L.getD i.toNat 0)) (E.getD (L.getD i.toNat 0).toNat (0,0)).1) (2*(L.getD i.toNat 0)+1)).getD 0)
  unfold wo at hs1 hs4
  have QZ:=cQ lv (2*(L.getD i.toNat 0)) ((af lv (2*(L.getD i.toNat 0))).getD 0)
  refine go (pr:=(bX i L.length)/\(bR .i64 (2*(L.getD i.toNat 0)))/\(bR .i64 (2*(L.getD i.toNat 0)))/\(bR .i64 ((2*(L.getD i.toNat 0))+1))/\(bX (L.getD i.toNat 0) E.length)/\(bX (L.getD i.toNat 0) E.length)/\(cA .int (2*(L.getD i.toNat 0)))/\(lv.length<=2147483647)/\(cN .int (2*(L.getD i.toNat 0))=cN .int (2*(L.getD i.toNat 0)))/\(cA .int (2*(L.getD i.toNat 0)))/\((b9 lv (2*(L.getD i.toNat 0)) ((af lv (2*(L.getD i.toNat 0))).getD 0)).length<=2147483647)/\(cA .int ((2*(L.getD i.toNat 0))+1))/\((b9 (b9 lv (2*(L.getD i.toNat 0)) ((af lv (2*(L.getD i.toNat 0))).getD 0)) (2*(L.getD i.toNat 0)) ((E.getD (L.getD i.toNat 0).toNat (0,0)).1)).length<=2147483647)/\(cN .int ((2*(L.getD i.toNat 0))+1)=cN .int ((2*(L.getD i.toNat 0))+1))/\(cA .int ((2*(L.getD i.toNat 0))+1))/\((b9 (b9 (b9 lv (2*(L.getD i.toNat 0)) ((af lv (2*(L.getD i.toNat 0))).getD 0)) (2*(L.getD i.toNat 0)) ((E.getD (L.getD i.toNat 0).toNat (0,0)).1)) ((2*(L.getD i.toNat 0))+1) ((af (b9 (b9 lv (2*(L.getD i.toNat 0)) ((af lv (2*(L.getD i.toNat 0))).getD 0)) (2*(L.getD i.toNat 0)) ((E.getD (L.getD i.toNat 0).toNat (0,0)).1)) ((2*(L.getD i.toNat 0))+1)).getD 0)).length<=2147483647)/\(bR .i64 (2*(L.getD i.toNat 0)))/\(bR .i64 (2*(L.getD i.toNat 0)))/\(bR .i64 ((2*(L.getD i.toNat 0))+1))/\(ds.length+([2*(L.getD i.toNat 0),(2*(L.getD i.toNat 0))+1]:List Int).length<=2147483647)/\(bR .i64 (i+1))) [] h ⟨bx,cz,cz,cz,bx,bx,wk,ln,rfl,wk,ln,wk,ln,rfl,wk,ln,cz,cz,cz,ln,cz⟩ fun _ _ h=>?_
  exact dR (eH (i+1) (b9 (b9 (b9 (b9 lv (2*(L.getD i.toNat 0)) ((af lv (2*(L.getD i.toNat 0))).getD 0)) (2*(L.getD i.toNat 0)) ((E.getD (L.getD i.toNat 0).toNat (0,0)).1)) ((2*(L.getD i.toNat 0))+1) ((af (b9 (b9 lv (2*(L.getD i.toNat 0)) ((af lv (2*(L.getD i.toNat 0))).getD 0)) (2*(L.getD i.toNat 0)) ((E.getD (L.getD i.toNat 0).toNat (0,0)).1)) ((2*(L.getD i.toNat 0))+1)).getD 0)) ((2*(L.getD i.toNat 0))+1) ((E.getD (L.getD i.toNat 0).toNat (0,0)).2)) (ds++([2*(L.getD i.toNat 0),(2*(L.getD i.toNat 0))+1]:List Int)) (rk [0,1,2,147462,4,5]) h ⟨by omega,by omega,by rw[Oe i0,<-i2];rfl,by rw[Of i0,<-i3]⟩ (by omega))
 have he:i.toNat=L.length:=by omega
 rw[he] at i2 i3
 have Cf:=i2
 have si:=i3
 refine aZ [] h fun _ _ h=>?_
 refine bq Int (List (Int×Int)) (fun v P=>⟨[(2,eo 0),(9,em 1),(10,eo 2),(13,em 3),(85,eo 0),(86,en (T.length:Int)),(87,en v)],[(0,some (.ar (.list .int) T)),(1,some (.map .int .int lv)),(2,some (.row 3 .int ds)),(3,some (.map .int .int P))],4⟩) (fun v P=>0<=v/\v<=(T.length:Int)/\CP lv T v.toNat=some P) (fun v P=>((T.length:Int)-v).toNat) 0 [] (rk [0,2,3,12294]) h ⟨Int.le_refl _,Int.natCast_nonneg _,rfl⟩ fun v P _ _ _ lS hI h=>?_
 obtain⟨v0,v1,v2⟩:=hI
 refine aZ [] h fun _ _ h=>?_
 refine av h (fun(q4:v<(T.length:Int))=>?_) (fun(q4:¬(v<(T.length:Int)))=>?_)
 .have hm:(T.getD v.toNat [])∈T:=ag (by omega)
  have hs3:=dc.2 _ hm
  have SZ:=CR dc v2
  refine go (pr:=(bX v T.length)) [] h bx fun _ _ h=>?_
  refine bq Int (List (Int×Int)) (fun j Q=>⟨[(2,eo 0),(9,em 1),(10,eo 2),(13,em 3),(14,en v),(85,eo 0),(86,en (T.length:Int)),(87,en v),(92,eo 4),(93,en ((T.getD v.toNat []).length:Int)),(94,en j)],[(0,some (.ar (.list .int) T)),(1,some (.map .int .int lv)),(2,some (.row 3 .int ds)),(3,some (.map .int .int Q)),(4,some (.ar .int (T.getD v.toNat [])))],5⟩) (fun j Q=>0<=j/\j<=((T.getD v.toNat []).length:Int)/\Dz lv v (T.getD v.toNat []) P j.toNat=some Q) (fun j Q=>(((T.getD v.toNat []).length:Int)-j).toNat) 0 P (rk [0,1,2,3,12292]) h ⟨Int.le_refl _,Int.natCast_nonneg _,rfl⟩ fun j Q _ _ _ uf hI h=>?_
  obtain⟨j0,j1,j2⟩:=hI
  refine aZ [] h fun _ _ h=>?_
  refine av h (fun(q5:j<((T.getD v.toNat []).length:Int))=>?_) (fun(q5:¬(j<((T.getD v.toNat []).length:Int)))=>?_)
  .have hk:=eS _ hm _ (ag (l:=(T.getD v.toNat [])) (i:=j.toNat) (d:=0) (by omega))
   have hQl:=CQ j2
   refine go (pr:=(bX j (T.getD v.toNat []).length)/\(cA .int ((T.getD v.toNat []).getD j.toNat 0))/\(cA .int ((T.getD v.toNat []).getD j.toNat 0))) [] h ⟨bx,wk,wk⟩ fun _ _ h=>?_
   refine av h (fun(q6:((((af lv ((T.getD v.toNat []).getD j.toNat 0)).isSome)=false)\/(¬(((af lv ((T.getD v.toNat []).getD j.toNat 0)).getD 0)=v)))\/(((af Q ((T.getD v.toNat []).getD j.toNat 0)).isSome)=true))=>?_) (fun(q6:((((af lv ((T.getD v.toNat []).getD j.toNat 0)).isSome)=true)/\(((af lv ((T.getD v.toNat []).getD j.toNat 0)).getD 0)=v))/\(((af Q ((T.getD v.toNat []).getD j.toNat 0)).isSome)=false))=>?_)
   .have Zj:¬((af lv ((T.getD v.toNat []).getD j.toNat 0)).isSome=true/\(af lv ((T.getD v.toNat []).getD j.toNat 0)).getD 0=v/\(af Q ((T.getD v.toNat []).getD j.toNat 0)).isSome=false):=fun hc=>by obtain⟨y1,y2,y3⟩:=hc;rcases q6 with(z|z)|z<;>first|exact z y2|(rw[y1] at z;cases z)|(rw[y3] at z;cases z)
    have hb1:Dz lv v (T.getD v.toNat []) P (j+1).toNat=none:=by rw[EN j0 j2,if_neg Zj]
    have Mm:=EL hb1 (m:=(T.getD v.toNat []).length) (by omega)
    have hb3:CP lv T (v+1).toNat=none:=by rw[EO v0 v2];exact Mm
    have abw:=EM hb3 (m:=T.length) (by omega)
    refine aZ [] h fun _ _ h=>?_
    exact out ((none:Option ((List (List Int))×(bh .int Int)×(bh .int Int)×List Int)),((5:Int):Int),()) h (by rw[Og gX hT (by rw[<-Cf];exact abw)];rfl)
   have hck:(af lv ((T.getD v.toNat []).getD j.toNat 0)).isSome=true/\(af lv ((T.getD v.toNat []).getD j.toNat 0)).getD 0=v/\(af Q ((T.getD v.toNat []).getD j.toNat 0)).isSome=false:=by obtain⟨⟨z1,z2⟩,z3⟩:=q6;exact⟨z1,z2,z3⟩
   refine go (pr:=(cA .int ((T.getD v.toNat []).getD j.toNat 0))/\(Q.length<=2147483647)/\(bR .i64 (j+1))) [] h ⟨wk,ln,cz⟩ fun _ _ h=>?_
   exact dR (uf (j+1) (b9 Q ((T.getD v.toNat []).getD j.toNat 0) j) (ir 5) h ⟨by omega,by omega,by rw[EN j0 j2,if_pos hck]⟩ (by omega))
  have HC:j.toNat=(T.getD v.toNat []).length:=by omega
  have o8:=j2
  rw[HC] at o8
  refine go (pr:=(bR .i64 (v+1))) [] h cz fun _ _ h=>?_
  exact dR (lS (v+1) Q (ir 4) h ⟨by omega,by omega,by rw[EO v0 v2];exact o8⟩ (by omega))
 have hve:v.toNat=T.length:=by omega
 have Px:=v2
 rw[hve] at Px
 have SZ:=CR dc v2
 refine aZ [] h fun _ _ h=>?_
 refine av h (fun(q7:¬((P.length:Int)=(lv.length:Int)))=>?_) (fun(q7:(P.length:Int)=(lv.length:Int))=>?_)
 .refine aZ [] h fun _ _ h=>?_
  exact out ((none:Option ((List (List Int))×(bh .int Int)×(bh .int Int)×List Int)),((5:Int):Int),()) h (by rw[Cf] at Px q7;rw[Oi gX hT Px q7];rfl)
 refine go (pr:=(aC T/\az T)) [] h (⟨eS,dc⟩) fun _ _ h=>?_
 exact out ((some (T.map aI,lv,lB T T.length,ds):Option ((List (List Int))×(bh .int Int)×(bh .int Int)×List Int)),((0:Int):Int),()) h (by rw[Cf] at Px q7;rw[IT gX hT Px q7,Cf,si];rfl)
def WH:dy Tryz.prog:=plain WG
theorem Py:bG Tryz.prog 116 [(false,(.ptr (.pair (.list (.list .int)) (.pair (.map .int .int) (.pair (.map .int .int) (.list .int)))))),(false,.int),(false,.int)] [.int,.bool] (fun x=>yK (show Option ((List (List Int))×(bh .int Int)×(bh .int Int)×List Int) from x.1) (I_ x.2.1)/\-1<=(I_ x.2.2.1)/\(I_ x.2.2.1)<=1/\-9223372036854775808<=(I_ x.2.1)/\(I_ x.2.1)<=9223372036854775807) (fun x=>((cT (show Option ((List (List Int))×(bh .int Int)×(bh .int Int)×List Int) from x.1) (I_ x.2.1) (I_ x.2.2.1)).1,(cT (show Option ((List (List Int))×(bh .int Int)×(bh .int Int)×List Int) from x.1) (I_ x.2.1) (I_ x.2.2.1)).2,())):=by
 refine bn Tryz.f116 48 [] Tryz.func116 fun o x hd _ _ h=>?_
 obtain⟨(r:Option ((List (List Int))×(bh .int Int)×(bh .int Int)×List Int)),(d:Int),(s:Int),_⟩:=x
 change yK r d/\-1<=s/\s<=1/\-9223372036854775808<=d/\d<=9223372036854775807 at hd
 obtain⟨hr,s0,s1,d0,d1⟩:=hd
 obtain⟨⟨T,lv,pl,ds⟩,rfl⟩:=yK.some hr
 change ∀v,af lv d=some v->_ at hr
 refine aZ [] h fun _ _ h=>?_
 refine av h (fun(q1:((some (T,lv,pl,ds)).isNone)=true)=>?_) (fun(q1:((some (T,lv,pl,ds)).isNone)=false)=>?_)
 .cases q1
 refine go (pr:=((some (T,lv,pl,ds)).isSome=true)/\(cA .int d)) [] h ⟨rfl,wk⟩ fun _ _ h=>?_
 refine av h (fun(q2:((af lv d).isSome)=false)=>?_) (fun(q2:((af lv d).isSome)=true)=>?_)
 .have hv:af lv d=none:=by cases hq:af lv d with|none=>rfl|some _=>rw[hq] at q2;simp at q2
  refine aZ [] h fun _ _ h=>?_
  exact out (((0:Int):Int),(false:Bool),()) h (by simp only[cT,hv];rfl)
 obtain⟨v,hv⟩:∃v,af lv d=some v:=Option.isSome_iff_exists.1 (by simpa using q2)
 have hg:(af lv d).getD 0=v:=by rw[hv];rfl
 obtain⟨v0,v1,v2,v3,v4⟩:=hr v hv
 rw[<-hg] at v0 v1 v2 v4
 have hmd:=Int.emod_nonneg ((af pl d).getD 0+s+(T.getD ((af lv d).getD 0).toNat []).length) (show((T.getD ((af lv d).getD 0).toNat []).length:Int)≠0 by omega)
 have XX:=Int.emod_lt_of_pos ((af pl d).getD 0+s+(T.getD ((af lv d).getD 0).toNat []).length) (show 0<((T.getD ((af lv d).getD 0).toNat []).length:Int) by omega)
 refine go (pr:=((some (T,lv,pl,ds)).isSome=true)/\(bX ((af lv d).getD 0) T.length)/\((some (T,lv,pl,ds)).isSome=true)/\(cA .int d)/\(bR .i64 (((af pl d).getD 0)+s))/\(bR .i64 ((((af pl d).getD 0)+s)+((T.getD ((af lv d).getD 0).toNat []).length:Int)))/\(0<=(((af pl d).getD 0)+s)+((T.getD ((af lv d).getD 0).toNat []).length:Int)/\0<((T.getD ((af lv d).getD 0).toNat []).length:Int))/\(bX (((((af pl d).getD 0)+s)+((T.getD ((af lv d).getD 0).toNat []).length:Int))%((T.getD ((af lv d).getD 0).toNat []).length:Int)) (T.getD ((af lv d).getD 0).toNat []).length)) [] h ⟨rfl,bx,rfl,wk,cz,cz,⟨by omega,by omega⟩,bx⟩ fun _ _ h=>?_
 exact out ((((T.getD ((af lv d).getD 0).toNat []).getD (((((af pl d).getD 0)+s)+((T.getD ((af lv d).getD 0).toNat []).length:Int))%((T.getD ((af lv d).getD 0).toNat []).length:Int)).toNat 0):Int),(true:Bool),()) h (by simp only[cT,hv];rfl)
def Pz:dy Tryz.prog:=plain Py
theorem S5:bG Tryz.prog 82 [(false,(.ptr (.pair (.list (.list .int)) (.pair (.map .int .int) (.pair (.map .int .int) (.list .int)))))),(false,.int)] [.int,.bool] (fun x=>yK (show Option ((List (List Int))×(bh .int Int)×(bh .int Int)×List Int) from x.1) (an (I_ x.2.1))/\0<=(I_ x.2.1)/\(I_ x.2.1)<=1000000) (fun x=>((cT (show Option ((List (List Int))×(bh .int Int)×(bh .int Int)×List Int) from x.1) (an (I_ x.2.1)) (-1)).1,(cT (show Option ((List (List Int))×(bh .int Int)×(bh .int Int)×List Int) from x.1) (an (I_ x.2.1)) (-1)).2,())):=by
 refine bn Tryz.f82 12 [Pz] Tryz.func82 fun o x hd _ _ h=>?_
 obtain⟨(r:Option ((List (List Int))×(bh .int Int)×(bh .int Int)×List Int)),(d:Int),_⟩:=x
 change yK r (an d)/\0<=d/\d<=1000000 at hd
 obtain⟨hr,d0,d1⟩:=hd
 obtain⟨t0,t1⟩:0<=(if d%2=0 then d+1 else d-1)/\(if d%2=0 then d+1 else d-1)<=1000001:=by split<;>omega
 refine go (pr:=(0<=d/\d<=9223372036854775807)/\(yK r (if d%2=0 then d+1 else d-1)/\-1<=(-1:Int)/\(-1:Int)<=1/\-9223372036854775808<=(if d%2=0 then d+1 else d-1)/\(if d%2=0 then d+1 else d-1)<=9223372036854775807)) [] h ⟨⟨by omega,by omega⟩,⟨hr,by omega,by omega,by omega,by omega⟩⟩ fun _ _ h=>?_
 exact out (((cT r (if d%2=0 then d+1 else d-1) (-1:Int)).1:Int),((cT r (if d%2=0 then d+1 else d-1) (-1:Int)).2:Bool),()) h rfl
def S6:dy Tryz.prog:=plain S5
theorem S7:bG Tryz.prog 42 [(false,nv),(false,kI),(false,(.list (.list .int)))] [(.list (.pair .int (.list .int))),.int] (fun x=>cF (I_ x.1.1)/\aC (K_ x.2.2.1)/\az (K_ x.2.2.1)) (fun x=>((aa (I_ x.1.1) (E_ x.1.2) (J_ x.2.1.1) (J_ x.2.1.2) (K_ x.2.2.1)).1,(aa (I_ x.1.1) (E_ x.1.2) (J_ x.2.1.1) (J_ x.2.1.2) (K_ x.2.2.1)).2,())):=by
 refine SX Tryz.f42 103 [WH,S6,inl [] [] Tryz.func81] Tryz.func42 fun o x hd _ _ h=>?_
 obtain⟨⟨(n:Int),(E:List (Int×Int))⟩,⟨(V:List Int),(L:List Int)⟩,(T:List (List Int)),_⟩:=x
 have jt:=mh h 0 E
 have gE:=dh h 1 V
 have gH:=dh h 2 L
 have lT:=gC h 3 T
 change cF n/\aC T/\az T at hd
 obtain⟨hn,eS,dc⟩:=hd
 have WD:=dc.1
 refine go (pr:=(cF n/\aC T/\az T)) [] h (⟨hn,eS,dc⟩) fun _ _ h=>?_
 refine av h (fun(q1:¬((eD n E V L T).2=0))=>?_) (fun(q1:(eD n E V L T).2=0)=>?_)
 .refine aZ [] h fun _ _ h=>?_
  exact Z4 [] [] (([]:List (Int×List Int)),((eD n E V L T).2:Int),()) h (by simp only[aa,if_pos q1];rfl)
 obtain⟨gX,hT,hr⟩:=lD q1
 obtain⟨sj,hV,hL,_⟩:=aJ gX
 obtain⟨r1,r2,r3,_⟩:=bz sj
 have PA:=aO hV r1
 have Fi:=aO hL (by omega)
 have hTl:=hT.len
 have zO:=ru L L.length
 refine go (pr:=(bR .i64 ((V.length:Int)-1))) [] h cz fun _ _ h=>?_
 refine bq Int (List (Int×List Int)) (fun i out=>⟨[(2,eo 0),(4,ep 1),(8,ep 2),(10,ep 3),(11,en i)],[(0,some (.ar (.list .int) T)),(1,some (.box 27 [.own 4,.own 5])),(2,some (.box 113 [.pd 6])),(3,some (.box 71 [.own 7])),(4,some (.ar .int V)),(5,some (.ar .int L)),(6,some (.ext (.vC (.pair (.list (.list .int)) (.pair (.map .int .int) (.pair (.map .int .int) (.list .int)))) ((eD n E V L T).1)))),(7,some (.row 75 (.pair .int (.list .int)) out))],8⟩) (fun i out=> -1<=i/\i<(V.length:Int)/\out=sK V T (V.length-(i+1).toNat)) (fun i out=>(i+1).toNat) ((V.length:Int)-1) [] [(0,some 3),(1,some 4100),(2,some 45060),(3,some 65540),(4,some 1),(5,some 2),(6,some 28676),(7,none)] h ⟨by omega,by omega,by rw[show V.length-((V.length:Int)-1+1).toNat=0 by omega];rfl⟩ fun i out _ _ _ eH hI h=>?_
 obtain⟨h0,h1,h2⟩:=hI
 refine aZ [] h fun _ _ h=>?_
 refine av h (fun(q2:(0:Int)<=i)=>?_) (fun(q2:¬((0:Int)<=i))=>?_)
 .have i0:0<=i:=q2
  have i1:=h1
  obtain⟨v0,v1,_⟩:=hV i.toNat (by omega)
  have Q4:=wT V T (V.length-(i+1).toNat)
  rw[<-h2] at Q4
  refine go (pr:=(bX i V.length)/\(bX (V.getD i.toNat 0) T.length)) [] h ⟨bx,bx⟩ fun _ _ h=>?_
  refine av h (fun(q3:((T.getD (V.getD i.toNat 0).toNat []).length:Int)=0)=>?_) (fun(q3:¬(((T.getD (V.getD i.toNat 0).toNat []).length:Int)=0))=>?_)
  .refine go (pr:=(bR .i64 ((-1)-(V.getD i.toNat 0)))/\(out.length+([((-1)-(V.getD i.toNat 0),[])]:List (Int×List Int)).length<=2147483647)/\(bR .i64 (i-1))) [] h ⟨cz,ln,cz⟩ fun _ _ h=>?_
   exact dR (eH (i-1) (out++([((-1)-(V.getD i.toNat 0),[])]:List (Int×List Int))) (rk [0,1,2,3,4,5,6,77832]) h ⟨by omega,by omega,by rw[ES i0 i1,if_pos (by omega),<-h2]⟩ (by omega))
  refine go (pr:=(bR .i64 (i-1))) [] h cz fun _ _ h=>?_
  exact dR (eH (i-1) out (ir 8) h ⟨by omega,by omega,by rw[ES i0 i1,if_neg (by omega),<-h2]⟩ (by omega))
 have hi:V.length-(i+1).toNat=V.length:=by omega
 rw[hi] at h2
 have Q4:=wT V T V.length
 rw[<-h2] at Q4
 refine aZ [] h fun _ _ h=>?_
 refine Fl (Y:=(List (Int×Int))) Fk (fun m=>⟨[(8,ep 0),(10,ep 1),(13,ep 2),(58,some ⟨[],.one (.mA 115 [(3,0)])⟩)],[(0,some (.box 113 [.pd 4])),(1,some (.box 71 [.own 5])),(2,some (.box 57 [.mp 6])),(3,some (.box 113 [.pd 4])),(4,some (.ext (.vC (.pair (.list (.list .int)) (.pair (.map .int .int) (.pair (.map .int .int) (.list .int)))) ((eD n E V L T).1)))),(5,some (.row 75 (.pair .int (.list .int)) out)),(6,some (.map .int .int m))],7⟩) 5 (fun k=>fun m=>m=Ou (b8 L L.length) k/\True) ([]) (rk [2,3,12296,24584,6,7,8200]) (show l5 (El wz) from(eD n E V L T).1) (T.map aI,(uD E L L.length,(lB T T.length,b8 L L.length))) h hr ⟨rfl,tv⟩ (fun k m _ _ _ _ _ _ _ _ _ lS XY hI h=>?_) (fun m D1 _ _ hI h=>?_)
 .obtain⟨h4,_⟩:=hI
  change k<(b8 L L.length).length at XY
  have Vn:ak L ((b8 L L.length).getD k 0):=(aN _).1 (aB.2 ⟨k,XY,rfl⟩)
  obtain⟨_,x0,x1⟩:=tT gX hT dc Vn
  have wJ:=CT (b8 L L.length) k
  rw[<-h4] at wJ
  refine go (pr:=(cA .int ((b8 L L.length).getD k 0))/\(m.length<=2147483647)) [] h ⟨wk,ln⟩ fun _ _ h=>?_
  exact rg_ (lS (b9 m ((b8 L L.length).getD k 0) ((b8 L L.length).getD k 0)) (ir 7) h ⟨by rw[h4];rfl,tv⟩)
 obtain⟨h4,_⟩:=hI
 change m=Ou (b8 L L.length) (b8 L L.length).length at h4
 have hmd:∀y,(af m y).isSome=true->ak L y:=fun y hy=>(aN y).1 (by rw[h4] at hy;have:=(wU (Nat.le_refl _) y).1 hy;rwa[List.take_length] at this)
 have wJ:=CT (b8 L L.length) (b8 L L.length).length
 rw[<-h4] at wJ
 refine aZ [] h fun _ _ h=>?_
 refine Fl (Y:=(List (Int×Int))×(List (Int×List Int))) Fk (fun x_=>(fun(m2:List (Int×Int)) (o2:List (Int×List Int))=>⟨[(8,ep 0),(10,ep 1),(13,ep 2),(64,some ⟨[],.one (.mA 115 [(3,0)])⟩)],[(0,some (.box 113 [.pd 4])),(1,some (.box 71 [.own 6])),(2,some (.box 57 [.mp 7])),(3,some (.box 113 [.pd 4])),(4,some (.ext (.vC (.pair (.list (.list .int)) (.pair (.map .int .int) (.pair (.map .int .int) (.list .int)))) ((eD n E V L T).1)))),(5,some (.ext (.DT D1))),(6,some (.row 75 (.pair .int (.list .int)) o2)),(7,some (.map .int .int m2))],8⟩) x_.1 x_.2) 5 (fun k=>fun x_=>(fun(m2:List (Int×Int)) (o2:List (Int×List Int))=>yP L (eD n E V L T).1 (b8 L L.length) out k m2 o2) x_.1 x_.2) (m,out) (rk [0,1,2,4104,4,7,5,6]) (show l5 (El wz) from(eD n E V L T).1) (T.map aI,(uD E L L.length,(lB T T.length,b8 L L.length))) h hr ⟨by rw[h4];rfl,rfl,by rw[h4];exact UE _ _,hmd,Nat.le_refl _⟩ (fun k x_ _ _ _ _ _ _ _ _ _ uf XY hI h=>?_) (fun x_ D2 _ _ hI h=>?_)
 .obtain⟨m2,o2⟩:=x_
  obtain⟨k1,k2,k3,k4,k5⟩:=hI
  dsimp only at k1 k2 k3 k4 k5
  change k<(b8 L L.length).length at XY
  have Vn:ak L ((b8 L L.length).getD k 0):=(aN _).1 (aB.2 ⟨k,XY,rfl⟩)
  obtain⟨_,x0,x1⟩:=tT gX hT dc Vn
  have F3:m2.length<=(b8 L L.length).length:=Ow k3 k4
  refine go (pr:=(cA .int ((b8 L L.length).getD k 0))) [] h wk fun _ _ h=>?_
  refine av h (fun(q4:((af m2 ((b8 L L.length).getD k 0)).isSome)=false)=>?_) (fun(q4:((af m2 ((b8 L L.length).getD k 0)).isSome)=true)=>?_)
  .refine aZ [] h fun _ _ h=>?_
   exact rg_ (uf (m2,o2) (ir 8) h (R7 (by rw[<-k1];exact q4) ⟨k1,k2,k3,k4,k5⟩))
  have Z5:(af m2 ((b8 L L.length).getD k 0)).isSome=true:=q4
  refine aZ [] h fun _ _ h=>?_
  refine tI Int Bool (List (Int×Int)) (List Int) (fun x ok mm acc=>⟨[(8,ep 0),(10,ep 1),(13,ep 2),(15,en ((b8 L L.length).getD k 0)),(18,ep 5),(19,en x),(20,some ⟨[],.one (.b (.raw ok))⟩),(65,en ((b8 L L.length).getD k 0))],[(0,some (.box 113 [.pd 4])),(1,some (.box 71 [.own 7])),(2,some (.box 57 [.mp 8])),(3,some (.box 113 [.pd 4])),(4,some (.ext (.vC (.pair (.list (.list .int)) (.pair (.map .int .int) (.pair (.map .int .int) (.list .int)))) ((eD n E V L T).1)))),(5,some (.box 75 [.v (.int .i64 ((b8 L L.length).getD k 0)),.own 9])),(6,some (.ext (.DT D1))),(7,some (.row 75 (.pair .int (.list .int)) o2)),(8,some (.map .int .int mm)),(9,some (.row 3 .int acc))],10⟩) (fun x ok mm acc=>(ok=true/\(af mm x).isSome=true/\jl (eD n E V L T).1 mm.length mm x acc=jl (eD n E V L T).1 m2.length m2 ((b8 L L.length).getD k 0) []\/ok=false/\(mm,acc)=jl (eD n E V L T).1 m2.length m2 ((b8 L L.length).getD k 0) [])/\KN mm/\(∀y,(af mm y).isSome=true->ak L y)/\acc.length+mm.length<=10000) (fun x ok mm acc=>mm.length) ((b8 L L.length).getD k 0) true m2 [] [(0,some 0),(1,some 1),(2,some 2),(3,some 3),(4,some 4),(5,some 53256),(6,some 5),(7,some 6),(8,some 7),(9,none)] h ⟨.inl ⟨rfl,Z5,rfl⟩,k3,k4,by simp only[List.length_nil];omega⟩ fun x ok mm acc _ _ _ DA hI h=>?_
  obtain⟨hor,kk,kd,kl⟩:=hI
  refine aZ [] h fun _ _ h=>?_
  refine av h (fun(q5:ok=true)=>?_) (fun(q5:ok=false)=>?_)
  .obtain⟨_,hs,ho⟩:=hor.resolve_right fun z=>by rw[q5] at z;cases z.1
   have hxn:=kd x hs
   obtain⟨ZE,y0,y1⟩:=tT gX hT dc hxn
   have ZE:yK (eD n E V L T).1 (an x):=by rw[hr];exact ZE
   have abZ:=Bh kk hs
   have hnn:ak L (cT (eD n E V L T).1 (an x) (-1)).1:=by rw[hr];exact(dJ gX hT hxn).1
   obtain⟨_,z0,z1⟩:=tT gX hT dc hnn
   refine go (pr:=(cA .int x)/\(acc.length+([x]:List Int).length<=2147483647)/\(yK ((eD n E V L T).1) (an x)/\0<=x/\x<=1000000)/\(cA .int ((cT ((eD n E V L T).1) (an x) (-1)).1))) [] h ⟨wk,ln,⟨ZE,by omega,by omega⟩,wk⟩ fun _ _ h=>?_
   exact dR (DA ((cT ((eD n E V L T).1) (an x) (-1)).1) ((af (xJ mm x) ((cT ((eD n E V L T).1) (an x) (-1)).1)).isSome) (xJ mm x) (acc++([x]:List Int)) (rk [0,1,2,3,4,5,6,7,8,32778]) h ⟨R6 kk hs ho,Oj kk x,wV kd x,by rw[List.length_append];simp only[List.length_cons,List.length_nil];omega⟩ (by omega))
  obtain⟨_,hR⟩:=hor.resolve_left fun z=>by rw[q5] at z;cases z.1
  refine go (pr:=(o2.length+([(((b8 L L.length).getD k 0),acc)]:List (Int×List Int)).length<=2147483647)) [] h ln fun _ _ h=>?_
  exact rg_ (uf (mm,(o2++([(((b8 L L.length).getD k 0),acc)]:List (Int×List Int)))) (rk [0,1,2,3,4,6,16394,8]) h (Ov XY (by rw[<-k1];exact Z5) (by rw[<-k1];exact hR) kk kd ⟨k1,k2,k3,k4,k5⟩))
 obtain⟨m2,o2⟩:=x_
 obtain⟨k1,k2,k3,k4,k5⟩:=hI
 dsimp only at k1 k2 k3 k4 k5
 change o2=(dK (eD n E V L T).1 (b8 L L.length) out (b8 L L.length).length).2 at k2
 refine aZ [] h fun _ _ h=>?_
 exact Z4 [8,5] [D2,D1] ((o2:List (Int×List Int)),((0:Int):Int),()) h (by rw[k2,h2,nA q1])
def oN:dy Tryz.prog:=plain S7
theorem Lk:bG Tryz.prog 138 [(false,nv),(false,.int)] [.int] (fun x=>0<=(I_ x.2.1)/\(I_ x.2.1)/2<((E_ x.1.2).length:Int)/\(I_ x.2.1)<=1000000) (fun x=>(bM (E_ x.1.2) (I_ x.2.1),())):=by
 refine bn Tryz.f138 22 [] Tryz.func138 fun o x hd _ _ h=>?_
 obtain⟨⟨(n:Int),(E:List (Int×Int))⟩,(d:Int),_⟩:=x
 have jt:=mh h 0 E
 change 0<=d/\d/2<(E.length:Int)/\d<=1000000 at hd
 obtain⟨d0,d1,d2⟩:=hd
 refine go (pr:=(0<=d/\0<(2:Int))) [] h (⟨by omega,by omega⟩) fun _ _ h=>?_
 refine av h (fun(q1:d%2=0)=>?_) (fun(q1:¬(d%2=0))=>?_)
 .refine go (pr:=(0<=d/\0<(2:Int)/\bR .i64 d)/\(bX (d/2) E.length)) [] h ⟨⟨by omega,by omega,⟨by omega,by omega⟩⟩,bx⟩ fun _ _ h=>?_
  exact out (((E.getD (d/2).toNat (0,0)).2:Int),()) h (by unfold bM;first|rw[if_pos q1];rfl|rw[if_neg q1];rfl)
 refine go (pr:=(0<=d/\0<(2:Int)/\bR .i64 d)/\(bX (d/2) E.length)) [] h ⟨⟨by omega,by omega,⟨by omega,by omega⟩⟩,bx⟩ fun _ _ h=>?_
 exact out (((E.getD (d/2).toNat (0,0)).1:Int),()) h (by unfold bM;first|rw[if_pos q1];rfl|rw[if_neg q1];rfl)
def zl:dy Tryz.prog:=plain Lk
theorem S8:bG Tryz.prog 124 [(false,nv),(false,(.map .int (.list .int))),(false,.int),(false,.int)] [(.map .int .int)] (fun x=>bS (I_ x.1.1) (E_ x.1.2)=0/\Zg (E_ x.1.2) (show bh .int (List Int) from x.2.1)/\0<=(I_ x.2.2.1)/\(I_ x.2.2.1)<1024) (fun x=>(dI (E_ x.1.2) (show bh .int (List Int) from x.2.1) (I_ x.2.2.1) (I_ x.2.2.2.1),())):=by
 refine bn Tryz.f124 74 [zl,inl [] [(6,false)] Tryz.func146,inl [] [] Tryz.func137,inl [] [] Tryz.func145] Tryz.func124 fun o x hd _ _ h=>?_
 obtain⟨⟨(n:Int),(E:List (Int×Int))⟩,(M:bh .int (List Int)),(a:Int),(shut:Int),_⟩:=x
 have jt:=mh h 0 E
 change bS n E=0/\Zg E M/\0<=a/\a<1024 at hd
 obtain⟨hr,hD,ha0,PB⟩:=hd
 obtain⟨hn0,wC,hE,_⟩:=bz hr
 refine go (pr:=(cA .int a)/\(([]:bh .int Int).length<=2147483647)/\(([]:List Int).length+([a]:List Int).length<=2147483647)/\(¬((([a]:List Int).length:Int)=0))/\(bX (0:Int) ([a]:List Int).length)/\(0<=(1:Int)/\(1:Int)<=(([a]:List Int).length:Int))) [] h ⟨wk,ln,ln,by simp,bx,ct⟩ fun _ _ h=>?_
 refine go_loop (Int×Bool×List Int×(List (Int×Int))×Nat) (fun x_=>(fun(v:Int) (ok:Bool) (q:List Int) (m:List (Int×Int)) (k:Nat)=>⟨[(1,em 0),(3,en shut),(4,ep 1),(9,em 2),(10,some ⟨[],.one (.mA 145 [(3,0)])⟩),(11,some ⟨[],.one (.mA 146 [(3,0)])⟩),(12,en v),(13,some ⟨[],.one (.b (.raw ok))⟩)],[(0,some (.wG .int (.list .int) M)),(1,some (.box 24 [.v (.int .i64 n),.own 4])),(2,some (.map .int .int m)),(3,some (.box 25 [.own 5])),(4,some (.ar j8 E)),(5,some (.row 3 .int q))],6⟩) x_.1 x_.2.1 x_.2.2.1 x_.2.2.2.1 x_.2.2.2.2) (fun x_=>(fun(v:Int) (ok:Bool) (q:List Int) (m:List (Int×Int)) (k:Nat)=>CO E M a shut v ok q m k/\True) x_.1 x_.2.1 x_.2.2.1 x_.2.2.2.1 x_.2.2.2.2) (fun x_=>(fun(v:Int) (ok:Bool) (q:List Int) (m:List (Int×Int)) (k:Nat)=>2*E.length+3-k) x_.1 x_.2.1 x_.2.2.1 x_.2.2.2.1 x_.2.2.2.2) (a,true,[],[(a,0)],0) (rk [1,2,8194,28802,0,70274]) h ⟨CO.init E M a shut,tv⟩ fun x_ _ _ _ eH hI h=>?_
 obtain⟨v,ok,q,m,k⟩:=x_
 obtain⟨hR,_⟩:=hI
 dsimp only at hR
 refine aZ [] h fun _ _ h=>?_
 refine av h (fun(q1:ok=true)=>?_) (fun(q1:ok=false)=>?_)
 .have g1:=(hR.go q1).1
  obtain⟨b1,b2⟩:=g1.bd
  obtain⟨v1,v2⟩:=R4 hr ha0 PB v g1.vU
  refine go (pr:=(cA .int v)) [] h wk fun _ _ h=>?_
  refine jk Int (List (Int×Int)) (List Int) (fun i ml ql=>⟨[(1,em 0),(3,en shut),(4,ep 1),(9,em 2),(10,some ⟨[],.one (.mA 145 [(3,0)])⟩),(11,some ⟨[],.one (.mA 146 [(3,0)])⟩),(12,en v),(42,eo 4),(43,en (((af M v).getD []).length:Int)),(44,en i)],[(0,some (.wG .int (.list .int) M)),(1,some (.box 24 [.v (.int .i64 n),.own 5])),(2,some (.map .int .int ml)),(3,some (.box 25 [.own 6])),(4,some (.ar .int ((af M v).getD []))),(5,some (.ar j8 E)),(6,some (.row 3 .int ql))],7⟩) (fun i ml ql=>0<=i/\i<=(((af M v).getD []).length:Int)/\(((af M v).getD []).take i.toNat).foldl (eC E v shut) (m,q)=(ml,ql)/\GZ E a v k ml ql) (fun i ml ql=>((((af M v).getD []).length:Int)-i).toNat) 0 m q (rk [0,1,2,3,12294,4,5]) h ⟨by omega,by omega,rfl,g1⟩ fun i ml ql _ _ _ lS hI h=>?_
  obtain⟨i0,i1,hf,hM⟩:=hI
  have i2:(((af M v).getD []).length:Int)<=9223372036854775807:=IG h 4 (t:=.int) (l:=((af M v).getD []))
  refine aZ [] h fun _ _ h=>?_
  refine av h (fun(q2:i<(((af M v).getD []).length:Int))=>?_) (fun(q2:¬(i<(((af M v).getD []).length:Int)))=>?_)
  .have q2_:=q2
   obtain⟨d1,d2⟩:=hD v (((af M v).getD []).getD i.toNat 0) (gm.2 ⟨i.toNat,by omega,rfl⟩)
   obtain⟨w1,w2,w3⟩:=EE hr d1 d2
   obtain⟨b3,b4⟩:=hM.bd
   have c1:=hM.c
   have c2:=hM.n
   refine go (pr:=(bX i ((af M v).getD []).length)/\(0<=(((af M v).getD []).getD i.toNat 0)/\(((af M v).getD []).getD i.toNat 0)/2<(E.length:Int)/\(((af M v).getD []).getD i.toNat 0)<=1000000)/\(cA .int (bM E (((af M v).getD []).getD i.toNat 0)))) [] h ⟨bx,⟨d1,d2,by omega⟩,wk⟩ fun _ _ h=>?_
   refine av h (fun(q3:(((af ml (bM E (((af M v).getD []).getD i.toNat 0))).isSome)=true)\/(bM E (((af M v).getD []).getD i.toNat 0)=shut))=>?_) (fun(q3:(((af ml (bM E (((af M v).getD []).getD i.toNat 0))).isSome)=false)/\(¬(bM E (((af M v).getD []).getD i.toNat 0)=shut)))=>?_)
   .refine go (pr:=(bR .i64 (i+1))) [] h cz fun _ _ h=>?_
    exact dR (lS (i+1) ml ql (ir 7) h ⟨by omega,by omega,by rw[lq _ _ i0 q2_,hf];exact if_pos q3,hM⟩ (XJ))
   refine go (pr:=(cA .int v)/\(bR .i64 (((af ml v).getD 0)+1))/\(cA .int (bM E (((af M v).getD []).getD i.toNat 0)))/\(ml.length<=2147483647)/\(ql.length+([bM E (((af M v).getD []).getD i.toNat 0)]:List Int).length<=2147483647)/\(bR .i64 (i+1))) [] h ⟨wk,cz,wk,ln,ln,cz⟩ fun _ _ h=>?_
   exact dR (lS (i+1) (b9 ml (bM E (((af M v).getD []).getD i.toNat 0)) (((af ml v).getD 0)+1)) (ql++([bM E (((af M v).getD []).getD i.toNat 0)]:List Int)) (rk [0,1,2,3,4,5,127175]) h ⟨by omega,by omega,by rw[lq _ _ i0 q2_,hf];exact if_neg (Zf q3),hM.jb (List.mem_cons_of_mem _ w3) (Zf q3)⟩ (XJ))
  have hS {q3:List Int}:=hR.step (q2:=q3) (by assumption) (show fA E M v shut (m,q)=(ml,ql) by rw[List.take_of_length_le (by omega)] at hf;exact hf) hM
  have c2:=hM.n
  obtain⟨b3,b4⟩:=hM.bd
  by_cases z1:ql=[]
  .refine Us [zl,inl [] [(6,true)] Tryz.func146,inl [] [] Tryz.func137,inl [] [] Tryz.func145] ?_
   refine go (pr:=((ql.length:Int)=0)) [] h (by rw[z1];rfl) fun _ _ h=>?_
   exact dR (eH (0,false,ql,ml,k+1) (rk [0,1,2,3,5,6]) h ⟨hS.1 z1,tv⟩ (by have:=hR.kB;dsimp only;omega))
  have XM:0<ql.length:=List.length_pos_iff.2 z1
  refine Us [zl,inl [] [(6,false)] Tryz.func146,inl [] [] Tryz.func137,inl [] [] Tryz.func145] ?_
  refine go (pr:=(¬((ql.length:Int)=0))/\(bX (0:Int) ql.length)/\(0<=(1:Int)/\(1:Int)<=(ql.length:Int))) [] h ⟨by omega,bx,ct⟩ fun _ _ h=>?_
  exact dR (eH ((ql.getD 0 0),true,(ql.drop 1),ml,k+1) (rk [0,1,2,3,5,8839]) h ⟨(hS (q3:=[])).2 _ _ (RZ z1),tv⟩ (by have:=hR.kB;dsimp only;omega))
 refine aZ [] h fun _ _ h=>?_
 exact out ((m:bh .int Int),()) h (congrArg (·,()) (hR.done q1))
def S9:dy Tryz.prog:=plain S8
theorem WI:bG Tryz.prog 123 [(false,nv),(false,kI)] [(.map .int (.list .int))] (fun x=>aS (I_ x.1.1) (E_ x.1.2) (J_ x.2.1.1) (J_ x.2.1.2)=0) (fun x=>(bW (E_ x.1.2) (J_ x.2.1.2),())):=by
 refine bn Tryz.f123 51 [] Tryz.func123 fun o x hd _ _ h=>?_
 obtain⟨⟨(n:Int),(E:List (Int×Int))⟩,⟨(V:List Int),(L:List Int)⟩,_⟩:=x
 have jt:=mh h 0 E
 have gE:=dh h 1 V
 have gH:=dh h 2 L
 change aS n E V L=0 at hd
 refine aZ [(10,true)] h fun _ _ h=>?_
 refine bq Int (List (Int×List Int)) (fun i m=>⟨[(2,ep 0),(5,em 1),(12,eo 2),(13,en (L.length:Int)),(14,en i)],[(0,some (.box 24 [.v (.int .i64 n),.own 3])),(1,some (.ext (.ff 4 .int none .int 3 m))),(2,some (.ar .int L)),(3,some (.ar j8 E))],5⟩) (fun i m=>0<=i/\i<=(L.length:Int)/\m=bW E (L.take i.toNat)) (fun i m=>((L.length:Int)-i).toNat) 0 [] (rk [3,12291,2,0,12291]) h ⟨by omega,by omega,rfl⟩ fun i m _ _ _ eH hI h=>?_
 obtain⟨h0,h0b,hm⟩:=hI
 refine aZ [] h fun _ _ h=>?_
 refine av h (fun(q1:i<(L.length:Int))=>?_) (fun(q1:¬(i<(L.length:Int)))=>?_)
 .obtain⟨⟨f1,f2,f3⟩,⟨f4,f5,f6,f7⟩,f8,f9,f10,f11⟩:=yG hd hm h0 q1
  refine go (pr:=(bX i L.length)/\(bX (L.getD i.toNat 0) E.length)/\(bX (L.getD i.toNat 0) E.length)/\(cA .int ((E.getD (L.getD i.toNat 0).toNat (0,0)).1))/\(bR .i64 (2*(L.getD i.toNat 0)))/\(((af m ((E.getD (L.getD i.toNat 0).toNat (0,0)).1)).getD []).length+([2*(L.getD i.toNat 0)]:List Int).length<=2147483647)/\(cA .int ((E.getD (L.getD i.toNat 0).toNat (0,0)).1))/\(tA (k:=.int) (some ((E.getD (L.getD i.toNat 0).toNat (0,0)).1)) ((E.getD (L.getD i.toNat 0).toNat (0,0)).1))/\(m.length<=2147483647)/\(cA .int ((E.getD (L.getD i.toNat 0).toNat (0,0)).2))/\(bR .i64 (2*(L.getD i.toNat 0)))/\(bR .i64 ((2*(L.getD i.toNat 0))+1))/\(((af (b9 m ((E.getD (L.getD i.toNat 0).toNat (0,0)).1) (((af m ((E.getD (L.getD i.toNat 0).toNat (0,0)).1)).getD [])++([2*(L.getD i.toNat 0)]:List Int))) ((E.getD (L.getD i.toNat 0).toNat (0,0)).2)).getD []).length+([(2*(L.getD i.toNat 0))+1]:List Int).length<=2147483647)/\(cA .int ((E.getD (L.getD i.toNat 0).toNat (0,0)).2))/\(tA (k:=.int) (some ((E.getD (L.getD i.toNat 0).toNat (0,0)).2)) ((E.getD (L.getD i.toNat 0).toNat (0,0)).2))/\((b9 m ((E.getD (L.getD i.toNat 0).toNat (0,0)).1) (((af m ((E.getD (L.getD i.toNat 0).toNat (0,0)).1)).getD [])++([2*(L.getD i.toNat 0)]:List Int))).length<=2147483647)/\(bR .i64 (i+1))) [] h ⟨bx,bx,bx,wk,cz,ln,wk,rfl,ln,wk,cz,cz,ln,wk,rfl,ln,cz⟩ fun _ _ h=>?_
  exact dR (eH (i+1) (b9 (b9 m ((E.getD (L.getD i.toNat 0).toNat (0,0)).1) (((af m ((E.getD (L.getD i.toNat 0).toNat (0,0)).1)).getD [])++([2*(L.getD i.toNat 0)]:List Int))) ((E.getD (L.getD i.toNat 0).toNat (0,0)).2) (((af (b9 m ((E.getD (L.getD i.toNat 0).toNat (0,0)).1) (((af m ((E.getD (L.getD i.toNat 0).toNat (0,0)).1)).getD [])++([2*(L.getD i.toNat 0)]:List Int))) ((E.getD (L.getD i.toNat 0).toNat (0,0)).2)).getD [])++([(2*(L.getD i.toNat 0))+1]:List Int))) (rk [0,1,2,3,155653]) h ⟨by omega,by omega,by rw[GV h0 q1,<-hm];rfl⟩ (XJ))
 refine aZ [] h fun _ _ h=>?_
 exact out ((m:bh .int (List Int)),()) h (by rw[hm,List.take_of_length_le (by omega)])
def WJ:dy Tryz.prog:=plain WI
theorem PC:bG Tryz.prog 103 [(false,nv),(false,kI)] [(.list kI),.int] (fun x=>cF (I_ x.1.1)) (fun x=>(if aS (I_ x.1.1) (E_ x.1.2) (J_ x.2.1.1) (J_ x.2.1.2)≠0 then[] else oF (E_ x.1.2) (J_ x.2.1.1) (J_ x.2.1.2),aS (I_ x.1.1) (E_ x.1.2) (J_ x.2.1.1) (J_ x.2.1.2),())):=by
 refine bn Tryz.f103 106 [WJ,S9,tY] Tryz.func103 fun o x hd _ _ h=>?_
 obtain⟨⟨(n:Int),(E:List (Int×Int))⟩,⟨(V:List Int),(L:List Int)⟩,_⟩:=x
 have jt:=mh h 0 E
 have gE:=dh h 1 V
 have gH:=dh h 2 L
 change cF n at hd
 refine go (pr:=(cF n)) [] h hd fun _ _ h=>?_
 refine av h (fun(q1:¬(aS n E V L=0))=>?_) (fun(q1:aS n E V L=0)=>?_)
 .refine aZ [] h fun _ _ h=>?_
  exact out (([]:List ((List Int)×List Int)),(aS n E V L:Int),()) h (congrArg (fun z=>(z,aS n E V L,())) (if_pos (c:=aS n E V L≠0) q1).symm)
 have hp:=q1
 obtain⟨hr,XZ,hLr,fq⟩:=aJ hp
 obtain⟨hn0,wC,hEn,_⟩:=bz hr
 have Q1:=aO XZ hn0
 have KZ:=aO hLr (by omega)
 refine go (pr:=(aS n E V L=0)) [] h hp fun _ _ h=>?_
 refine jk Int (List (Int×Int)) (List (List Int×List Int)) (fun i pm ou=>⟨[(2,ep 0),(3,ep 1),(7,em 2),(8,em 3),(9,eo 4),(30,eo 5),(31,en (V.length:Int)),(32,en i)],[(0,some (.box 24 [.v (.int .i64 n),.own 6])),(1,some (.box 27 [.own 5,.own 7])),(2,some (.mL .int (.list .int) (bW E L))),(3,some (.map .int .int pm)),(4,some (.ext (.nest 8 none 27 kI 3 ou))),(5,some (.ar .int V)),(6,some (.ar j8 E)),(7,some (.ar .int L))],9⟩) (fun i pm ou=>0<=i/\i<=(V.length:Int)/\pK E V L i pm ou) (fun i pm ou=>((V.length:Int)-i).toNat) 0 [] [] [(0,some 3),(1,some 4099),(2,some 49155),(3,some 57347),(4,none),(5,some 1),(6,some 0),(7,some 2),(8,none)] h ⟨by omega,by omega,pK.zero E V L⟩ fun i pm ou _ _ _ eH hI h=>?_
 obtain⟨i0,i1,hP⟩:=hI
 refine aZ [] h fun _ _ h=>?_
 refine av h (fun(q2:i<(V.length:Int))=>?_) (fun(q2:¬(i<(V.length:Int)))=>?_)
 .obtain⟨x1,x2,_⟩:=XZ i.toNat (by omega)
  have nP:=Nat.le_trans hP.n (Nat.mul_le_mul_right 3000 (show i.toNat<=1024 by omega))
  have oP:=hP.o
  refine go (pr:=(bX i V.length)/\(cA .int (V.getD i.toNat 0))) [] h ⟨bx,wk⟩ fun _ _ h=>?_
  refine av h (fun(q3:((af pm (V.getD i.toNat 0)).isSome)=false)=>?_) (fun(q3:((af pm (V.getD i.toNat 0)).isSome)=true)=>?_)
  .obtain⟨R1,_,R3,_⟩:=EG (shut:= -1) (EH hr (yH hp) (V.getD i.toNat 0))
   refine go (pr:=(bS n E=0/\Zg E (bW E L)/\0<=(V.getD i.toNat 0)/\(V.getD i.toNat 0)<1024)) [] h (⟨hr,yH hp,x1,by omega⟩) fun _ _ h=>?_
   refine tI (Int->Bool) Nat (Option (Int×Int)) (List (Int×Int)) (fun lf cnt cur nY=>⟨[(2,ep 0),(3,ep 1),(7,em 2),(8,em 3),(9,eo 4),(11,en (V.getD i.toNat 0)),(30,eo 5),(31,en (V.length:Int)),(32,en i),(48,ep 6)],[(0,some (.box 24 [.v (.int .i64 n),.own 7])),(1,some (.box 27 [.own 5,.own 8])),(2,some (.mL .int (.list .int) (bW E L))),(3,some (.map .int .int nY)),(4,some (.ext (.nest 9 none 27 kI 3 ou))),(5,some (.ar .int V)),(6,some (.iter .int .int (dI E (bW E L) (V.getD i.toNat 0) (-1:Int)) lf cnt cur)),(7,some (.ar j8 E)),(8,some (.ar .int L))],10⟩) (fun lf cnt cur nY=>R5 (dI E (bW E L) (V.getD i.toNat 0) (-1)) pm (ou.length:Int) lf cnt nY/\True) (fun lf cnt cur nY=>cnt) (fun z=>(af (dI E (bW E L) (V.getD i.toNat 0) (-1)) z).isSome) ((dI E (bW E L) (V.getD i.toNat 0) (-1)).length) none pm (rk [0,1,2,3,4,5,73737,6,7,8]) h ⟨R5.start _ _ _,tv⟩ fun lf cnt cur nY _ _ _ lS hI h=>?_
   obtain⟨hT,_⟩:=hI
   refine aZ [] h fun _ _ h=>?_
   refine tK ⟨.int,.int,(dI E (bW E L) (V.getD i.toNat 0) (-1:Int)),lf,cnt,cur,6,49⟩ h (fun(gE:∀x:Int,lf x=false) _ _ h=>?_) (fun(k1:Int) (v1:Int) (c1:Nat) (gE:lf k1=true) (Bd: -9223372036854775808<=k1/\k1<=9223372036854775807) (Ac:af (dI E (bW E L) (V.getD i.toNat 0) (-1:Int)) k1=some v1) (vI:c1<cnt) _ _ h=>?_)
   .obtain⟨hI2,Zz⟩:=hP.new i0 q2 q3 R3 (by omega) (hT.fin gE)
    obtain⟨⟨a1,a2⟩,a3⟩:=pK.at2 Zz
    refine go (pr:=(ou.length+([([],[])]:List ((List Int)×List Int)).length<=2147483647)/\(cA .int (V.getD i.toNat 0))/\(bX ((af nY (V.getD i.toNat 0)).getD 0) (ou++([([],[])]:List ((List Int)×List Int))).length)/\((((ou++([([],[])]:List ((List Int)×List Int))).getD ((af nY (V.getD i.toNat 0)).getD 0).toNat ([],[])).1).length+([(V.getD i.toNat 0)]:List Int).length<=2147483647)/\(bX ((af nY (V.getD i.toNat 0)).getD 0) (ou++([([],[])]:List ((List Int)×List Int))).length)/\(bX ((af nY (V.getD i.toNat 0)).getD 0) (ou++([([],[])]:List ((List Int)×List Int))).length)/\(bX ((af nY (V.getD i.toNat 0)).getD 0) (ou++([([],[])]:List ((List Int)×List Int))).length)/\(AN (some (((af nY (V.getD i.toNat 0)).getD 0).toNat*2+0)) (((af nY (V.getD i.toNat 0)).getD 0).toNat*2+0))/\(bR .i64 (i+1))) [(59,true)] h ⟨ln,wk,bx,ln,bx,bx,bx,rfl,cz⟩ fun _ _ h=>?_
    exact dR (eH (i+1) nY ((ou++([([],[])]:List ((List Int)×List Int))).set ((af nY (V.getD i.toNat 0)).getD 0).toNat (((((ou++([([],[])]:List ((List Int)×List Int))).getD ((af nY (V.getD i.toNat 0)).getD 0).toNat ([],[])).1)++([(V.getD i.toNat 0)]:List Int)),((ou++([([],[])]:List ((List Int)×List Int))).getD ((af nY (V.getD i.toNat 0)).getD 0).toNat ([],[])).2)) (rk [0,1,2,3,20490,5,7,8,94218]) h ⟨by omega,by omega,hI2⟩ (XJ))
   have nT:=hT.n
   refine go (pr:=(cA .int k1)/\(nY.length<=2147483647)) [] h ⟨wk,ln⟩ fun _ _ h=>?_
   exact dR (lS (fun z=>lf z && !decide (z=k1)) c1 (some (k1,v1)) (b9 nY k1 (ou.length:Int)) (ir 10) h ⟨hT.step gE Ac vI,tv⟩ (vI))
  obtain⟨⟨a1,a2⟩,a3⟩:=hP.at_ i0 i1 (x:=(V.getD i.toNat 0)) q3
  have hI1:=hP.met i0 q2 q3
  refine go (pr:=(cA .int (V.getD i.toNat 0))/\(bX ((af pm (V.getD i.toNat 0)).getD 0) ou.length)/\(((ou.getD ((af pm (V.getD i.toNat 0)).getD 0).toNat ([],[])).1).length+([(V.getD i.toNat 0)]:List Int).length<=2147483647)/\(bX ((af pm (V.getD i.toNat 0)).getD 0) ou.length)/\(bX ((af pm (V.getD i.toNat 0)).getD 0) ou.length)/\(bX ((af pm (V.getD i.toNat 0)).getD 0) ou.length)/\(AN (some (((af pm (V.getD i.toNat 0)).getD 0).toNat*2+0)) (((af pm (V.getD i.toNat 0)).getD 0).toNat*2+0))/\(bR .i64 (i+1))) [] h ⟨wk,bx,ln,bx,bx,bx,rfl,cz⟩ fun _ _ h=>?_
  exact dR (eH (i+1) pm (ou.set ((af pm (V.getD i.toNat 0)).getD 0).toNat ((((ou.getD ((af pm (V.getD i.toNat 0)).getD 0).toNat ([],[])).1)++([(V.getD i.toNat 0)]:List Int)),(ou.getD ((af pm (V.getD i.toNat 0)).getD 0).toNat ([],[])).2)) (rk [0,1,2,3,4,5,6,7,122889]) h ⟨by omega,by omega,hI1⟩ (XJ))
 have hF:=hP.fin q2
 refine aZ [] h fun _ _ h=>?_
 refine bq Int (List (List Int×List Int)) (fun j o2=>⟨[(2,ep 0),(8,em 1),(9,eo 2),(78,eo 3),(79,en (L.length:Int)),(80,en j)],[(0,some (.box 24 [.v (.int .i64 n),.own 4])),(1,some (.map .int .int pm)),(2,some (.ext (.nest 5 none 27 kI 3 o2))),(3,some (.ar .int L)),(4,some (.ar j8 E))],6⟩) (fun j o2=>0<=j/\j<=(L.length:Int)/\G2 E V L j ou.length o2) (fun j o2=>((L.length:Int)-j).toNat) 0 ou (rk [0,3,4,7,6,8]) h ⟨by omega,by omega,hF.2.2⟩ fun j o2 _ _ _ uf hI h=>?_
 obtain⟨j0,j1,hE⟩:=hI
 refine aZ [] h fun _ _ h=>?_
 refine av h (fun(q4:j<(L.length:Int))=>?_) (fun(q4:¬(j<(L.length:Int)))=>?_)
 .obtain⟨⟨f1,f2,f3⟩,⟨f4,f5,f6,f7⟩,_⟩:=yG hp rfl j0 q4
  obtain⟨⟨a1,a2⟩,_⟩:=hP.at_ i0 i1 (x:=(E.getD (L.getD j.toNat 0).toNat (0,0)).1) (hP.all q2 (uZ hp j0 q4).1)
  have n2:=hE.n
  have n3:=hE.at_ ((af pm (E.getD (L.getD j.toNat 0).toNat (0,0)).1).getD 0).toNat
  refine go (pr:=(bX j L.length)/\(bX (L.getD j.toNat 0) E.length)/\(cA .int ((E.getD (L.getD j.toNat 0).toNat (0,0)).1))/\(bX ((af pm ((E.getD (L.getD j.toNat 0).toNat (0,0)).1)).getD 0) o2.length)/\(((o2.getD ((af pm ((E.getD (L.getD j.toNat 0).toNat (0,0)).1)).getD 0).toNat ([],[])).2).length+([(L.getD j.toNat 0)]:List Int).length<=2147483647)/\(bX ((af pm ((E.getD (L.getD j.toNat 0).toNat (0,0)).1)).getD 0) o2.length)/\(bX ((af pm ((E.getD (L.getD j.toNat 0).toNat (0,0)).1)).getD 0) o2.length)/\(bX ((af pm ((E.getD (L.getD j.toNat 0).toNat (0,0)).1)).getD 0) o2.length)/\(AN (some (((af pm ((E.getD (L.getD j.toNat 0).toNat (0,0)).1)).getD 0).toNat*2+1)) (((af pm ((E.getD (L.getD j.toNat 0).toNat (0,0)).1)).getD 0).toNat*2+1))/\(bR .i64 (j+1))) [] h ⟨bx,bx,wk,bx,ln,bx,bx,bx,rfl,cz⟩ fun _ _ h=>?_
  exact dR (uf (j+1) (o2.set ((af pm ((E.getD (L.getD j.toNat 0).toNat (0,0)).1)).getD 0).toNat ((o2.getD ((af pm ((E.getD (L.getD j.toNat 0).toNat (0,0)).1)).getD 0).toNat ([],[])).1,(((o2.getD ((af pm ((E.getD (L.getD j.toNat 0).toNat (0,0)).1)).getD 0).toNat ([],[])).2)++([(L.getD j.toNat 0)]:List Int)))) (rk [0,1,2,3,4,102406]) h ⟨by omega,by omega,hE.step hF.1 j0 q4⟩ (XJ))
 refine aZ [] h fun _ _ h=>?_
 exact out ((o2:List ((List Int)×List Int)),((0:Int):Int),()) h (by have e1:=hE.f;rw[List.take_of_length_le (by omega)] at e1;exact G3 hp e1)
def Fp:dy Tryz.prog:=plain PC
theorem Ll:bG Tryz.prog 122 [(false,nv),(false,.int)] [.int] (fun x=>0<=(I_ x.2.1)/\(I_ x.2.1)/2<((E_ x.1.2).length:Int)/\(I_ x.2.1)<=1000000) (fun x=>(ah (E_ x.1.2) (I_ x.2.1),())):=by
 refine bn Tryz.f122 22 [] Tryz.func122 fun o x hd _ _ h=>?_
 obtain⟨⟨(n:Int),(E:List (Int×Int))⟩,(d:Int),_⟩:=x
 have jt:=mh h 0 E
 change 0<=d/\d/2<(E.length:Int)/\d<=1000000 at hd
 obtain⟨d0,d1,d2⟩:=hd
 refine go (pr:=(0<=d/\0<(2:Int))) [] h (⟨by omega,by omega⟩) fun _ _ h=>?_
 refine av h (fun(q1:d%2=0)=>?_) (fun(q1:¬(d%2=0))=>?_)
 .refine go (pr:=(0<=d/\0<(2:Int)/\bR .i64 d)/\(bX (d/2) E.length)) [] h ⟨⟨by omega,by omega,⟨by omega,by omega⟩⟩,bx⟩ fun _ _ h=>?_
  exact out (((E.getD (d/2).toNat (0,0)).1:Int),()) h (by simp only[ah,if_pos q1];rfl)
 refine go (pr:=(0<=d/\0<(2:Int)/\bR .i64 d)/\(bX (d/2) E.length)) [] h ⟨⟨by omega,by omega,⟨by omega,by omega⟩⟩,bx⟩ fun _ _ h=>?_
 exact out (((E.getD (d/2).toNat (0,0)).2:Int),()) h (by simp only[ah,if_neg q1];rfl)
def Lm:dy Tryz.prog:=plain Ll
theorem Ln:bG Tryz.prog 45 [(false,nv),(false,.int)] [.int] (fun x=>0<=(I_ x.2.1)/\(I_ x.2.1)/2<((E_ x.1.2).length:Int)/\(I_ x.2.1)<=1000000) (fun x=>(ah (E_ x.1.2) (I_ x.2.1),())):=by
 refine bn Tryz.f45 22 [] Tryz.func45 fun o x hd _ _ h=>?_
 obtain⟨⟨(n:Int),(E:List (Int×Int))⟩,(d:Int),_⟩:=x
 have jt:=mh h 0 E
 change 0<=d/\d/2<(E.length:Int)/\d<=1000000 at hd
 obtain⟨d0,d1,d2⟩:=hd
 refine go (pr:=(0<=d/\0<(2:Int))) [] h (⟨by omega,by omega⟩) fun _ _ h=>?_
 refine av h (fun(q1:d%2=0)=>?_) (fun(q1:¬(d%2=0))=>?_)
 .refine go (pr:=(0<=d/\0<(2:Int)/\bR .i64 d)/\(bX (d/2) E.length)) [] h ⟨⟨by omega,by omega,⟨by omega,by omega⟩⟩,bx⟩ fun _ _ h=>?_
  exact out (((E.getD (d/2).toNat (0,0)).1:Int),()) h (by simp only[ah,if_pos q1];rfl)
 refine go (pr:=(0<=d/\0<(2:Int)/\bR .i64 d)/\(bX (d/2) E.length)) [] h ⟨⟨by omega,by omega,⟨by omega,by omega⟩⟩,bx⟩ fun _ _ h=>?_
 exact out (((E.getD (d/2).toNat (0,0)).2:Int),()) h (by simp only[ah,if_neg q1];rfl)
def rL:dy Tryz.prog:=plain Ln
theorem Tb:bG Tryz.prog 102 [(false,nv),(false,kI),(false,(.list (.list .int)))] [(.list .int),.int] (fun x=>cF (I_ x.1.1)/\aC (K_ x.2.2.1)/\az (K_ x.2.2.1)) (fun x=>((cn (I_ x.1.1) (E_ x.1.2) (J_ x.2.1.1) (J_ x.2.1.2) (K_ x.2.2.1)).1,(cn (I_ x.1.1) (E_ x.1.2) (J_ x.2.1.1) (J_ x.2.1.2) (K_ x.2.2.1)).2,())):=by
 refine bn Tryz.f102 120 [Lm,Fp,oN] Tryz.func102 fun o x hd _ _ h=>?_
 obtain⟨⟨(n:Int),(E:List (Int×Int))⟩,⟨(V:List Int),(L:List Int)⟩,(T:List (List Int)),_⟩:=x
 have jt:=mh h 0 E
 have gE:=dh h 1 V
 have gH:=dh h 2 L
 have lT:=gC h 3 T
 change cF n/\aC T/\az T at hd
 obtain⟨hn,eS,dc⟩:=hd
 refine go (pr:=(cF n/\aC T/\az T)) [] h (⟨hn,eS,dc⟩) fun _ _ h=>?_
 refine av h (fun(q1:¬((aa n E V L T).2=0))=>?_) (fun(q1:(aa n E V L T).2=0)=>?_)
 .refine aZ [] h fun _ _ h=>?_
  exact out (([]:List Int),((aa n E V L T).2:Int),()) h (by simp only[cn,if_pos q1];rfl)
 have kf:=q1
 obtain⟨gX,hT,hW⟩:=aU kf
 have hP:=iJ gX
 obtain⟨sj,hV,hL,_⟩:=aJ gX
 obtain⟨r1,r2,r3,_⟩:=bz sj
 have PA:=aO hV r1
 have Fi:=aO hL (by omega)
 have SZ:=hP.len
 have LS:=hW.len
 have UO:=mI (fun k=>(hP.bd k).1) (P:=(ay n E V L))
 refine go (pr:=(cF n)) [] h hn fun _ _ h=>?_
 refine av h (fun(q2:¬(aS n E V L=0))=>?_) (fun(q2:aS n E V L=0)=>?_)
 .exact(q2 gX).elim
 refine aZ [] h fun _ _ h=>?_
 refine bq Int (List (Int×Int)) (fun i m=>⟨[(3,ep 0),(8,eo 1),(10,eo 2),(11,em 3),(46,eo 2),(47,en ((ay n E V L).length:Int)),(48,en i)],[(0,some (.box 24 [.v (.int .i64 n),.own 4])),(1,some (.ro (.pair .int (.list .int)) ((aa n E V L T).1))),(2,some (.ro kI (ay n E V L))),(3,some (.map .int .int m)),(4,some (.ar j8 E))],5⟩) (fun i m=>0<=i/\i<=((ay n E V L).length:Int)/\m=u7 (ay n E V L) i.toNat) (fun i m=>(((ay n E V L).length:Int)-i).toNat) 0 [] (rk [4,28676,69636,114692,0]) h ⟨Int.le_refl _,Int.natCast_nonneg _,rfl⟩ fun i m _ _ _ eH hI h=>?_
 obtain⟨i0,i1,i2⟩:=hI
 refine aZ [] h fun _ _ h=>?_
 refine av h (fun(q3:i<((ay n E V L).length:Int))=>?_) (fun(q3:¬(i<((ay n E V L).length:Int)))=>?_)
 .obtain⟨qb1,qb2⟩:=hP.bd i.toNat
  have wJ:=UO i.toNat
  have WK:i.toNat*V.length<=1048576:=Nat.le_trans (Nat.mul_le_mul (show i.toNat<=1024 by omega) (show V.length<=1024 by omega)) (by decide)
  rw[<-i2] at wJ
  refine go (pr:=(bX i (ay n E V L).length)) [] h bx fun _ _ h=>?_
  refine bq Int (List (Int×Int)) (fun j mm=>⟨[(3,ep 0),(8,eo 1),(10,eo 2),(11,em 3),(12,en i),(46,eo 2),(47,en ((ay n E V L).length:Int)),(48,en i),(54,eo 4),(55,en ((((ay n E V L).getD i.toNat ([],[])).1).length:Int)),(56,en j)],[(0,some (.box 24 [.v (.int .i64 n),.own 5])),(1,some (.ro (.pair .int (.list .int)) ((aa n E V L T).1))),(2,some (.ro kI (ay n E V L))),(3,some (.map .int .int mm)),(4,some (.ro .int (((ay n E V L).getD i.toNat ([],[])).1))),(5,some (.ar j8 E))],6⟩) (fun j mm=>0<=j/\j<=(((ay n E V L).getD i.toNat ([],[])).1.length:Int)/\mm=qo (u7 (ay n E V L) i.toNat) ((ay n E V L).getD i.toNat ([],[])).1 i j.toNat) (fun j mm=>((((ay n E V L).getD i.toNat ([],[])).1.length:Int)-j).toNat) 0 m (rk [0,1,2,3,12293,4]) h ⟨Int.le_refl _,Int.natCast_nonneg _,i2⟩ fun j mm _ _ _ lS hI h=>?_
  obtain⟨j0,j1,j2⟩:=hI
  refine aZ [] h fun _ _ h=>?_
  refine av h (fun(q4:j<((((ay n E V L).getD i.toNat ([],[])).1).length:Int))=>?_) (fun(q4:¬(j<((((ay n E V L).getD i.toNat ([],[])).1).length:Int)))=>?_)
  .have hvm:=hP.sub i.toNat _ (ag (l:=((ay n E V L).getD i.toNat ([],[])).1) (i:=j.toNat) (d:=0) (by omega))
   have Ef:=(aA.1 hV).2 _ hvm
   have xe:=ic (m:=u7 (ay n E V L) i.toNat) (vs:=((ay n E V L).getD i.toNat ([],[])).1) (c:=i) j.toNat
   rw[<-j2,<-i2] at xe
   refine go (pr:=(bX j (((ay n E V L).getD i.toNat ([],[])).1).length)/\(cA .int ((((ay n E V L).getD i.toNat ([],[])).1).getD j.toNat 0))/\(mm.length<=2147483647)/\(bR .i64 (j+1))) [] h ⟨bx,wk,ln,cz⟩ fun _ _ h=>?_
   exact dR (lS (j+1) (b9 mm ((((ay n E V L).getD i.toNat ([],[])).1).getD j.toNat 0) i) (ir 6) h ⟨by omega,by omega,by rw[lG j0,<-j2]⟩ (by omega))
  have HC:j.toNat=((ay n E V L).getD i.toNat ([],[])).1.length:=by omega
  have o8:=j2
  rw[HC] at o8
  refine go (pr:=(bR .i64 (i+1))) [] h cz fun _ _ h=>?_
  exact dR (eH (i+1) mm (rk [0,1,2,3,5]) h ⟨by omega,by omega,by rw[ET i0,<-o8]⟩ (by omega))
 have uP:i.toNat=(ay n E V L).length:=by omega
 rw[uP] at i2
 refine go (pr:=(0<=((ay n E V L).length:Int)/\((ay n E V L).length:Int)<=((ay n E V L).length:Int)/\((ay n E V L).length:Int)<=2147483647)) [] h (⟨by omega,by omega,by omega⟩) fun _ _ h=>?_
 refine bq Int (List Int) (fun i fs=>⟨[(3,ep 0),(10,eo 1),(11,em 2),(16,eo 3),(68,eo 4),(69,en (((aa n E V L T).1).length:Int)),(70,en i)],[(0,some (.box 24 [.v (.int .i64 n),.own 5])),(1,some (.ro kI (ay n E V L))),(2,some (.map .int .int m)),(3,some (.row 3 .int fs)),(4,some (.ro (.pair .int (.list .int)) ((aa n E V L T).1))),(5,some (.ar j8 E))],6⟩) (fun i fs=>0<=i/\i<=((aa n E V L T).1.length:Int)/\fs=oH E (ay n E V L) (aa n E V L T).1 i.toNat) (fun i fs=>(((aa n E V L T).1.length:Int)-i).toNat) 0 (List.replicate (ay n E V L).length 0) (rk [0,2,3,12293,1,4]) h ⟨Int.le_refl _,Int.natCast_nonneg _,rfl⟩ fun i fs _ _ _ uf hI h=>?_
 obtain⟨k0,k1,k2⟩:=hI
 refine aZ [] h fun _ _ h=>?_
 refine av h (fun(q5:i<(((aa n E V L T).1).length:Int))=>?_) (fun(q5:¬(i<(((aa n E V L T).1).length:Int)))=>?_)
 .have wq:((aa n E V L T).1.getD i.toNat (0,[]))∈(aa n E V L T).1:=ag (by omega)
  have R9:=rB gX hW wq
  obtain⟨pi,pi0,_,Z6⟩:=CV hP R9
  have Iq:=wZ (E:=E) (P:=(ay n E V L)) (W:=(aa n E V L T).1) i.toNat
  rw[<-k2] at Iq
  have NO:=Ox (E:=E) (P:=(ay n E V L)) (W:=(aa n E V L T).1) i.toNat
  rw[<-k2] at NO
  have F1:=vY gX hW wq
  have hky:=hW.key _ wq
  rw[<-i2] at Z6
  refine go (pr:=(bX i ((aa n E V L T).1).length)/\(bR .i64 ((-1)-((((aa n E V L T).1).getD i.toNat (0,[])).1)))) [] h ⟨bx,cz⟩ fun _ _ h=>?_
  refine av h (fun(q6:(0:Int)<(((((aa n E V L T).1).getD i.toNat (0,[])).2).length:Int))=>?_) (fun(q6:¬((0:Int)<(((((aa n E V L T).1).getD i.toNat (0,[])).2).length:Int)))=>?_)
  .have QS:cZ E ((aa n E V L T).1.getD i.toNat (0,[]))=ah E ((aa n E V L T).1.getD i.toNat (0,[])).1:=if_neg (by omega)
   obtain⟨_,Pq⟩:=hky.resolve_left fun z=>by omega
   obtain⟨_,d0,d1,d2⟩:=bf gX Pq
   rw[QS] at Z6 R9
   have pi2:(af m (ah E ((aa n E V L T).1.getD i.toNat (0,[])).1)).getD 0=(pi:Int):=by rw[Z6];rfl
   have Ef:=(aA.1 hV).2 _ R9
   have abx:=NO ((af m (ah E ((aa n E V L T).1.getD i.toNat (0,[])).1)).getD 0).toNat
   refine go (pr:=(0<=((((aa n E V L T).1).getD i.toNat (0,[])).1)/\((((aa n E V L T).1).getD i.toNat (0,[])).1)/2<(E.length:Int)/\((((aa n E V L T).1).getD i.toNat (0,[])).1)<=1000000)/\(cA .int (ah E ((((aa n E V L T).1).getD i.toNat (0,[])).1)))/\(bX ((af m (ah E ((((aa n E V L T).1).getD i.toNat (0,[])).1))).getD 0) fs.length)/\(bR .i64 ((fs.getD ((af m (ah E ((((aa n E V L T).1).getD i.toNat (0,[])).1))).getD 0).toNat 0)+1))/\(bX ((af m (ah E ((((aa n E V L T).1).getD i.toNat (0,[])).1))).getD 0) fs.length)/\(bX ((af m (ah E ((((aa n E V L T).1).getD i.toNat (0,[])).1))).getD 0) fs.length)/\(bR .i64 (i+1))) [] h ⟨⟨by omega,by omega,by omega⟩,wk,bx,cz,bx,bx,cz⟩ fun _ _ h=>?_
   exact dR (uf (i+1) (fs.set ((af m (ah E ((((aa n E V L T).1).getD i.toNat (0,[])).1))).getD 0).toNat ((fs.getD ((af m (ah E ((((aa n E V L T).1).getD i.toNat (0,[])).1))).getD 0).toNat 0)+1)) (ir 6) h ⟨by omega,by omega,by rw[Bn k0,QS,<-k2,<-i2]⟩ (by omega))
  have QS:cZ E ((aa n E V L T).1.getD i.toNat (0,[]))= -1-((aa n E V L T).1.getD i.toNat (0,[])).1:=if_pos (by omega)
  rw[QS] at Z6 R9
  have pi2:(af m (-1-((aa n E V L T).1.getD i.toNat (0,[])).1)).getD 0=(pi:Int):=by rw[Z6];rfl
  have Ef:=(aA.1 hV).2 _ R9
  have abx:=NO ((af m (-1-((aa n E V L T).1.getD i.toNat (0,[])).1)).getD 0).toNat
  refine go (pr:=(cA .int ((-1)-((((aa n E V L T).1).getD i.toNat (0,[])).1)))/\(bX ((af m ((-1)-((((aa n E V L T).1).getD i.toNat (0,[])).1))).getD 0) fs.length)/\(bR .i64 ((fs.getD ((af m ((-1)-((((aa n E V L T).1).getD i.toNat (0,[])).1))).getD 0).toNat 0)+1))/\(bX ((af m ((-1)-((((aa n E V L T).1).getD i.toNat (0,[])).1))).getD 0) fs.length)/\(bX ((af m ((-1)-((((aa n E V L T).1).getD i.toNat (0,[])).1))).getD 0) fs.length)/\(bR .i64 (i+1))) [] h ⟨wk,bx,cz,bx,bx,cz⟩ fun _ _ h=>?_
  exact dR (uf (i+1) (fs.set ((af m ((-1)-((((aa n E V L T).1).getD i.toNat (0,[])).1))).getD 0).toNat ((fs.getD ((af m ((-1)-((((aa n E V L T).1).getD i.toNat (0,[])).1))).getD 0).toNat 0)+1)) (ir 6) h ⟨by omega,by omega,by rw[Bn k0,QS,<-k2,<-i2]⟩ (by omega))
 have zm:i.toNat=(aa n E V L T).1.length:=by omega
 rw[zm] at k2
 have Iq:=wZ (E:=E) (P:=(ay n E V L)) (W:=(aa n E V L T).1) (aa n E V L T).1.length
 rw[<-k2] at Iq
 refine aZ [] h fun _ _ h=>?_
 refine bq Int (List Int) (fun i gs=>⟨[(16,eo 0),(20,eo 1),(94,eo 2),(95,en ((ay n E V L).length:Int)),(96,en i)],[(0,some (.row 3 .int fs)),(1,some (.row 3 .int gs)),(2,some (.ro kI (ay n E V L)))],3⟩) (fun i gs=>0<=i/\i<=((ay n E V L).length:Int)/\gs=yS (ay n E V L) fs i.toNat) (fun i gs=>(((ay n E V L).length:Int)-i).toNat) 0 [] [(0,some 3),(1,none),(2,some 1)] h ⟨Int.le_refl _,Int.natCast_nonneg _,rfl⟩ fun i gs _ _ _ DA hI h=>?_
 obtain⟨g0,g1,g2⟩:=hI
 refine aZ [] h fun _ _ h=>?_
 refine av h (fun(q7:i<((ay n E V L).length:Int))=>?_) (fun(q7:¬(i<((ay n E V L).length:Int)))=>?_)
 .obtain⟨qb1,qb2⟩:=hP.bd i.toNat
  have NO:=Ox (E:=E) (P:=(ay n E V L)) (W:=(aa n E V L T).1) (aa n E V L T).1.length i.toNat
  rw[<-k2] at NO
  have Z7:=oI (P:=(ay n E V L)) (fs:=fs) i.toNat
  rw[<-g2] at Z7
  refine go (pr:=(bX i (ay n E V L).length)/\(bR .i64 (2-((((ay n E V L).getD i.toNat ([],[])).1).length:Int)))/\(bR .i64 ((2-((((ay n E V L).getD i.toNat ([],[])).1).length:Int))+((((ay n E V L).getD i.toNat ([],[])).2).length:Int)))/\(bX i fs.length)/\(bR .i64 (((2-((((ay n E V L).getD i.toNat ([],[])).1).length:Int))+((((ay n E V L).getD i.toNat ([],[])).2).length:Int))-(fs.getD i.toNat 0)))/\(0<(2:Int)/\bR .i64 (((2-((((ay n E V L).getD i.toNat ([],[])).1).length:Int))+((((ay n E V L).getD i.toNat ([],[])).2).length:Int))-(fs.getD i.toNat 0)))/\(gs.length+([Int.tdiv (((2-((((ay n E V L).getD i.toNat ([],[])).1).length:Int))+((((ay n E V L).getD i.toNat ([],[])).2).length:Int))-(fs.getD i.toNat 0)) 2]:List Int).length<=2147483647)/\(bR .i64 (i+1))) [(115,true)] h ⟨bx,cz,cz,bx,cz,⟨by omega,⟨by omega,by omega⟩⟩,ln,cz⟩ fun _ _ h=>?_
  exact dR (DA (i+1) (gs++([Int.tdiv (((2-((((ay n E V L).getD i.toNat ([],[])).1).length:Int))+((((ay n E V L).getD i.toNat ([],[])).2).length:Int))-(fs.getD i.toNat 0)) 2]:List Int)) (rk [0,94211,2]) h ⟨by omega,by omega,by rw[K3 g0,<-g2]⟩ (by omega))
 have AL:i.toNat=(ay n E V L).length:=by omega
 rw[AL] at g2
 refine aZ [] h fun _ _ h=>?_
 exact out ((gs:List Int),((0:Int):Int),()) h (by simp only[cn,if_neg (show ¬(aa n E V L T).2≠0 by rw[kf];exact fun q=>q rfl)];rw[<-k2,<-g2])
def Tc:dy Tryz.prog:=plain Tb
theorem WL:bG Tryz.prog 60 [(false,nv),(false,kI),(false,(.list (.list .int)))] [.int] (fun x=>cF (I_ x.1.1)/\aC (K_ x.2.2.1)/\az (K_ x.2.2.1)) (fun x=>(iD (I_ x.1.1) (E_ x.1.2) (J_ x.2.1.1) (J_ x.2.1.2) (K_ x.2.2.1),())):=by
 refine bn Tryz.f60 30 [Tc] Tryz.func60 fun o x hd _ _ h=>?_
 obtain⟨⟨(n:Int),(E:List (Int×Int))⟩,⟨(V:List Int),(L:List Int)⟩,(T:List (List Int)),_⟩:=x
 have jt:=mh h 0 E
 have gE:=dh h 1 V
 have gH:=dh h 2 L
 have lT:=gC h 3 T
 change cF n/\aC T/\az T at hd
 obtain⟨hn,eS,dc⟩:=hd
 refine go (pr:=(cF n/\aC T/\az T)) [] h (⟨hn,eS,dc⟩) fun _ _ h=>?_
 refine av h (fun(q1:¬((cn n E V L T).2=0))=>?_) (fun(q1:(cn n E V L T).2=0)=>?_)
 .refine aZ [] h fun _ _ h=>?_
  exact out (((cn n E V L T).2:Int),()) h (by simp only[iD,if_pos q1];rfl)
 have Z7:=K5 q1
 have hpv:=G6 q1
 refine aZ [] h fun _ _ h=>?_
 refine go_loop (Int) (fun i=>⟨[(21,eo 0),(22,en (((cn n E V L T).1).length:Int)),(23,en i)],[(0,some (.ro .int ((cn n E V L T).1)))],1⟩) (fun i=>0<=i/\∀j:Nat,(j:Int)<i->(cn n E V L T).1.getD j 0=0) (fun i=>(((cn n E V L T).1.length:Int)-i).toNat) (0) (rk [24580]) h ⟨Int.le_refl _,fun j hj=>by omega⟩ fun i _ _ _ eH hI h=>?_
 obtain⟨i0,i1⟩:=hI
 refine aZ [] h fun _ _ h=>?_
 refine av h (fun(q2:i<(((cn n E V L T).1).length:Int))=>?_) (fun(q2:¬(i<(((cn n E V L T).1).length:Int)))=>?_)
 .refine go (pr:=(bX i ((cn n E V L T).1).length)) [] h bx fun _ _ h=>?_
  refine av h (fun(q3:¬((((cn n E V L T).1).getD i.toNat 0)=0))=>?_) (fun(q3:(((cn n E V L T).1).getD i.toNat 0)=0)=>?_)
  .refine aZ [] h fun _ _ h=>?_
   exact out (((6:Int):Int),()) h (by rw[Oy q1 i0 q2 q3])
  refine go (pr:=(bR .i64 (i+1))) [] h cz fun _ _ h=>?_
  exact dR (eH (i+1) (ir 1) h ⟨by omega,fun j hj=>if z:(j:Int)<i then i1 j z else by rw[show j=i.toNat by omega];exact q3⟩ (by omega))
 refine aZ [] h fun _ _ h=>?_
 exact out (((0:Int):Int),()) h (by rw[R8 q1 (fun j hj=>i1 j (by omega))])
def WM:dy Tryz.prog:=plain WL
theorem PD:bG Tryz.prog 104 [(false,nv),(false,(.pair .int (.list .int)))] [.int] (fun x=>((J_ x.2.1.2).length=0/\-1<=-1-(I_ x.2.1.1)/\-1-(I_ x.2.1.1)<=1000000)\/((J_ x.2.1.2).length≠0/\0<=(I_ x.2.1.1)/\(I_ x.2.1.1)/2<((E_ x.1.2).length:Int)/\(I_ x.2.1.1)<=1000000)) (fun x=>(cZ (E_ x.1.2) ((I_ x.2.1.1),(J_ x.2.1.2)),())):=by
 refine bn Tryz.f104 34 [] Tryz.func104 fun o x hd _ _ h=>?_
 obtain⟨⟨(n:Int),(E:List (Int×Int))⟩,⟨(k:Int),(ds:List Int)⟩,_⟩:=x
 have jt:=mh h 0 E
 have gE:=dh h 1 ds
 change (ds.length=0/\-1<=-1-k/\-1-k<=1000000)\/(ds.length≠0/\0<=k/\k/2<(E.length:Int)/\k<=1000000) at hd
 refine aZ [] h fun _ _ h=>?_
 refine av h (fun(q1:(ds.length:Int)=0)=>?_) (fun(q1:¬((ds.length:Int)=0))=>?_)
 .have hk:=hd.resolve_right fun z=>z.1 (by omega)
  refine go (pr:=(bR .i64 ((-1)-k))) [] h cz fun _ _ h=>?_
  exact out (((-1)-k:Int),()) h (by unfold cZ;rw[if_pos (show(k,ds).2.length=0 by show ds.length=0;omega)])
 have hk:=hd.resolve_left fun z=>by omega
 refine go (pr:=(0<=k/\0<(2:Int))) [] h (⟨by omega,by omega⟩) fun _ _ h=>?_
 refine av h (fun(q2:k%2=0)=>?_) (fun(q2:¬(k%2=0))=>?_)
 .refine go (pr:=(0<=k/\0<(2:Int)/\bR .i64 k)/\(bX (k/2) E.length)) [] h ⟨⟨by omega,by omega,⟨by omega,by omega⟩⟩,bx⟩ fun _ _ h=>?_
  exact out (((E.getD (k/2).toNat (0,0)).1:Int),()) h (by unfold cZ ah;rw[if_neg (show ¬(k,ds).2.length=0 by show ¬ds.length=0;omega),if_pos (show(k,ds).1%2=0 from q2)])
 refine go (pr:=(0<=k/\0<(2:Int)/\bR .i64 k)/\(bX (k/2) E.length)) [] h ⟨⟨by omega,by omega,⟨by omega,by omega⟩⟩,bx⟩ fun _ _ h=>?_
 exact out (((E.getD (k/2).toNat (0,0)).2:Int),()) h (by unfold cZ ah;rw[if_neg (show ¬(k,ds).2.length=0 by show ¬ds.length=0;omega),if_neg (show ¬(k,ds).1%2=0 from q2)])
def PE:dy Tryz.prog:=plain PD
theorem PF:bG Tryz.prog 61 [(false,nv),(false,kI),(false,(.list (.list .int)))] [(.map .int .int),.int] (fun x=>cF (I_ x.1.1)/\aC (K_ x.2.2.1)/\az (K_ x.2.2.1)/\(aa (I_ x.1.1) (E_ x.1.2) (J_ x.2.1.1) (J_ x.2.1.2) (K_ x.2.2.1)).2=0) (fun x=>(bP (E_ x.1.2) (ay (I_ x.1.1) (E_ x.1.2) (J_ x.2.1.1) (J_ x.2.1.2)) (aa (I_ x.1.1) (E_ x.1.2) (J_ x.2.1.1) (J_ x.2.1.2) (K_ x.2.2.1)).1 (aa (I_ x.1.1) (E_ x.1.2) (J_ x.2.1.1) (J_ x.2.1.2) (K_ x.2.2.1)).1.length,((ay (I_ x.1.1) (E_ x.1.2) (J_ x.2.1.1) (J_ x.2.1.2)).length:Int),())):=by
 refine bn Tryz.f61 72 [PE,Fp,oN] Tryz.func61 fun o x hd _ _ h=>?_
 obtain⟨⟨(n:Int),(E:List (Int×Int))⟩,⟨(V:List Int),(L:List Int)⟩,(T:List (List Int)),_⟩:=x
 have jt:=mh h 0 E
 have gE:=dh h 1 V
 have gH:=dh h 2 L
 have lT:=gC h 3 T
 change cF n/\aC T/\az T/\(aa n E V L T).2=0 at hd
 obtain⟨hn,eS,dc,kf⟩:=hd
 obtain⟨gX,hT,hW⟩:=aU kf
 have hP:=iJ gX
 obtain⟨sj,hV,hL,_⟩:=aJ gX
 obtain⟨r1,r2,r3,_⟩:=bz sj
 have PA:=aO hV r1
 have Fi:=aO hL (by omega)
 have SZ:=hP.len
 have LS:=hW.len
 have UO:=mI (fun k=>(hP.bd k).1) (P:=(ay n E V L))
 refine go (pr:=(cF n)) [] h hn fun _ _ h=>?_
 refine bq Int (List (Int×Int)) (fun i m=>⟨[(2,eo 0),(3,ep 1),(4,ep 2),(8,eo 3),(10,em 4),(27,eo 3),(28,en ((ay n E V L).length:Int)),(29,en i)],[(0,some (.ar (.list .int) T)),(1,some (.box 24 [.v (.int .i64 n),.own 5])),(2,some (.box 27 [.own 6,.own 7])),(3,some (.ro kI (ay n E V L))),(4,some (.map .int .int m)),(5,some (.ar j8 E)),(6,some (.ar .int V)),(7,some (.ar .int L))],8⟩) (fun i m=>0<=i/\i<=((ay n E V L).length:Int)/\m=u7 (ay n E V L) i.toNat) (fun i m=>(((ay n E V L).length:Int)-i).toNat) 0 [] (rk [3,4,4100,24580,49156,0,1,2]) h ⟨Int.le_refl _,Int.natCast_nonneg _,rfl⟩ fun i m _ _ _ eH hI h=>?_
 obtain⟨i0,i1,i2⟩:=hI
 refine aZ [] h fun _ _ h=>?_
 refine av h (fun(q1:i<((ay n E V L).length:Int))=>?_) (fun(q1:¬(i<((ay n E V L).length:Int)))=>?_)
 .obtain⟨qb1,qb2⟩:=hP.bd i.toNat
  have wJ:=UO i.toNat
  have WK:i.toNat*V.length<=1048576:=Nat.le_trans (Nat.mul_le_mul (show i.toNat<=1024 by omega) (show V.length<=1024 by omega)) (by decide)
  rw[<-i2] at wJ
  refine go (pr:=(bX i (ay n E V L).length)) [] h bx fun _ _ h=>?_
  refine bq Int (List (Int×Int)) (fun j mm=>⟨[(2,eo 0),(3,ep 1),(4,ep 2),(8,eo 3),(10,em 4),(11,en i),(27,eo 3),(28,en ((ay n E V L).length:Int)),(29,en i),(35,eo 5),(36,en ((((ay n E V L).getD i.toNat ([],[])).1).length:Int)),(37,en j)],[(0,some (.ar (.list .int) T)),(1,some (.box 24 [.v (.int .i64 n),.own 6])),(2,some (.box 27 [.own 7,.own 8])),(3,some (.ro kI (ay n E V L))),(4,some (.map .int .int mm)),(5,some (.ro .int (((ay n E V L).getD i.toNat ([],[])).1))),(6,some (.ar j8 E)),(7,some (.ar .int V)),(8,some (.ar .int L))],9⟩) (fun j mm=>0<=j/\j<=(((ay n E V L).getD i.toNat ([],[])).1.length:Int)/\mm=qo (u7 (ay n E V L) i.toNat) ((ay n E V L).getD i.toNat ([],[])).1 i j.toNat) (fun j mm=>((((ay n E V L).getD i.toNat ([],[])).1.length:Int)-j).toNat) 0 m (rk [0,1,2,3,4,12296,5,6,7]) h ⟨Int.le_refl _,Int.natCast_nonneg _,i2⟩ fun j mm _ _ _ lS hI h=>?_
  obtain⟨j0,j1,j2⟩:=hI
  refine aZ [] h fun _ _ h=>?_
  refine av h (fun(q2:j<((((ay n E V L).getD i.toNat ([],[])).1).length:Int))=>?_) (fun(q2:¬(j<((((ay n E V L).getD i.toNat ([],[])).1).length:Int)))=>?_)
  .have hvm:=hP.sub i.toNat _ (ag (l:=((ay n E V L).getD i.toNat ([],[])).1) (i:=j.toNat) (d:=0) (by omega))
   have Ef:=(aA.1 hV).2 _ hvm
   have xe:=ic (m:=u7 (ay n E V L) i.toNat) (vs:=((ay n E V L).getD i.toNat ([],[])).1) (c:=i) j.toNat
   rw[<-j2,<-i2] at xe
   refine go (pr:=(bX j (((ay n E V L).getD i.toNat ([],[])).1).length)/\(cA .int ((((ay n E V L).getD i.toNat ([],[])).1).getD j.toNat 0))/\(mm.length<=2147483647)/\(bR .i64 (j+1))) [] h ⟨bx,wk,ln,cz⟩ fun _ _ h=>?_
   exact dR (lS (j+1) (b9 mm ((((ay n E V L).getD i.toNat ([],[])).1).getD j.toNat 0) i) (ir 9) h ⟨by omega,by omega,by rw[lG j0,<-j2]⟩ (by omega))
  have HC:j.toNat=((ay n E V L).getD i.toNat ([],[])).1.length:=by omega
  have o8:=j2
  rw[HC] at o8
  refine go (pr:=(bR .i64 (i+1))) [] h cz fun _ _ h=>?_
  exact dR (eH (i+1) mm (rk [0,1,2,3,4,6,7,8]) h ⟨by omega,by omega,by rw[ET i0,<-o8]⟩ (by omega))
 have uP:i.toNat=(ay n E V L).length:=by omega
 rw[uP] at i2
 refine go (pr:=(cF n/\aC T/\az T)) [] h (⟨hn,eS,dc⟩) fun _ _ h=>?_
 refine bq Int (List (Int×Int)) (fun i om=>⟨[(3,ep 0),(8,eo 1),(10,em 2),(15,em 3),(54,eo 4),(55,en (((aa n E V L T).1).length:Int)),(56,en i)],[(0,some (.box 24 [.v (.int .i64 n),.own 5])),(1,some (.ro kI (ay n E V L))),(2,some (.map .int .int m)),(3,some (.map .int .int om)),(4,some (.ro (.pair .int (.list .int)) ((aa n E V L T).1))),(5,some (.ar j8 E))],6⟩) (fun i om=>0<=i/\i<=((aa n E V L T).1.length:Int)/\om=bP E (ay n E V L) (aa n E V L T).1 i.toNat) (fun i om=>(((aa n E V L T).1.length:Int)-i).toNat) 0 [] (rk [1,3,4,4104,24584,5]) h ⟨Int.le_refl _,Int.natCast_nonneg _,rfl⟩ fun i om _ _ _ uf hI h=>?_
 obtain⟨k0,k1,k2⟩:=hI
 refine aZ [] h fun _ _ h=>?_
 refine av h (fun(q3:i<(((aa n E V L T).1).length:Int))=>?_) (fun(q3:¬(i<(((aa n E V L T).1).length:Int)))=>?_)
 .have wq:((aa n E V L T).1.getD i.toNat (0,[]))∈(aa n E V L T).1:=ag (by omega)
  have R9:=rB gX hW wq
  have Ef:=(aA.1 hV).2 _ R9
  have F1:=vY gX hW wq
  have hcd:=OM gX hW wq
  have Q4:=xd (E:=E) (P:=(ay n E V L)) (W:=(aa n E V L T).1) i.toNat
  rw[<-k2] at Q4
  refine go (pr:=(bX i ((aa n E V L T).1).length)/\(((((aa n E V L T).1).getD i.toNat (0,[])).2.length=0/\-1<=-1-(((aa n E V L T).1).getD i.toNat (0,[])).1/\-1-(((aa n E V L T).1).getD i.toNat (0,[])).1<=1000000)\/((((aa n E V L T).1).getD i.toNat (0,[])).2.length≠0/\0<=(((aa n E V L T).1).getD i.toNat (0,[])).1/\(((aa n E V L T).1).getD i.toNat (0,[])).1/2<(E.length:Int)/\(((aa n E V L T).1).getD i.toNat (0,[])).1<=1000000))/\(cA .int (cZ E (((aa n E V L T).1).getD i.toNat (0,[]))))/\(cA .int ((((aa n E V L T).1).getD i.toNat (0,[])).1))/\(om.length<=2147483647)/\(bR .i64 (i+1))) [] h ⟨bx,hcd,wk,wk,ln,cz⟩ fun _ _ h=>?_
  exact dR (uf (i+1) (b9 om ((((aa n E V L T).1).getD i.toNat (0,[])).1) ((af m (cZ E (((aa n E V L T).1).getD i.toNat (0,[])))).getD 0)) (ir 6) h ⟨by omega,by omega,by rw[K6 k0,<-k2,<-i2]⟩ (by omega))
 have zm:i.toNat=(aa n E V L T).1.length:=by omega
 rw[zm] at k2
 refine aZ [] h fun _ _ h=>?_
 exact out ((om:bh .int Int),(((ay n E V L).length:Int):Int),()) h (by rw[<-k2])
def PG:dy Tryz.prog:=plain PF
abbrev PI:rD:=⟨[.box 138 [.mp 1,.own 2,.own 3,.int],.map .int .int,.row 3 .int,.row 3 .int],[.ptr 0 0,.int],[.box 138 [.mp 1,.own 2,.own 3,.int],.map .int .int,.row 3 .int,.row 3 .int],[.int],1⟩
theorem Z8:eO Tryz.prog 106 PI (fun x=>(-9223372036854775808<=(I_ x.2.2.1)/\(I_ x.2.2.1)<=9223372036854775807)/\(show bh .int Int from x.1.2.1).length<=1000000/\(J_ x.1.2.2.1).length<=1000000/\(J_ x.1.2.2.2.1).length<=1000000/\-1000000<=(I_ x.1.1.2.2.2.1)/\(I_ x.1.1.2.2.2.1)<=1000000) (fun x=>((((),(),(),gR (show bh .int Int from x.1.2.1) (I_ x.1.1.2.2.2.1) (I_ x.2.2.1),()),bD (show bh .int Int from x.1.2.1) (J_ x.1.2.2.1) (I_ x.2.2.1),bT (show bh .int Int from x.1.2.1) (J_ x.1.2.2.1) (I_ x.2.2.1),cg (show bh .int Int from x.1.2.1) (J_ x.1.2.2.1) (J_ x.1.2.2.2.1) (I_ x.2.2.1),()),(cV (show bh .int Int from x.1.2.1) (J_ x.1.2.2.1) (I_ x.2.2.1),()))):=by
 refine fo Tryz.f106 58 [] PI Tryz.func106 fun o A x hd _ _ h=>?_
 obtain⟨⟨⟨_,_,_,(g:Int),_⟩,(M:bh .int Int),(L:List Int),(U:List Int),_⟩,⟨_,(x:Int),_⟩⟩:=x
 have gH:=dh h 2 L
 have lT:=dh h 3 U
 change (-9223372036854775808<=x/\x<=9223372036854775807)/\M.length<=1000000/\L.length<=1000000/\U.length<=1000000/\-1000000<=g/\g<=1000000 at hd
 obtain⟨⟨x0,x1⟩,hM,hL,hU,g0,g1⟩:=hd
 refine go (pr:=(cA .int x)) [] h wk fun _ _ h=>?_
 refine av h (fun(q1:((af M x).isSome)=true)=>?_) (fun(q1:((af M x).isSome)=false)=>?_)
 .refine aZ [] h fun _ _ h=>?_
  obtain⟨i,hi⟩:=Option.isSome_iff_exists.1 q1
  exact kJ ((((),(),(),g,()),M,L,U,()),(((af M x).getD 0),())) (ir 4) h (by simp only[bD,bT,cg,gR,cV,hi];rfl)
 refine go (pr:=(cA .int x)/\(M.length<=2147483647)/\(L.length+([x]:List Int).length<=2147483647)/\(U.length+([(L.length:Int)]:List Int).length<=2147483647)/\(bR .i64 (g+1))) [] h ⟨wk,ln,ln,ln,cz⟩ fun _ _ h=>?_
 have hi:af M x=none:=by cases hq:af M x with|none=>rfl|some _=>rw[hq] at q1;cases q1
 exact kJ ((((),(),(),g+1,()),(b9 M x (L.length:Int)),(L++([x]:List Int)),(U++([(L.length:Int)]:List Int)),()),((L.length:Int),())) (rk [0,1,135172,180228]) h (by simp only[bD,bT,cg,gR,cV,hi];rfl)
def UP:dy Tryz.prog:=oJ Z8
abbrev Jz:rD:=⟨[.box 138 [.mp 1,.own 2,.own 3,.int],.map .int .int,.row 3 .int,.row 3 .int],[.ptr 0 0,.int],[.box 138 [.mp 1,.own 2,.own 3,.int],.map .int .int,.row 3 .int,.row 3 .int],[.int],1⟩
theorem WN:eO Tryz.prog 107 Jz (fun x=>fW (J_ x.1.2.2.2.1)/\0<=(I_ x.2.2.1)/\(I_ x.2.2.1)<((J_ x.1.2.2.2.1).length:Int)/\(J_ x.1.2.2.2.1).length<=1000000) (fun x=>((((),(),(),(I_ x.1.1.2.2.2.1),()),(show bh .int Int from x.1.2.1),(J_ x.1.2.2.1),gu (J_ x.1.2.2.2.1) (I_ x.2.2.1),()),(iq (J_ x.1.2.2.2.1) (I_ x.2.2.1),()))):=by
 refine fo Tryz.f107 41 [] Jz Tryz.func107 fun o A x hd _ _ h=>?_
 obtain⟨⟨⟨_,_,_,(g:Int),_⟩,(M:bh .int Int),(L:List Int),(U:List Int),_⟩,⟨_,(i:Int),_⟩⟩:=x
 have gH:=dh h 2 L
 have lT:=dh h 3 U
 change fW U/\0<=i/\i<(U.length:Int)/\U.length<=1000000 at hd
 obtain⟨hU,i0,i1,hUl⟩:=hd
 refine aZ [] h fun _ _ h=>?_
 refine jk Int (List Int) Nat (fun k c f=>⟨[(0,ep 0),(1,en k)],[(0,some (.box 138 [.mp 1,.own 2,.own 3,.v (.int .i64 g)])),(1,some (.map .int .int M)),(2,some (.row 3 .int L)),(3,some (.row 3 .int c))],4⟩) (fun k c f=>0<=k/\k<(c.length:Int)/\fW c/\c.length=U.length/\k.toNat<f/\CY f c k=CY (i.toNat+1) U i) (fun k c f=>f) i U (i.toNat+1) (ir 4) h ⟨i0,i1,hU,rfl,Nat.lt_succ_self _,rfl⟩ fun k c f _ _ _ eH hI h=>?_
 obtain⟨k0,k1,k2,k3,k4,k5⟩:=hI
 refine go (pr:=(bX k c.length)) [] h bx fun _ _ h=>?_
 refine av h (fun(q1:¬((c.getD k.toNat 0)=k))=>?_) (fun(q1:(c.getD k.toNat 0)=k)=>?_)
 .have hy:=dX k2 k0 (show k<(c.length:Int) by omega)
  have hz:=dX k2 hy.1 (show c.getD k.toNat 0<(c.length:Int) by omega)
  have KG:(c.set k.toNat (c.getD (c.getD k.toNat 0).toNat 0)).length=c.length:=List.length_set ..
  have hn:(c.set k.toNat (c.getD (c.getD k.toNat 0).toNat 0)).getD k.toNat 0=c.getD (c.getD k.toNat 0).toNat 0:=by rw[lK (by omega),if_pos rfl]
  refine go (pr:=(bX k c.length)/\(bX (c.getD k.toNat 0) c.length)/\(bX k c.length)/\(bX k c.length)/\(bX k (c.set k.toNat (c.getD (c.getD k.toNat 0).toNat 0)).length)) [] h ⟨bx,bx,bx,bx,bx⟩ fun _ _ h=>?_
  exact dR (eH ((c.set k.toNat (c.getD (c.getD k.toNat 0).toNat 0)).getD k.toNat 0) (c.set k.toNat (c.getD (c.getD k.toNat 0).toNat 0)) (f-1) (ir 4) h ⟨by rw[hn];exact hz.1,by rw[hn,KG];omega,(CX k2 k0 (by omega)).1,by omega,by rw[hn];omega,by rw[<-k5,hvS (by omega) q1]⟩ (by omega))
 refine aZ [] h fun _ _ h=>?_
 have he:CY (i.toNat+1) U i=(c,k):=by rw[<-k5];exact hvE (by omega) q1
 exact kJ ((((),(),(),g,()),M,L,c,()),(k,())) (ir 4) h (by simp only[gu,iq,he];rfl)
def PJ:dy Tryz.prog:=oJ WN
abbrev PK:rD:=⟨[.box 138 [.mp 1,.own 2,.own 3,.int],.map .int .int,.row 3 .int,.row 3 .int],[.ptr 0 0,.int],[.box 138 [.mp 1,.own 2,.own 3,.int],.map .int .int,.row 3 .int,.row 3 .int],[.bool],1⟩
theorem Z9:eO Tryz.prog 63 PK (fun x=>(-9223372036854775808<=(I_ x.2.2.1)/\(I_ x.2.2.1)<=9223372036854775807)/\(show bh .int Int from x.1.2.1).length<=900000/\(J_ x.1.2.2.1).length<=900000/\(J_ x.1.2.2.2.1).length<=900000/\-900000<=(I_ x.1.1.2.2.2.1)/\(I_ x.1.1.2.2.2.1)<=900000) (fun x=>((((),(),(),gR (show bh .int Int from x.1.2.1) (I_ x.1.1.2.2.2.1) (I_ x.2.2.1),()),bD (show bh .int Int from x.1.2.1) (J_ x.1.2.2.1) (I_ x.2.2.1),bT (show bh .int Int from x.1.2.1) (J_ x.1.2.2.1) (I_ x.2.2.1),cg (show bh .int Int from x.1.2.1) (J_ x.1.2.2.1) (J_ x.1.2.2.2.1) (I_ x.2.2.1),()),(decide (cV (show bh .int Int from x.1.2.1) (J_ x.1.2.2.1) (I_ x.2.2.1)=((J_ x.1.2.2.1).length:Int)),()))):=by
 refine fo Tryz.f63 20 [I8,UP] PK Tryz.func63 fun o A x hd _ _ h=>?_
 obtain⟨⟨⟨_,_,_,(g:Int),_⟩,(M:bh .int Int),(L:List Int),(U:List Int),_⟩,⟨_,(x:Int),_⟩⟩:=x
 have gH:=dh h 2 L
 have lT:=dh h 3 U
 change (-9223372036854775808<=x/\x<=9223372036854775807)/\M.length<=900000/\L.length<=900000/\U.length<=900000/\-900000<=g/\g<=900000 at hd
 obtain⟨⟨x0,x1⟩,hM,hL,hU,g0,g1⟩:=hd
 refine go (pr:=(cA .int x)) [] h wk fun _ _ h=>?_
 refine av h (fun(q1:true=false)=>?_) (fun(q1:true=true)=>?_)
 .cases q1
 refine go (pr:=((-9223372036854775808<=x/\x<=9223372036854775807)/\M.length<=1000000/\L.length<=1000000/\U.length<=1000000/\-1000000<=g/\g<=1000000)) [] h (⟨⟨by omega,by omega⟩,by omega,by omega,by omega,by omega,by omega⟩) fun _ _ h=>?_
 exact kJ ((((),(),(),gR M g x,()),bD M L x,bT M L x,cg M L U x,()),(decide (cV M L x=(L.length:Int)),())) (rk [0,53253,53254,53255]) h rfl
def PL:dy Tryz.prog:=oJ Z9
abbrev Fq:rD:=⟨[.box 138 [.mp 1,.own 2,.own 3,.int],.map .int .int,.row 3 .int,.row 3 .int],[.ptr 0 0],[.box 138 [.mp 1,.own 2,.own 3,.int],.map .int .int,.row 3 .int,.row 3 .int],[.int],1⟩
theorem Td:eO Tryz.prog 65 Fq (fun _=>True) (fun x=>((((),(),(),(I_ x.1.1.2.2.2.1),()),(show bh .int Int from x.1.2.1),(J_ x.1.2.2.1),(J_ x.1.2.2.2.1),()),((I_ x.1.1.2.2.2.1),()))):=by
 refine fo Tryz.f65 9 [] Fq Tryz.func65 fun o A x hd _ _ h=>?_
 obtain⟨⟨⟨_,_,_,(g:Int),_⟩,(M:bh .int Int),(L:List Int),(U:List Int),_⟩,⟨_,_⟩⟩:=x
 have gH:=dh h 2 L
 have lT:=dh h 3 U
 refine aZ [] h fun _ _ h=>?_
 exact kJ ((((),(),(),g,()),M,L,U,()),(g,())) (ir 4) h rfl
def Te:dy Tryz.prog:=oJ Td
abbrev PM:rD:=⟨[.row 3 .int],[.own 0],[.box 138 [.mp 1,.own 2,.own 3,.int],.map .int .int,.row 3 .int,.row 3 .int],[.ptr 0 0],0⟩
theorem aaa:eO Tryz.prog 62 PM (fun x=>(J_ x.1.1)=[]) (fun x=>((((),(),(),(0:Int),()),([]:List (Int×Int)),([]:List Int),([]:List Int),()),((),()))):=by
 refine fo Tryz.f62 20 [] PM Tryz.func62 fun o A x hd _ _ h=>?_
 obtain⟨⟨(Z:List Int),_⟩,⟨_,_⟩⟩:=x
 have jt:=dh h 0 Z
 change Z=[] at hd
 have hz:Z.length=0:=by rw[hd];rfl
 refine aZ [] h fun _ _ h=>?_
 refine go_loop (Int) (fun i=>⟨[(3,ep 0),(9,eo 1),(10,en (Z.length:Int)),(11,en i)],[(0,some (.box 138 [.mp 2,.v (.slice none 0 0),.v (.slice none 0 0),.v (.int .i64 0)])),(1,some (.row 3 .int Z)),(2,some (.map .int .int ([]:bh .int Int)))],3⟩) (fun i=>i=0/\True) (fun i=>0) (0) (rk [12289,0,4097]) h ⟨rfl,tv⟩ fun i _ _ _ eH hI h=>?_
 obtain⟨i0,_⟩:=hI
 refine aZ [] h fun _ _ h=>?_
 refine av h (fun(q1:i<(Z.length:Int))=>?_) (fun(q1:¬(i<(Z.length:Int)))=>?_)
 .omega
 refine aZ [] h fun _ _ h=>?_
 exact kJ ((((),(),(),(0:Int),()),([]:bh .int Int),[],[],()),((),())) [(0,some 0),(1,some 2),(2,none),(3,none)] h rfl
def PN:dy Tryz.prog:=oJ aaa
abbrev JA:rD:=⟨[.box 138 [.mp 1,.own 2,.own 3,.int],.map .int .int,.row 3 .int,.row 3 .int],[.ptr 0 0,.int,.int],[.box 138 [.mp 1,.own 2,.own 3,.int],.map .int .int,.row 3 .int,.row 3 .int],[.bool],1⟩
theorem WO:eO Tryz.prog 64 JA (fun x=>(-9223372036854775808<=(I_ x.2.2.1)/\(I_ x.2.2.1)<=9223372036854775807)/\(-9223372036854775808<=(I_ x.2.2.2.1)/\(I_ x.2.2.2.1)<=9223372036854775807)/\gT (show bh .int Int from x.1.2.1) (J_ x.1.2.2.1) (J_ x.1.2.2.2.1)/\(J_ x.1.2.2.1).length<=900000/\-900000<=(I_ x.1.1.2.2.2.1)/\(I_ x.1.1.2.2.2.1)<=900000) (fun x=>((((),(),(),E3 (show bh .int Int from x.1.2.1) (J_ x.1.2.2.1) (J_ x.1.2.2.2.1) (I_ x.1.1.2.2.2.1) (I_ x.2.2.1) (I_ x.2.2.2.1),()),QY (show bh .int Int from x.1.2.1) (J_ x.1.2.2.1) (I_ x.2.2.1) (I_ x.2.2.2.1),LQ (show bh .int Int from x.1.2.1) (J_ x.1.2.2.1) (I_ x.2.2.1) (I_ x.2.2.2.1),I9 (show bh .int Int from x.1.2.1) (J_ x.1.2.2.1) (J_ x.1.2.2.2.1) (I_ x.2.2.1) (I_ x.2.2.2.1),()),(LR (show bh .int Int from x.1.2.1) (J_ x.1.2.2.1) (J_ x.1.2.2.2.1) (I_ x.2.2.1) (I_ x.2.2.2.1),()))):=by
 refine fo Tryz.f64 52 [I8,UP,PJ] JA Tryz.func64 fun o A x hd _ _ h=>?_
 obtain⟨⟨⟨_,_,_,(g:Int),_⟩,(M:bh .int Int),(L:List Int),(U:List Int),_⟩,⟨_,(x:Int),(y:Int),_⟩⟩:=x
 have gH:=dh h 2 L
 have lT:=dh h 3 U
 change (-9223372036854775808<=x/\x<=9223372036854775807)/\(-9223372036854775808<=y/\y<=9223372036854775807)/\gT M L U/\L.length<=900000/\-900000<=g/\g<=900000 at hd
 obtain⟨⟨x0,x1⟩,⟨y0,y1⟩,hR,hL,g0,g1⟩:=hd
 obtain⟨Yy,a0,a1,_⟩:=hR.put x
 obtain⟨Um,b0,b1,_⟩:=Yy.put y
 have w1:=hR.len
 have w2:M.length<=L.length:=hR.nG
 have w3:=Yy.len
 have w4:=Yy.nG
 have w5:=Um.len
 have w6:=Um.nG
 have w7:=qu M L x
 have w8:=qu (bD M L x) (bT M L x) y
 have w9:=OI M g x
 have w10:=OI (bD M L x) (gR M g x) y
 obtain⟨c1,c2,c3,c4,c5,c6,c7,c8⟩:=OJ Um.ok (i:=cV M L x) a0 (by omega) b0 (by omega)
 refine go (pr:=(cA .int x)/\((true=true)->(cA .int y))) [] h ⟨wk,fun _=>wk⟩ fun _ _ h=>?_
 refine av h (fun(q1:(true=false)\/(true=false))=>?_) (fun(q1:(true=true)/\(true=true))=>?_)
 .rcases q1 with q|q<;>cases q
 refine go (pr:=((-9223372036854775808<=x/\x<=9223372036854775807)/\M.length<=1000000/\L.length<=1000000/\U.length<=1000000/\-1000000<=g/\g<=1000000)/\((-9223372036854775808<=y/\y<=9223372036854775807)/\(bD M L x).length<=1000000/\(bT M L x).length<=1000000/\(cg M L U x).length<=1000000/\-1000000<=(gR M g x)/\(gR M g x)<=1000000)/\(fW (cg (bD M L x) (bT M L x) (cg M L U x) y)/\0<=(cV M L x)/\(cV M L x)<((cg (bD M L x) (bT M L x) (cg M L U x) y).length:Int)/\(cg (bD M L x) (bT M L x) (cg M L U x) y).length<=1000000)/\(fW (gu (cg (bD M L x) (bT M L x) (cg M L U x) y) (cV M L x))/\0<=(cV (bD M L x) (bT M L x) y)/\(cV (bD M L x) (bT M L x) y)<((gu (cg (bD M L x) (bT M L x) (cg M L U x) y) (cV M L x)).length:Int)/\(gu (cg (bD M L x) (bT M L x) (cg M L U x) y) (cV M L x)).length<=1000000)) [] h ⟨⟨⟨by omega,by omega⟩,by omega,by omega,by omega,by omega,by omega⟩,⟨⟨by omega,by omega⟩,by omega,by omega,by omega,by omega,by omega⟩,⟨Um.ok,by omega,by omega,by omega⟩,⟨by assumption,by omega,by omega,by omega⟩⟩ fun _ _ h=>?_
 refine av h (fun(q2:iq (cg (bD M L x) (bT M L x) (cg M L U x) y) (cV M L x)=iq (gu (cg (bD M L x) (bT M L x) (cg M L U x) y) (cV M L x)) (cV (bD M L x) (bT M L x) y))=>?_) (fun(q2:¬(iq (cg (bD M L x) (bT M L x) (cg M L U x) y) (cV M L x)=iq (gu (cg (bD M L x) (bT M L x) (cg M L U x) y) (cV M L x)) (cV (bD M L x) (bT M L x) y)))=>?_)
 .refine aZ [] h fun _ _ h=>?_
  have q9:sM M L U x y=sN M L U x y:=q2
  exact kJ ((((),(),(),gR (bD M L x) (gR M g x) y,()),bD (bD M L x) (bT M L x) y,bT (bD M L x) (bT M L x) y,gu (gu (cg (bD M L x) (bT M L x) (cg M L U x) y) (cV M L x)) (cV (bD M L x) (bT M L x) y),()),(false,())) (rk [0,98309,98310,98311]) h (by simp only[E3,QY,LQ,I9,LR,if_pos q9];rfl)
 refine go (pr:=(bX (max (iq (cg (bD M L x) (bT M L x) (cg M L U x) y) (cV M L x)) (iq (gu (cg (bD M L x) (bT M L x) (cg M L U x) y) (cV M L x)) (cV (bD M L x) (bT M L x) y))) (gu (gu (cg (bD M L x) (bT M L x) (cg M L U x) y) (cV M L x)) (cV (bD M L x) (bT M L x) y)).length)/\(bX (max (iq (cg (bD M L x) (bT M L x) (cg M L U x) y) (cV M L x)) (iq (gu (cg (bD M L x) (bT M L x) (cg M L U x) y) (cV M L x)) (cV (bD M L x) (bT M L x) y))) (gu (gu (cg (bD M L x) (bT M L x) (cg M L U x) y) (cV M L x)) (cV (bD M L x) (bT M L x) y)).length)/\(bR .i64 ((gR (bD M L x) (gR M g x) y)-1))) [] h ⟨bx,bx,cz⟩ fun _ _ h=>?_
 have q9:¬sM M L U x y=sN M L U x y:=q2
 exact kJ ((((),(),(),(gR (bD M L x) (gR M g x) y)-1,()),bD (bD M L x) (bT M L x) y,bT (bD M L x) (bT M L x) y,((gu (gu (cg (bD M L x) (bT M L x) (cg M L U x) y) (cV M L x)) (cV (bD M L x) (bT M L x) y)).set (max (iq (cg (bD M L x) (bT M L x) (cg M L U x) y) (cV M L x)) (iq (gu (cg (bD M L x) (bT M L x) (cg M L U x) y) (cV M L x)) (cV (bD M L x) (bT M L x) y))).toNat (min (iq (cg (bD M L x) (bT M L x) (cg M L U x) y) (cV M L x)) (iq (gu (cg (bD M L x) (bT M L x) (cg M L U x) y) (cV M L x)) (cV (bD M L x) (bT M L x) y)))),()),(true,())) (rk [0,98309,98310,98311]) h (by simp only[E3,QY,LQ,I9,LR,if_neg q9];rfl)
def HE:dy Tryz.prog:=oJ WO
theorem PO:bG Tryz.prog 34 [(false,nv),(false,kI),(false,(.pair (.list (.list .int)) (.list (.list .int))))] [.int] (fun x=>cF (I_ x.1.1)/\aC (K_ x.2.2.1.1)/\az (K_ x.2.2.1.1)/\aC (K_ x.2.2.1.2)/\az (K_ x.2.2.1.2)) (fun x=>(aM (I_ x.1.1) (E_ x.1.2) (J_ x.2.1.1) (J_ x.2.1.2) (K_ x.2.2.1.1) (K_ x.2.2.1.2),())):=by
 refine bn Tryz.f34 134 [PL,Te,WM,HE,PN,PG] Tryz.func34 fun o x hd _ _ h=>?_
 obtain⟨⟨(n:Int),(E:List (Int×Int))⟩,⟨(V:List Int),(L:List Int)⟩,⟨(T:List (List Int)),(S:List (List Int))⟩,_⟩:=x
 have jt:=mh h 0 E
 have gE:=dh h 1 V
 have gH:=dh h 2 L
 have lT:=gC h 3 T
 have Am:=gC h 4 S
 change cF n/\aC T/\az T/\aC S/\az S at hd
 obtain⟨hn,eS,dc,e6,dO⟩:=hd
 have nQ:=dO.1
 refine go (pr:=(cF n/\aC T/\az T)) [] h (⟨hn,eS,dc⟩) fun _ _ h=>?_
 refine av h (fun(q1:¬(iD n E V L T=0))=>?_) (fun(q1:iD n E V L T=0)=>?_)
 .refine aZ [] h fun _ _ h=>?_
  exact out ((iD n E V L T:Int),()) h (by rw[yY q1])
 have Dy:=q1
 have kf:=aK Dy
 obtain⟨gX,hT,hW⟩:=aU kf
 have hP:=iJ gX
 obtain⟨sj,hV,hL,_⟩:=aJ gX
 obtain⟨r1,r2,r3,_⟩:=bz sj
 have PA:=aO hV r1
 have Fi:=aO hL (by omega)
 have SZ:=hP.len
 have LS:=hW.len
 have UO:=mI (fun k=>(hP.bd k).1) (P:=(ay n E V L))
 have Q5:CZ (bP E (ay n E V L) (aa n E V L T).1 (aa n E V L T).1.length) (ay n E V L).length:=⟨fun x v hx=>Hp gX hP hW (Nat.le_refl _) x v hx,Nat.le_trans (xd _) (by omega)⟩
 refine go (pr:=(cF n/\aC T/\az T/\(aa n E V L T).2=0)/\(([]:List Int)=[])) [] h ⟨⟨hn,eS,dc,kf⟩,rfl⟩ fun _ _ h=>?_
 refine go_loop (Int×(List (Int×Int))×List Int×List Int×Int) (fun x_=>(fun(i:Int) (M:List (Int×Int)) (K:List Int) (U:List Int) (c:Int)=>⟨[(5,ep 0),(8,em 1),(10,ep 2),(38,en ((ay n E V L).length:Int)),(39,en i)],[(0,some (.box 30 [.own 3,.own 4])),(1,some (.mL .int .int (bP E (ay n E V L) (aa n E V L T).1 (aa n E V L T).1.length))),(2,some (.box 138 [.mp 5,.own 6,.own 7,.v (.int .i64 c)])),(3,some (.ar (.list .int) T)),(4,some (.ar (.list .int) S)),(5,some (.map .int .int M)),(6,some (.row 3 .int K)),(7,some (.row 3 .int U))],8⟩) x_.1 x_.2.1 x_.2.2.1 x_.2.2.2.1 x_.2.2.2.2) (fun x_=>(fun(i:Int) (M:List (Int×Int)) (K:List Int) (U:List Int) (c:Int)=>0<=i/\i<=((ay n E V L).length:Int)/\jK i.toNat=(M,K,U,c)) x_.1 x_.2.1 x_.2.2.1 x_.2.2.2.1 x_.2.2.2.2) (fun x_=>(fun(i:Int) (M:List (Int×Int)) (K:List Int) (U:List Int) (c:Int)=>(((ay n E V L).length:Int)-i).toNat) x_.1 x_.2.1 x_.2.2.1 x_.2.2.2.1 x_.2.2.2.2) (0,[],[],[],0) (rk [8197,65541,90117,3,4,90118,90119,90120]) h ⟨Int.le_refl _,Int.natCast_nonneg _,rfl⟩ fun x_ _ _ _ eH hI h=>?_
 obtain⟨i,M,K,U,c⟩:=x_
 obtain⟨i0,i1,i2⟩:=hI
 dsimp only at i0 i1 i2
 refine aZ [] h fun _ _ h=>?_
 refine av h (fun(q2:i<((ay n E V L).length:Int))=>?_) (fun(q2:¬(i<((ay n E V L).length:Int)))=>?_)
 .obtain⟨a1,a2,a3,_⟩:=tW i.toNat
  rw[i2] at a1 a2 a3
  change K.length=i.toNat at a2
  have ab:=a1.bd
  change 0<=c/\c<=(K.length:Int) at ab
  have am:M.length<=K.length:=a1.rep.nG
  have au:U.length=K.length:=a1.rep.len
  refine go (pr:=((-9223372036854775808<=i/\i<=9223372036854775807)/\M.length<=900000/\K.length<=900000/\U.length<=900000/\-900000<=c/\c<=900000)/\(bR .i64 (i+1))) [] h ⟨⟨⟨by omega,by omega⟩,by omega,by omega,by omega,by omega,by omega⟩,cz⟩ fun _ _ h=>?_
  exact dR (eH (i+1,bD M K i,bT M K i,cg M K U i,gR M c i) (rk [0,1,2,3,4,20489,20490,20491]) h ⟨by dsimp only;omega,by dsimp only;omega,by dsimp only;rw[Lb i0,i2];rfl⟩ (by dsimp only;omega))
 have uP:i.toNat=(ay n E V L).length:=by omega
 rw[uP] at i2
 refine aZ [] h fun _ _ h=>?_
 refine go_loop (Int×(List (Int×Int))×List Int×List Int×Int×(List (Int×Int))) (fun x_=>(fun(i:Int) (M:List (Int×Int)) (K:List Int) (U:List Int) (c:Int) (mt:List (Int×Int))=>⟨[(5,ep 0),(8,em 1),(10,ep 2),(12,em 3),(48,eo 4),(49,en (S.length:Int)),(50,en i)],[(0,some (.box 30 [.own 5,.own 4])),(1,some (.mL .int .int (bP E (ay n E V L) (aa n E V L T).1 (aa n E V L T).1.length))),(2,some (.box 138 [.mp 6,.own 7,.own 8,.v (.int .i64 c)])),(3,some (.map .int .int mt)),(4,some (.ar (.list .int) S)),(5,some (.ar (.list .int) T)),(6,some (.map .int .int M)),(7,some (.row 3 .int K)),(8,some (.row 3 .int U))],9⟩) x_.1 x_.2.1 x_.2.2.1 x_.2.2.2.1 x_.2.2.2.2.1 x_.2.2.2.2.2) (fun x_=>(fun(i:Int) (M:List (Int×Int)) (K:List Int) (U:List Int) (c:Int) (mt:List (Int×Int))=>0<=i/\i<=(S.length:Int)/\jc (bP E (ay n E V L) (aa n E V L T).1 (aa n E V L T).1.length) S (ay n E V L).length i.toNat=some ((M,K,U,c),mt)/\yX (bP E (ay n E V L) (aa n E V L T).1 (aa n E V L T).1.length) (ay n E V L).length ((M,K,U,c),mt)) x_.1 x_.2.1 x_.2.2.1 x_.2.2.2.1 x_.2.2.2.2.1 x_.2.2.2.2.2) (fun x_=>(fun(i:Int) (M:List (Int×Int)) (K:List Int) (U:List Int) (c:Int) (mt:List (Int×Int))=>((S.length:Int)-i).toNat) x_.1 x_.2.1 x_.2.2.1 x_.2.2.2.1 x_.2.2.2.2.1 x_.2.2.2.2.2) (0,M,K,U,c,[]) (rk [0,1,2,4104,4,3,5,6,7]) h ⟨Int.le_refl _,Int.natCast_nonneg _,by show some (jK (ay n E V L).length,[])=_;rw[i2],by rw[<-i2];exact yX.start⟩ fun x_ _ _ _ lS hI h=>?_
 obtain⟨i,M,K,U,c,mt⟩:=x_
 obtain⟨j0,j1,j2,j3⟩:=hI
 dsimp only at j0 j1 j2 j3
 refine aZ [] h fun _ _ h=>?_
 refine av h (fun(q3:i<(S.length:Int))=>?_) (fun(q3:¬(i<(S.length:Int)))=>?_)
 .have hm:(S.getD i.toNat [])∈S:=ag (by omega)
  have QZ:=dO.2 _ hm
  have Q0:=qw j2
  have XQ:0<i->2<=(S.getD (i-1).toNat []).length:=fun h=>Q0 _ (by omega)
  by_cases z1:((S.getD i.toNat []).length:Int)<2
  .refine go (pr:=(bX i S.length)/\(((S.getD i.toNat []).length:Int)<2)) [(58,true)] h ⟨bx,z1⟩ fun _ _ h=>?_
   exact out (((7:Int):Int),()) h (by rw[iS Dy (nI j0 (by omega) j2 (BB j0 (.inl z1)))])
  by_cases z2:(0:Int)<i
  .have ab0:=XQ z2
   refine go (pr:=(bX i S.length)/\(¬(((S.getD i.toNat []).length:Int)<2))/\((0:Int)<i)/\(bX (0:Int) (S.getD i.toNat []).length)/\(bR .i64 (i-1))/\(bX (i-1) S.length)/\(bX (0:Int) (S.getD (i-1).toNat []).length)) [(58,false),(61,true)] h ⟨bx,z1,z2,bx,cz,bx,bx⟩ fun _ _ h=>?_
   refine av h (fun(q4:((S.getD i.toNat []).getD 0 0)<=((S.getD (i-1).toNat []).getD 0 0))=>?_) (fun(q4:¬(((S.getD i.toNat []).getD 0 0)<=((S.getD (i-1).toNat []).getD 0 0)))=>?_)
   .refine aZ [] h fun _ _ h=>?_
    exact out (((7:Int):Int),()) h (by rw[iS Dy (nI j0 (by omega) j2 (BB j0 (.inr ⟨z2,q4⟩)))])
   have WQ:¬(((S.getD i.toNat []).length:Int)<2)/\(¬(0<i)\/¬((S.getD i.toNat []).getD 0 0<=(S.getD (i-1).toNat []).getD 0 0)):=⟨z1,.inr q4⟩
   refine aZ [] h fun _ _ h=>?_
   refine go_loop (Int×(List (Int×Int))×List Int×List Int×Int×(List (Int×Int))) (fun x_=>(fun(k:Int) (M2:List (Int×Int)) (K2:List Int) (U2:List Int) (c2:Int) (nR:List (Int×Int))=>⟨[(5,ep 0),(8,em 1),(10,ep 2),(12,em 3),(13,en i),(14,eo 4),(48,eo 5),(49,en (S.length:Int)),(50,en i),(76,eo 4),(77,en ((S.getD i.toNat []).length:Int)),(78,en k)],[(0,some (.box 30 [.own 6,.own 5])),(1,some (.mL .int .int (bP E (ay n E V L) (aa n E V L T).1 (aa n E V L T).1.length))),(2,some (.box 138 [.mp 7,.own 8,.own 9,.v (.int .i64 c2)])),(3,some (.map .int .int nR)),(4,some (.ar .int (S.getD i.toNat []))),(5,some (.ar (.list .int) S)),(6,some (.ar (.list .int) T)),(7,some (.map .int .int M2)),(8,some (.row 3 .int K2)),(9,some (.row 3 .int U2))],10⟩) x_.1 x_.2.1 x_.2.2.1 x_.2.2.2.1 x_.2.2.2.2.1 x_.2.2.2.2.2) (fun x_=>(fun(k:Int) (M2:List (Int×Int)) (K2:List Int) (U2:List Int) (c2:Int) (nR:List (Int×Int))=>0<=k/\k<=((S.getD i.toNat []).length:Int)/\runK (bP E (ay n E V L) (aa n E V L T).1 (aa n E V L T).1.length) (S.getD i.toNat []) i ((M,K,U,c),mt) k.toNat=some ((M2,K2,U2,c2),nR)/\yX (bP E (ay n E V L) (aa n E V L T).1 (aa n E V L T).1.length) (ay n E V L).length ((M2,K2,U2,c2),nR)) x_.1 x_.2.1 x_.2.2.1 x_.2.2.2.1 x_.2.2.2.2.1 x_.2.2.2.2.2) (fun x_=>(fun(k:Int) (M2:List (Int×Int)) (K2:List Int) (U2:List Int) (c2:Int) (nR:List (Int×Int))=>(((S.getD i.toNat []).length:Int)-k).toNat) x_.1 x_.2.1 x_.2.2.1 x_.2.2.2.1 x_.2.2.2.2.1 x_.2.2.2.2.2) (0,M,K,U,c,mt) (rk [0,1,2,3,12297,4,5,6,7,8]) h ⟨Int.le_refl _,Int.natCast_nonneg _,rfl,j3⟩ fun x_ _ _ _ uf hI h=>?_
   obtain⟨k,M2,K2,U2,c2,nR⟩:=x_
   obtain⟨k0,k1,k2,k3⟩:=hI
   dsimp only at k0 k1 k2 k3
   refine aZ [] h fun _ _ h=>?_
   refine av h (fun(q5:k<((S.getD i.toNat []).length:Int))=>?_) (fun(q5:¬(k<((S.getD i.toNat []).length:Int)))=>?_)
   .have QX:=e6 _ hm _ (ag (l:=(S.getD i.toNat [])) (i:=k.toNat) (d:=0) (by omega))
    have wJ:=k3.nG Q5
    change nR.length<=100000 at wJ
    have WR:0<k.toNat->(af (bP E (ay n E V L) (aa n E V L T).1 (aa n E V L T).1.length) ((S.getD i.toNat []).getD 0 0)).isSome=true:=fun h=>oM h k2
    have gh:gT M2 K2 U2:=k3.ok.rep
    have XU:K2.length=(ay n E V L).length:=k3.len
    have M4:0<=c2/\c2<=(K2.length:Int):=k3.ok.bd
    have aby:=e6 _ hm _ (ag (l:=(S.getD i.toNat [])) (i:=0) (d:=0) (by omega))
    refine go (pr:=(bX k (S.getD i.toNat []).length)/\(cA .int ((S.getD i.toNat []).getD k.toNat 0))/\(cA .int ((S.getD i.toNat []).getD k.toNat 0))/\(((((af (bP E (ay n E V L) (aa n E V L T).1 (aa n E V L T).1.length) ((S.getD i.toNat []).getD k.toNat 0)).isSome)=true)/\(((af nR ((S.getD i.toNat []).getD k.toNat 0)).isSome)=false))->((0:Int)<k)->(bR .i64 (k-1)))/\(((((af (bP E (ay n E V L) (aa n E V L T).1 (aa n E V L T).1.length) ((S.getD i.toNat []).getD k.toNat 0)).isSome)=true)/\(((af nR ((S.getD i.toNat []).getD k.toNat 0)).isSome)=false))->((0:Int)<k)->(bX (k-1) (S.getD i.toNat []).length))) [] h ⟨bx,wk,wk,fun _ _=>cz,fun _ _=>bx⟩ fun _ _ h=>?_
    refine av h (fun(q6:((((af (bP E (ay n E V L) (aa n E V L T).1 (aa n E V L T).1.length) ((S.getD i.toNat []).getD k.toNat 0)).isSome)=false)\/(((af nR ((S.getD i.toNat []).getD k.toNat 0)).isSome)=true))\/(((0:Int)<k)/\(((S.getD i.toNat []).getD k.toNat 0)<=((S.getD i.toNat []).getD (k-1).toNat 0))))=>?_) (fun(q6:((((af (bP E (ay n E V L) (aa n E V L T).1 (aa n E V L T).1.length) ((S.getD i.toNat []).getD k.toNat 0)).isSome)=true)/\(((af nR ((S.getD i.toNat []).getD k.toNat 0)).isSome)=false))/\((¬((0:Int)<k))\/(¬(((S.getD i.toNat []).getD k.toNat 0)<=((S.getD i.toNat []).getD (k-1).toNat 0)))))=>?_)
    .refine aZ [] h fun _ _ h=>?_
     exact out (((7:Int):Int),()) h (by rw[iS Dy (nI j0 (by omega) j2 (by rw[rF j0 WQ];exact nH (k:=(k+1).toNat) (by rw[rE k0 k2];exact E4 (z:=((M2,K2,U2,c2),nR)) k0 q6) (by omega)))])
    have hq5:=q6
    have HF:=BC (i:=i) (z:=((M2,K2,U2,c2),nR)) k0 hq5
    have GD:=(rE k0 k2).trans HF
    by_cases z1:(0:Int)<k
    .obtain⟨v0,v1⟩:=Q5.at_ (WR (by omega))
     obtain⟨v2,v3⟩:=Q5.at_ hq5.1.1
     refine go (pr:=(cA .int ((S.getD i.toNat []).getD k.toNat 0))/\(nR.length<=2147483647)/\((0:Int)<k)/\(bX (0:Int) (S.getD i.toNat []).length)/\(cA .int ((S.getD i.toNat []).getD 0 0))/\((-9223372036854775808<=((af (bP E (ay n E V L) (aa n E V L T).1 (aa n E V L T).1.length) ((S.getD i.toNat []).getD 0 0)).getD 0)/\((af (bP E (ay n E V L) (aa n E V L T).1 (aa n E V L T).1.length) ((S.getD i.toNat []).getD 0 0)).getD 0)<=9223372036854775807)/\(-9223372036854775808<=((af (bP E (ay n E V L) (aa n E V L T).1 (aa n E V L T).1.length) ((S.getD i.toNat []).getD k.toNat 0)).getD 0)/\((af (bP E (ay n E V L) (aa n E V L T).1 (aa n E V L T).1.length) ((S.getD i.toNat []).getD k.toNat 0)).getD 0)<=9223372036854775807)/\gT M2 K2 U2/\K2.length<=900000/\-900000<=c2/\c2<=900000)) [(118,true)] h ⟨wk,ln,z1,bx,wk,⟨⟨by omega,by omega⟩,⟨by omega,by omega⟩,gh,by omega,by omega,by omega⟩⟩ fun _ _ h=>?_
     refine av h (fun(q7:(LR M2 K2 U2 ((af (bP E (ay n E V L) (aa n E V L T).1 (aa n E V L T).1.length) ((S.getD i.toNat []).getD 0 0)).getD 0) ((af (bP E (ay n E V L) (aa n E V L T).1 (aa n E V L T).1.length) ((S.getD i.toNat []).getD k.toNat 0)).getD 0))=false)=>?_) (fun(q7:(LR M2 K2 U2 ((af (bP E (ay n E V L) (aa n E V L T).1 (aa n E V L T).1.length) ((S.getD i.toNat []).getD 0 0)).getD 0) ((af (bP E (ay n E V L) (aa n E V L T).1 (aa n E V L T).1.length) ((S.getD i.toNat []).getD k.toNat 0)).getD 0))=true)=>?_)
     .refine aZ [] h fun _ _ h=>?_
      exact out (((7:Int):Int),()) h (by rw[iS Dy (nI j0 (by omega) j2 (by rw[rF j0 WQ];exact nH (k:=(k+1).toNat) (by rw[GD,if_neg (by omega)];exact if_neg (by show ¬LR M2 K2 U2 _ _=true;rw[q7];decide)) (by omega)))])
     refine go (pr:=(bR .i64 (k+1))) [] h cz fun _ _ h=>?_
     have h3:yX (bP E (ay n E V L) (aa n E V L T).1 (aa n E V L T).1.length) (ay n E V L).length ((QY M2 K2 ((af (bP E (ay n E V L) (aa n E V L T).1 (aa n E V L T).1.length) ((S.getD i.toNat []).getD 0 0)).getD 0) ((af (bP E (ay n E V L) (aa n E V L T).1 (aa n E V L T).1.length) ((S.getD i.toNat []).getD k.toNat 0)).getD 0),LQ M2 K2 ((af (bP E (ay n E V L) (aa n E V L T).1 (aa n E V L T).1.length) ((S.getD i.toNat []).getD 0 0)).getD 0) ((af (bP E (ay n E V L) (aa n E V L T).1 (aa n E V L T).1.length) ((S.getD i.toNat []).getD k.toNat 0)).getD 0),I9 M2 K2 U2 ((af (bP E (ay n E V L) (aa n E V L T).1 (aa n E V L T).1.length) ((S.getD i.toNat []).getD 0 0)).getD 0) ((af (bP E (ay n E V L) (aa n E V L T).1 (aa n E V L T).1.length) ((S.getD i.toNat []).getD k.toNat 0)).getD 0),E3 M2 K2 U2 c2 ((af (bP E (ay n E V L) (aa n E V L T).1 (aa n E V L T).1.length) ((S.getD i.toNat []).getD 0 0)).getD 0) ((af (bP E (ay n E V L) (aa n E V L T).1 (aa n E V L T).1.length) ((S.getD i.toNat []).getD k.toNat 0)).getD 0)),(b9 nR ((S.getD i.toNat []).getD k.toNat 0) i)):=tX (i:=i) (k:=k.toNat) Q5 WR k3 (by rw[HF,if_neg (by omega)];exact if_pos q7)
     exact dR (uf (k+1,QY M2 K2 ((af (bP E (ay n E V L) (aa n E V L T).1 (aa n E V L T).1.length) ((S.getD i.toNat []).getD 0 0)).getD 0) ((af (bP E (ay n E V L) (aa n E V L T).1 (aa n E V L T).1.length) ((S.getD i.toNat []).getD k.toNat 0)).getD 0),LQ M2 K2 ((af (bP E (ay n E V L) (aa n E V L T).1 (aa n E V L T).1.length) ((S.getD i.toNat []).getD 0 0)).getD 0) ((af (bP E (ay n E V L) (aa n E V L T).1 (aa n E V L T).1.length) ((S.getD i.toNat []).getD k.toNat 0)).getD 0),I9 M2 K2 U2 ((af (bP E (ay n E V L) (aa n E V L T).1 (aa n E V L T).1.length) ((S.getD i.toNat []).getD 0 0)).getD 0) ((af (bP E (ay n E V L) (aa n E V L T).1 (aa n E V L T).1.length) ((S.getD i.toNat []).getD k.toNat 0)).getD 0),E3 M2 K2 U2 c2 ((af (bP E (ay n E V L) (aa n E V L T).1 (aa n E V L T).1.length) ((S.getD i.toNat []).getD 0 0)).getD 0) ((af (bP E (ay n E V L) (aa n E V L T).1 (aa n E V L T).1.length) ((S.getD i.toNat []).getD k.toNat 0)).getD 0),(b9 nR ((S.getD i.toNat []).getD k.toNat 0) i)) (rk [0,1,2,3,4,5,6,221195,221196,221197]) h ⟨by dsimp only;omega,by dsimp only;omega,by dsimp only;rw[GD,if_neg (by omega)];exact if_pos q7,h3⟩ (by dsimp only;omega))
    refine go (pr:=(cA .int ((S.getD i.toNat []).getD k.toNat 0))/\(nR.length<=2147483647)/\(¬((0:Int)<k))/\(bR .i64 (k+1))) [(118,false)] h ⟨wk,ln,z1,cz⟩ fun _ _ h=>?_
    have h3:yX (bP E (ay n E V L) (aa n E V L T).1 (aa n E V L T).1.length) (ay n E V L).length ((M2,K2,U2,c2),(b9 nR ((S.getD i.toNat []).getD k.toNat 0) i)):=tX (i:=i) (k:=k.toNat) Q5 WR k3 (by rw[HF,if_pos (by omega)])
    exact dR (uf (k+1,M2,K2,U2,c2,(b9 nR ((S.getD i.toNat []).getD k.toNat 0) i)) (ir 10) h ⟨by dsimp only;omega,by dsimp only;omega,by dsimp only;rw[GD,if_pos (by omega)],h3⟩ (by dsimp only;omega))
   have zm:k.toNat=(S.getD i.toNat []).length:=by omega
   rw[zm] at k2
   refine go (pr:=(bR .i64 (i+1))) [] h cz fun _ _ h=>?_
   exact dR (lS (i+1,M2,K2,U2,c2,nR) (rk [0,1,2,3,5,6,7,8,9]) h ⟨by dsimp only;omega,by dsimp only;omega,by dsimp only;rw[ve j0 j2,rF j0 WQ];exact k2,k3⟩ (by dsimp only;omega))
  have WQ:¬(((S.getD i.toNat []).length:Int)<2)/\(¬(0<i)\/¬((S.getD i.toNat []).getD 0 0<=(S.getD (i-1).toNat []).getD 0 0)):=⟨z1,.inl z2⟩
  refine go (pr:=(bX i S.length)/\(¬(((S.getD i.toNat []).length:Int)<2))/\(¬((0:Int)<i))) [(58,false),(61,false)] h ⟨bx,z1,z2⟩ fun _ _ h=>?_
  refine go_loop (Int×(List (Int×Int))×List Int×List Int×Int×(List (Int×Int))) (fun x_=>(fun(k:Int) (M2:List (Int×Int)) (K2:List Int) (U2:List Int) (c2:Int) (nR:List (Int×Int))=>⟨[(5,ep 0),(8,em 1),(10,ep 2),(12,em 3),(13,en i),(14,eo 4),(48,eo 5),(49,en (S.length:Int)),(50,en i),(76,eo 4),(77,en ((S.getD i.toNat []).length:Int)),(78,en k)],[(0,some (.box 30 [.own 6,.own 5])),(1,some (.mL .int .int (bP E (ay n E V L) (aa n E V L T).1 (aa n E V L T).1.length))),(2,some (.box 138 [.mp 7,.own 8,.own 9,.v (.int .i64 c2)])),(3,some (.map .int .int nR)),(4,some (.ar .int (S.getD i.toNat []))),(5,some (.ar (.list .int) S)),(6,some (.ar (.list .int) T)),(7,some (.map .int .int M2)),(8,some (.row 3 .int K2)),(9,some (.row 3 .int U2))],10⟩) x_.1 x_.2.1 x_.2.2.1 x_.2.2.2.1 x_.2.2.2.2.1 x_.2.2.2.2.2) (fun x_=>(fun(k:Int) (M2:List (Int×Int)) (K2:List Int) (U2:List Int) (c2:Int) (nR:List (Int×Int))=>0<=k/\k<=((S.getD i.toNat []).length:Int)/\runK (bP E (ay n E V L) (aa n E V L T).1 (aa n E V L T).1.length) (S.getD i.toNat []) i ((M,K,U,c),mt) k.toNat=some ((M2,K2,U2,c2),nR)/\yX (bP E (ay n E V L) (aa n E V L T).1 (aa n E V L T).1.length) (ay n E V L).length ((M2,K2,U2,c2),nR)) x_.1 x_.2.1 x_.2.2.1 x_.2.2.2.1 x_.2.2.2.2.1 x_.2.2.2.2.2) (fun x_=>(fun(k:Int) (M2:List (Int×Int)) (K2:List Int) (U2:List Int) (c2:Int) (nR:List (Int×Int))=>(((S.getD i.toNat []).length:Int)-k).toNat) x_.1 x_.2.1 x_.2.2.1 x_.2.2.2.1 x_.2.2.2.2.1 x_.2.2.2.2.2) (0,M,K,U,c,mt) (rk [0,1,2,3,12297,4,5,6,7,8]) h ⟨Int.le_refl _,Int.natCast_nonneg _,rfl,j3⟩ fun x_ _ _ _ DA hI h=>?_
  obtain⟨k,M2,K2,U2,c2,nR⟩:=x_
  obtain⟨k0,k1,k2,k3⟩:=hI
  dsimp only at k0 k1 k2 k3
  refine aZ [] h fun _ _ h=>?_
  refine av h (fun(q8:k<((S.getD i.toNat []).length:Int))=>?_) (fun(q8:¬(k<((S.getD i.toNat []).length:Int)))=>?_)
  .have QX:=e6 _ hm _ (ag (l:=(S.getD i.toNat [])) (i:=k.toNat) (d:=0) (by omega))
   have wJ:=k3.nG Q5
   change nR.length<=100000 at wJ
   have WR:0<k.toNat->(af (bP E (ay n E V L) (aa n E V L T).1 (aa n E V L T).1.length) ((S.getD i.toNat []).getD 0 0)).isSome=true:=fun h=>oM h k2
   have gh:gT M2 K2 U2:=k3.ok.rep
   have XU:K2.length=(ay n E V L).length:=k3.len
   have M4:0<=c2/\c2<=(K2.length:Int):=k3.ok.bd
   have aby:=e6 _ hm _ (ag (l:=(S.getD i.toNat [])) (i:=0) (d:=0) (by omega))
   refine go (pr:=(bX k (S.getD i.toNat []).length)/\(cA .int ((S.getD i.toNat []).getD k.toNat 0))/\(cA .int ((S.getD i.toNat []).getD k.toNat 0))/\(((((af (bP E (ay n E V L) (aa n E V L T).1 (aa n E V L T).1.length) ((S.getD i.toNat []).getD k.toNat 0)).isSome)=true)/\(((af nR ((S.getD i.toNat []).getD k.toNat 0)).isSome)=false))->((0:Int)<k)->(bR .i64 (k-1)))/\(((((af (bP E (ay n E V L) (aa n E V L T).1 (aa n E V L T).1.length) ((S.getD i.toNat []).getD k.toNat 0)).isSome)=true)/\(((af nR ((S.getD i.toNat []).getD k.toNat 0)).isSome)=false))->((0:Int)<k)->(bX (k-1) (S.getD i.toNat []).length))) [] h ⟨bx,wk,wk,fun _ _=>cz,fun _ _=>bx⟩ fun _ _ h=>?_
   refine av h (fun(q9:((((af (bP E (ay n E V L) (aa n E V L T).1 (aa n E V L T).1.length) ((S.getD i.toNat []).getD k.toNat 0)).isSome)=false)\/(((af nR ((S.getD i.toNat []).getD k.toNat 0)).isSome)=true))\/(((0:Int)<k)/\(((S.getD i.toNat []).getD k.toNat 0)<=((S.getD i.toNat []).getD (k-1).toNat 0))))=>?_) (fun(q9:((((af (bP E (ay n E V L) (aa n E V L T).1 (aa n E V L T).1.length) ((S.getD i.toNat []).getD k.toNat 0)).isSome)=true)/\(((af nR ((S.getD i.toNat []).getD k.toNat 0)).isSome)=false))/\((¬((0:Int)<k))\/(¬(((S.getD i.toNat []).getD k.toNat 0)<=((S.getD i.toNat []).getD (k-1).toNat 0)))))=>?_)
   .refine aZ [] h fun _ _ h=>?_
    exact out (((7:Int):Int),()) h (by rw[iS Dy (nI j0 (by omega) j2 (by rw[rF j0 WQ];exact nH (k:=(k+1).toNat) (by rw[rE k0 k2];exact E4 (z:=((M2,K2,U2,c2),nR)) k0 q9) (by omega)))])
   have hq5:=q9
   have HF:=BC (i:=i) (z:=((M2,K2,U2,c2),nR)) k0 hq5
   have GD:=(rE k0 k2).trans HF
   by_cases z2:(0:Int)<k
   .obtain⟨v0,v1⟩:=Q5.at_ (WR (by omega))
    obtain⟨v2,v3⟩:=Q5.at_ hq5.1.1
    refine go (pr:=(cA .int ((S.getD i.toNat []).getD k.toNat 0))/\(nR.length<=2147483647)/\((0:Int)<k)/\(bX (0:Int) (S.getD i.toNat []).length)/\(cA .int ((S.getD i.toNat []).getD 0 0))/\((-9223372036854775808<=((af (bP E (ay n E V L) (aa n E V L T).1 (aa n E V L T).1.length) ((S.getD i.toNat []).getD 0 0)).getD 0)/\((af (bP E (ay n E V L) (aa n E V L T).1 (aa n E V L T).1.length) ((S.getD i.toNat []).getD 0 0)).getD 0)<=9223372036854775807)/\(-9223372036854775808<=((af (bP E (ay n E V L) (aa n E V L T).1 (aa n E V L T).1.length) ((S.getD i.toNat []).getD k.toNat 0)).getD 0)/\((af (bP E (ay n E V L) (aa n E V L T).1 (aa n E V L T).1.length) ((S.getD i.toNat []).getD k.toNat 0)).getD 0)<=9223372036854775807)/\gT M2 K2 U2/\K2.length<=900000/\-900000<=c2/\c2<=900000)) [(118,true)] h ⟨wk,ln,z2,bx,wk,⟨⟨by omega,by omega⟩,⟨by omega,by omega⟩,gh,by omega,by omega,by omega⟩⟩ fun _ _ h=>?_
    refine av h (fun(q10:(LR M2 K2 U2 ((af (bP E (ay n E V L) (aa n E V L T).1 (aa n E V L T).1.length) ((S.getD i.toNat []).getD 0 0)).getD 0) ((af (bP E (ay n E V L) (aa n E V L T).1 (aa n E V L T).1.length) ((S.getD i.toNat []).getD k.toNat 0)).getD 0))=false)=>?_) (fun(q10:(LR M2 K2 U2 ((af (bP E (ay n E V L) (aa n E V L T).1 (aa n E V L T).1.length) ((S.getD i.toNat []).getD 0 0)).getD 0) ((af (bP E (ay n E V L) (aa n E V L T).1 (aa n E V L T).1.length) ((S.getD i.toNat []).getD k.toNat 0)).getD 0))=true)=>?_)
    .refine aZ [] h fun _ _ h=>?_
     exact out (((7:Int):Int),()) h (by rw[iS Dy (nI j0 (by omega) j2 (by rw[rF j0 WQ];exact nH (k:=(k+1).toNat) (by rw[GD,if_neg (by omega)];exact if_neg (by show ¬LR M2 K2 U2 _ _=true;rw[q10];decide)) (by omega)))])
    refine go (pr:=(bR .i64 (k+1))) [] h cz fun _ _ h=>?_
    have h3:yX (bP E (ay n E V L) (aa n E V L T).1 (aa n E V L T).1.length) (ay n E V L).length ((QY M2 K2 ((af (bP E (ay n E V L) (aa n E V L T).1 (aa n E V L T).1.length) ((S.getD i.toNat []).getD 0 0)).getD 0) ((af (bP E (ay n E V L) (aa n E V L T).1 (aa n E V L T).1.length) ((S.getD i.toNat []).getD k.toNat 0)).getD 0),LQ M2 K2 ((af (bP E (ay n E V L) (aa n E V L T).1 (aa n E V L T).1.length) ((S.getD i.toNat []).getD 0 0)).getD 0) ((af (bP E (ay n E V L) (aa n E V L T).1 (aa n E V L T).1.length) ((S.getD i.toNat []).getD k.toNat 0)).getD 0),I9 M2 K2 U2 ((af (bP E (ay n E V L) (aa n E V L T).1 (aa n E V L T).1.length) ((S.getD i.toNat []).getD 0 0)).getD 0) ((af (bP E (ay n E V L) (aa n E V L T).1 (aa n E V L T).1.length) ((S.getD i.toNat []).getD k.toNat 0)).getD 0),E3 M2 K2 U2 c2 ((af (bP E (ay n E V L) (aa n E V L T).1 (aa n E V L T).1.length) ((S.getD i.toNat []).getD 0 0)).getD 0) ((af (bP E (ay n E V L) (aa n E V L T).1 (aa n E V L T).1.length) ((S.getD i.toNat []).getD k.toNat 0)).getD 0)),(b9 nR ((S.getD i.toNat []).getD k.toNat 0) i)):=tX (i:=i) (k:=k.toNat) Q5 WR k3 (by rw[HF,if_neg (by omega)];exact if_pos q10)
    exact dR (DA (k+1,QY M2 K2 ((af (bP E (ay n E V L) (aa n E V L T).1 (aa n E V L T).1.length) ((S.getD i.toNat []).getD 0 0)).getD 0) ((af (bP E (ay n E V L) (aa n E V L T).1 (aa n E V L T).1.length) ((S.getD i.toNat []).getD k.toNat 0)).getD 0),LQ M2 K2 ((af (bP E (ay n E V L) (aa n E V L T).1 (aa n E V L T).1.length) ((S.getD i.toNat []).getD 0 0)).getD 0) ((af (bP E (ay n E V L) (aa n E V L T).1 (aa n E V L T).1.length) ((S.getD i.toNat []).getD k.toNat 0)).getD 0),I9 M2 K2 U2 ((af (bP E (ay n E V L) (aa n E V L T).1 (aa n E V L T).1.length) ((S.getD i.toNat []).getD 0 0)).getD 0) ((af (bP E (ay n E V L) (aa n E V L T).1 (aa n E V L T).1.length) ((S.getD i.toNat []).getD k.toNat 0)).getD 0),E3 M2 K2 U2 c2 ((af (bP E (ay n E V L) (aa n E V L T).1 (aa n E V L T).1.length) ((S.getD i.toNat []).getD 0 0)).getD 0) ((af (bP E (ay n E V L) (aa n E V L T).1 (aa n E V L T).1.length) ((S.getD i.toNat []).getD k.toNat 0)).getD 0),(b9 nR ((S.getD i.toNat []).getD k.toNat 0) i)) (rk [0,1,2,3,4,5,6,221195,221196,221197]) h ⟨by dsimp only;omega,by dsimp only;omega,by dsimp only;rw[GD,if_neg (by omega)];exact if_pos q10,h3⟩ (by dsimp only;omega))
   refine go (pr:=(cA .int ((S.getD i.toNat []).getD k.toNat 0))/\(nR.length<=2147483647)/\(¬((0:Int)<k))/\(bR .i64 (k+1))) [(118,false)] h ⟨wk,ln,z2,cz⟩ fun _ _ h=>?_
   have h3:yX (bP E (ay n E V L) (aa n E V L T).1 (aa n E V L T).1.length) (ay n E V L).length ((M2,K2,U2,c2),(b9 nR ((S.getD i.toNat []).getD k.toNat 0) i)):=tX (i:=i) (k:=k.toNat) Q5 WR k3 (by rw[HF,if_pos (by omega)])
   exact dR (DA (k+1,M2,K2,U2,c2,(b9 nR ((S.getD i.toNat []).getD k.toNat 0) i)) (ir 10) h ⟨by dsimp only;omega,by dsimp only;omega,by dsimp only;rw[GD,if_pos (by omega)],h3⟩ (by dsimp only;omega))
  have zm:k.toNat=(S.getD i.toNat []).length:=by omega
  rw[zm] at k2
  refine go (pr:=(bR .i64 (i+1))) [] h cz fun _ _ h=>?_
  exact dR (lS (i+1,M2,K2,U2,c2,nR) (rk [0,1,2,3,5,6,7,8,9]) h ⟨by dsimp only;omega,by dsimp only;omega,by dsimp only;rw[ve j0 j2,rF j0 WQ];exact k2,k3⟩ (by dsimp only;omega))
 have abz:i.toNat=S.length:=by omega
 rw[abz] at j2
 refine go (pr:=True) [] h tv fun _ _ h=>?_
 refine av h (fun(q11:(1:Int)<c)=>?_) (fun(q11:¬((1:Int)<c))=>?_)
 .refine aZ [] h fun _ _ h=>?_
  exact out (((7:Int):Int),()) h (by rw[sO Dy j2];exact congrArg (·,()) (if_pos q11).symm)
 refine aZ [] h fun _ _ h=>?_
 exact out (((0:Int):Int),()) h (by rw[sO Dy j2];exact congrArg (·,()) (if_neg q11).symm)
def qA:dy Tryz.prog:=plain PO
theorem PR:bG Tryz.prog 14 [(false,(.pair nv (.pair kI (.pair (.list (.list .int)) (.list (.list .int))))))] [.int] (fun x=>cF (I_ x.1.1.1)/\aC (K_ x.1.2.2.1)/\az (K_ x.1.2.2.1)/\aC (K_ x.1.2.2.2)/\az (K_ x.1.2.2.2)) (fun x=>(jw (I_ x.1.1.1) (E_ x.1.1.2) (J_ x.1.2.1.1) (J_ x.1.2.1.2) (K_ x.1.2.2.1) (K_ x.1.2.2.2),())):=by
 refine bn Tryz.f14 19 [qA,tY] Tryz.func14 fun o x hd _ _ h=>?_
 obtain⟨⟨⟨(n:Int),(E:List (Int×Int))⟩,⟨⟨(V:List Int),(L:List Int)⟩,⟨(T:List (List Int)),(S:List (List Int))⟩⟩⟩,_⟩:=x
 have jt:=mh h 0 E
 have gE:=dh h 1 V
 have gH:=dh h 2 L
 have lT:=gC h 3 T
 have Am:=gC h 4 S
 change cF n/\aC T/\az T/\aC S/\az S at hd
 obtain⟨hn,eS,dc,e6,dO⟩:=hd
 refine go (pr:=(cF n)) [] h hn fun _ _ h=>?_
 refine av h (fun(q1:¬(aS n E V L=0))=>?_) (fun(q1:aS n E V L=0)=>?_)
 .refine aZ [] h fun _ _ h=>?_
  exact out ((aS n E V L:Int),()) h (by unfold jw;rw[if_pos q1])
 refine go (pr:=(cF n/\aC T/\az T/\aC S/\az S)) [] h (⟨hn,eS,dc,e6,dO⟩) fun _ _ h=>?_
 exact out ((aM n E V L T S:Int),()) h (by unfold jw;rw[if_neg (by rw[show aS n E V L=0 from q1];exact fun q=>q rfl)])
def Fs:dy Tryz.prog:=plain PR
theorem PS:bG Tryz.prog 20 [(false,(.pair nv (.pair kI (.pair (.list (.list .int)) (.list (.list .int)))))),(false,(.pair (.list (.list .int)) (.list (.list .int))))] [.int] (fun x=>cF (I_ x.1.1.1)/\aC (K_ x.1.2.2.1)/\az (K_ x.1.2.2.1)/\aC (K_ x.1.2.2.2)/\az (K_ x.1.2.2.2)/\aC (K_ x.2.1.1)/\az (K_ x.2.1.1)/\aC (K_ x.2.1.2)/\az (K_ x.2.1.2)) (fun x=>(cC (I_ x.1.1.1) (E_ x.1.1.2) (J_ x.1.2.1.1) (J_ x.1.2.1.2) (K_ x.1.2.2.1) (K_ x.1.2.2.2) (K_ x.2.1.1) (K_ x.2.1.2),())):=by
 refine bn Tryz.f20 18 [Fs,qA,C4] Tryz.func20 fun o x hd _ _ h=>?_
 obtain⟨⟨⟨(n:Int),(E:List (Int×Int))⟩,⟨⟨(V:List Int),(L:List Int)⟩,⟨(T:List (List Int)),(S:List (List Int))⟩⟩⟩,⟨(U:List (List Int)),(R:List (List Int))⟩,_⟩:=x
 have jt:=mh h 0 E
 have gE:=dh h 1 V
 have gH:=dh h 2 L
 have lT:=gC h 3 T
 have Am:=gC h 4 S
 have L1:=gC h 5 U
 have SQ:=gC h 6 R
 change cF n/\aC T/\az T/\aC S/\az S/\aC U/\az U/\aC R/\az R at hd
 obtain⟨hn,eS,dc,e6,dO,qC,oO,qD,pL⟩:=hd
 refine go (pr:=(cF n/\aC T/\az T/\aC S/\az S)) [] h (⟨hn,eS,dc,e6,dO⟩) fun _ _ h=>?_
 refine av h (fun(q1:¬(jw n E V L T S=0))=>?_) (fun(q1:jw n E V L T S=0)=>?_)
 .refine aZ [] h fun _ _ h=>?_
  exact out ((jw n E V L T S:Int),()) h (by unfold cC;rw[if_pos q1])
 refine go (pr:=(cF n)/\(cF n/\aC U/\az U/\aC R/\az R)) [] h ⟨hn,⟨hn,qC,oO,qD,pL⟩⟩ fun _ _ h=>?_
 exact out ((aM n E ((aR n E).1) ((aR n E).2) U R:Int),()) h (by unfold cC;rw[if_neg (by rw[show jw n E V L T S=0 from q1];exact fun q=>q rfl)])
def zn:dy Tryz.prog:=plain PS
theorem Tf:bG Tryz.prog 41 [(false,(.list .int)),(false,(.list .int))] [.bool] (fun _=>True) (fun x=>(decide ((J_ x.1)=(J_ x.2.1)),())):=by
 refine bn Tryz.f41 26 [] Tryz.func41 fun o x hd _ _ h=>?_
 obtain⟨(l:List Int),(m:List Int),_⟩:=x
 have jt:=dh h 0 l
 have gE:=dh h 1 m
 refine aZ [] h fun _ _ h=>?_
 refine av h (fun(q1:¬((l.length:Int)=(m.length:Int)))=>?_) (fun(q1:(l.length:Int)=(m.length:Int))=>?_)
 .refine aZ [] h fun _ _ h=>?_
  exact out ((false:Bool),()) h (by rw[VV q1])
 have hle:=q1
 refine aZ [] h fun _ _ h=>?_
 refine go_loop (Int) (fun i=>⟨[(0,eo 0),(1,eo 1),(12,en (l.length:Int)),(13,en i)],[(0,some (.ar .int l)),(1,some (.ar .int m))],2⟩) (fun i=>0<=i/\i<=(l.length:Int)/\∀j:Nat,(j:Int)<i->l.getD j 0=m.getD j 0) (fun i=>((l.length:Int)-i).toNat) (0) (ir 2) h ⟨Int.le_refl _,Int.natCast_nonneg _,fun j hj=>by omega⟩ fun i _ _ _ eH hI h=>?_
 obtain⟨i0,i1,i2⟩:=hI
 refine aZ [] h fun _ _ h=>?_
 refine av h (fun(q2:i<(l.length:Int))=>?_) (fun(q2:¬(i<(l.length:Int)))=>?_)
 .refine go (pr:=(bX i l.length)/\(bX i m.length)) [] h ⟨bx,bx⟩ fun _ _ h=>?_
  refine av h (fun(q3:¬((l.getD i.toNat 0)=(m.getD i.toNat 0)))=>?_) (fun(q3:(l.getD i.toNat 0)=(m.getD i.toNat 0))=>?_)
  .refine aZ [] h fun _ _ h=>?_
   exact out ((false:Bool),()) h (by rw[Zm i0 q3])
  refine go (pr:=(bR .i64 (i+1))) [] h cz fun _ _ h=>?_
  exact dR (eH (i+1) (ir 2) h ⟨by omega,by omega,fun j hj=>if z:(j:Int)<i then i2 j z else by rw[show j=i.toNat by omega];exact q3⟩ (by omega))
 refine aZ [] h fun _ _ h=>?_
 exact out ((true:Bool),()) h (by rw[VW hle (i:=i) (by omega) i2])
def JB:dy Tryz.prog:=plain Tf
theorem Tg:bG Tryz.prog 24 [(false,(.list .int)),(false,(.list .int))] [.bool] (fun _=>True) (fun x=>(kE (J_ x.1) (J_ x.2.1),())):=by
 refine bn Tryz.f24 41 [JB] Tryz.func24 fun o x hd _ _ h=>?_
 obtain⟨(l:List Int),(b:List Int),_⟩:=x
 have jt:=dh h 0 l
 have gE:=dh h 1 b
 refine aZ [] h fun _ _ h=>?_
 refine av h (fun(q1:¬((l.length:Int)=(b.length:Int)))=>?_) (fun(q1:(l.length:Int)=(b.length:Int))=>?_)
 .refine aZ [] h fun _ _ h=>?_
  exact out ((false:Bool),()) h (by rw[Pe q1])
 have hle:=q1
 refine aZ [] h fun _ _ h=>?_
 refine go_loop (Int) (fun i=>⟨[(0,eo 0),(1,eo 1),(5,en (l.length:Int)),(14,en (b.length:Int)),(15,en i)],[(0,some (.ar .int l)),(1,some (.ar .int b))],2⟩) (fun i=>0<=i/\i<=(b.length:Int)/\∀j:Nat,(j:Int)<i->¬SO l b j) (fun i=>((b.length:Int)-i).toNat) (0) (ir 2) h ⟨Int.le_refl _,Int.natCast_nonneg _,fun j hj=>by omega⟩ fun i _ _ _ eH hI h=>?_
 obtain⟨i0,i1,i2⟩:=hI
 refine aZ [] h fun _ _ h=>?_
 refine av h (fun(q2:i<(b.length:Int))=>?_) (fun(q2:¬(i<(b.length:Int)))=>?_)
 .by_cases z1:decide ((l.take ((l.length:Int)-i).toNat)=(b.drop i.toNat))=true
  .refine go (pr:=(bR .i64 ((l.length:Int)-i))/\(0<=(l.length:Int)-i/\(l.length:Int)-i<=(l.length:Int))/\(0<=i/\i<=(b.length:Int))/\True/\((decide ((l.take ((l.length:Int)-i).toNat)=(b.drop i.toNat)))=true)/\(bR .i64 ((l.length:Int)-i))/\(0<=(l.length:Int)-i/\(l.length:Int)-i<=(l.length:Int))/\(0<=i/\i<=(b.length:Int))/\True) [(27,true)] h ⟨cz,ct,ct,tv,z1,cz,ct,ct,tv⟩ fun _ _ h=>?_
   refine av h (fun(q3:(decide ((l.drop ((l.length:Int)-i).toNat)=(b.take i.toNat)))=true)=>?_) (fun(q3:(decide ((l.drop ((l.length:Int)-i).toNat)=(b.take i.toNat)))=false)=>?_)
   .refine aZ [] h fun _ _ h=>?_
    exact out ((true:Bool),()) h (by rw[Pf hle (i:=i.toNat) (by omega) ((Pd i0 (by omega)).2 ⟨of_decide_eq_true z1,of_decide_eq_true q3⟩)])
   refine go (pr:=(bR .i64 (i+1))) [] h cz fun _ _ h=>?_
   exact dR (eH (i+1) (ir 2) h ⟨by omega,by omega,fun j hj=>if z:(j:Int)<i then i2 j z else by rw[show j=i.toNat by omega,Pd i0 (by omega)];exact fun q=>absurd (decide_eq_true q.2) (by rw[q3];decide)⟩ (by omega))
  refine go (pr:=(bR .i64 ((l.length:Int)-i))/\(0<=(l.length:Int)-i/\(l.length:Int)-i<=(l.length:Int))/\(0<=i/\i<=(b.length:Int))/\True/\((decide ((l.take ((l.length:Int)-i).toNat)=(b.drop i.toNat)))=false)/\(bR .i64 (i+1))) [(27,false)] h ⟨cz,ct,ct,tv,(Bool.eq_false_iff.2 z1),cz⟩ fun _ _ h=>?_
  exact dR (eH (i+1) (ir 2) h ⟨by omega,by omega,fun j hj=>if z:(j:Int)<i then i2 j z else by rw[show j=i.toNat by omega,Pd i0 (by omega)];exact fun q=>z1 (decide_eq_true q.1)⟩ (by omega))
 refine aZ [] h fun _ _ h=>?_
 exact out ((decide ((l.length:Int)=0):Bool),()) h (by rw[<-Pg hle (fun j hj=>i2 j (by omega))])
def Th:dy Tryz.prog:=plain Tg
theorem Ti:bG Tryz.prog 8 [(false,(.pair nv (.pair kI (.pair (.list (.list .int)) (.list (.list .int)))))),(false,(.pair (.list (.list .int)) (.list (.list .int))))] [.int,.bool] (fun x=>cF (I_ x.1.1.1)/\aC (K_ x.1.2.2.1)/\az (K_ x.1.2.2.1)/\aC (K_ x.1.2.2.2)/\az (K_ x.1.2.2.2)/\aC (K_ x.2.1.1)/\az (K_ x.2.1.1)/\aC (K_ x.2.1.2)/\az (K_ x.2.1.2)) (fun x=>((ec (I_ x.1.1.1) (E_ x.1.1.2) (J_ x.1.2.1.1) (J_ x.1.2.1.2) (K_ x.1.2.2.1) (K_ x.1.2.2.2) (K_ x.2.1.1) (K_ x.2.1.2)).1,(ec (I_ x.1.1.1) (E_ x.1.1.2) (J_ x.1.2.1.1) (J_ x.1.2.1.2) (K_ x.1.2.2.1) (K_ x.1.2.2.2) (K_ x.2.1.1) (K_ x.2.1.2)).2,())):=by
 refine bn Tryz.f8 39 [zn,Ww,Th] Tryz.func8 fun o x hd _ _ h=>?_
 obtain⟨⟨⟨(n:Int),(E:List (Int×Int))⟩,⟨⟨(V:List Int),(L:List Int)⟩,⟨(T:List (List Int)),(S:List (List Int))⟩⟩⟩,⟨(U:List (List Int)),(R:List (List Int))⟩,_⟩:=x
 have jt:=mh h 0 E
 have gE:=dh h 1 V
 have gH:=dh h 2 L
 have lT:=gC h 3 T
 have Am:=gC h 4 S
 have L1:=gC h 5 U
 have SQ:=gC h 6 R
 change cF n/\aC T/\az T/\aC S/\az S/\aC U/\az U/\aC R/\az R at hd
 obtain⟨hn,eS,dc,e6,dO,qC,oO,qD,pL⟩:=hd
 refine go (pr:=(cF n/\aC T/\az T/\aC S/\az S/\aC U/\az U/\aC R/\az R)) [] h (⟨hn,eS,dc,e6,dO,qC,oO,qD,pL⟩) fun _ _ h=>?_
 refine av h (fun(q1:¬(cC n E V L T S U R=0))=>?_) (fun(q1:cC n E V L T S U R=0)=>?_)
 .refine aZ [] h fun _ _ h=>?_
  exact out (((0:Int):Int),(false:Bool),()) h (by rw[Hu q1])
 have LW:=q1
 obtain⟨hh0,hpw⟩:=za LW
 obtain⟨gX,gz⟩:=xy hh0
 obtain⟨sj,hV,hL,_⟩:=aJ gX
 obtain⟨r1,r2,r3,_⟩:=bz sj
 have PA:=aO hV r1
 have Fi:=aO hL (by omega)
 obtain⟨_,hTT,_⟩:=aU (aK (aX gz).1)
 have hTl:=hTT.len
 obtain⟨abA,hUT,_⟩:=aU (aK (aX hpw).1)
 have hUl:=hUT.len
 refine aZ [] h fun _ _ h=>?_
 refine go_loop (Int) (fun i=>⟨[(2,ep 0),(3,ep 1),(15,eo 2),(16,en (V.length:Int)),(17,en i)],[(0,some (.box 32 [.v (.int .i64 n),.own 3,.own 2,.own 4,.own 5,.own 6])),(1,some (.box 30 [.own 7,.own 8])),(2,some (.ar .int V)),(3,some (.ar j8 E)),(4,some (.ar .int L)),(5,some (.ar (.list .int) T)),(6,some (.ar (.list .int) S)),(7,some (.ar (.list .int) U)),(8,some (.ar (.list .int) R))],9⟩) (fun i=>0<=i/\i<=(V.length:Int)/\∀j:Nat,(j:Int)<i->SP V L T U j=true) (fun i=>((V.length:Int)-i).toNat) (0) (rk [7,4103,1,0,2,3,4,5,6]) h ⟨Int.le_refl _,Int.natCast_nonneg _,fun j hj=>by omega⟩ fun i _ _ _ eH hI h=>?_
 obtain⟨i0,i1,i2⟩:=hI
 refine aZ [] h fun _ _ h=>?_
 refine av h (fun(q2:i<(V.length:Int))=>?_) (fun(q2:¬(i<(V.length:Int)))=>?_)
 .have hvv:=(aA.1 hV).2 _ (ag (l:=V) (i:=i.toNat) (d:=0) (by omega))
  have hum:(U.getD (V.getD i.toNat 0).toNat [])∈U:=ag (by omega)
  have LL:=oO.2 _ hum
  have hud:∀d∈(U.getD (V.getD i.toNat 0).toNat []),0<=d/\d<=1000000:=fun d hd=>by obtain⟨_,y1,_,y2⟩:=bf abA ((hUT.mem (V.getD i.toNat 0).toNat (by omega) d).1 hd).1;exact⟨y1,y2⟩
  have htb:kE (Dc L (U.getD (V.getD i.toNat 0).toNat []) (U.getD (V.getD i.toNat 0).toNat []).length) (T.getD (V.getD i.toNat 0).toNat [])=SP V L T U i.toNat:=by rw[Jq];rfl
  refine go (pr:=(bX i V.length)/\(bX (V.getD i.toNat 0) U.length)/\((∀d∈(U.getD (V.getD i.toNat 0).toNat []),0<=d/\d<=1000000)/\(U.getD (V.getD i.toNat 0).toNat []).length<=1000000/\L.length<=1000000)/\(bX (V.getD i.toNat 0) T.length)/\True) [] h ⟨bx,bx,⟨hud,by omega,by omega⟩,bx,tv⟩ fun _ _ h=>?_
  refine av h (fun(q3:(kE (Dc L (U.getD (V.getD i.toNat 0).toNat []) (U.getD (V.getD i.toNat 0).toNat []).length) (T.getD (V.getD i.toNat 0).toNat []))=false)=>?_) (fun(q3:(kE (Dc L (U.getD (V.getD i.toNat 0).toNat []) (U.getD (V.getD i.toNat 0).toNat []).length) (T.getD (V.getD i.toNat 0).toNat []))=true)=>?_)
  .refine aZ [] h fun _ _ h=>?_
   exact out (((V.getD i.toNat 0):Int),(true:Bool),()) h (by rw[Hv LW i0 (by omega) (by rw[<-htb];exact q3) i2])
  refine go (pr:=(bR .i64 (i+1))) [] h cz fun _ _ h=>?_
  exact dR (eH (i+1) (ir 9) h ⟨by omega,by omega,fun j hj=>if z:(j:Int)<i then i2 j z else by rw[show j=i.toNat by omega,<-htb];exact q3⟩ (by omega))
 refine aZ [] h fun _ _ h=>?_
 exact out (((0:Int):Int),(false:Bool),()) h (by rw[BK LW (fun j hj=>i2 j (by omega))])
def JC:dy Tryz.prog:=plain Ti
abbrev UQ:rD:=⟨[.box 24 [.int,.own 2],.box 3 [.int],.rd j8],[.int,.ptr 0 0,.ptr 1 0],[.box 24 [.int,.own 2],.box 3 [.int],.rd j8],[.bool],3⟩
theorem Lo:eO Tryz.prog 84 UQ (fun x=>0<=(I_ x.2.1)/\(I_ x.2.1)/2<((E_ x.1.2.2.1).length:Int)/\(I_ x.2.1)<=1000000) (fun x=>((((I_ x.1.1.1),(),()),((I_ x.1.2.1.1),()),(E_ x.1.2.2.1),()),(decide (ah (E_ x.1.2.2.1) (I_ x.2.1)=(I_ x.1.2.1.1)),()))):=by
 refine fo Tryz.f84 10 [rL] UQ Tryz.func84 fun o A x hd _ _ h=>?_
 obtain⟨⟨⟨(n:Int),_,_⟩,⟨(v:Int),_⟩,(E:List (Int×Int)),_⟩,⟨(x:Int),_,_,_⟩⟩:=x
 have gH:=mh h 2 E
 change 0<=x/\x/2<(E.length:Int)/\x<=1000000 at hd
 obtain⟨d0,d1,d2⟩:=hd
 refine go (pr:=(0<=x/\x/2<(E.length:Int)/\x<=1000000)) [] h (⟨by omega,by omega,by omega⟩) fun _ _ h=>?_
 exact kJ (((n,(),()),(v,()),E,()),(decide (ah E x=v),())) (ir 3) h rfl
def Lp:dy Tryz.prog:=oJ Lo
abbrev UR:rD:=⟨[.box 24 [.int,.own 2],.box 3 [.int],.rd j8,.rd .int],[.own 3,.mA 84 [(0,0),(1,0)]],[.box 24 [.int,.own 2],.box 3 [.int],.rd j8,.rd .int],[.int],4⟩
theorem PT:eO Tryz.prog 83 UR (fun x=> ∀d∈(J_ x.1.2.2.2.1),Lc (E_ x.1.2.2.1) d/\d<=1000000) (fun x=>((((I_ x.1.1.1),(),()),((I_ x.1.2.1.1),()),(E_ x.1.2.2.1),(J_ x.1.2.2.2.1),()),(cL (E_ x.1.2.2.1) (I_ x.1.2.1.1) (J_ x.1.2.2.2.1),()))):=by
 refine fo Tryz.f83 19 [Lp] UR Tryz.func83 fun o A x hd _ _ h=>?_
 obtain⟨⟨⟨(n:Int),_,_⟩,⟨(v:Int),_⟩,(E:List (Int×Int)),(l:List Int),_⟩,⟨_,_,_⟩⟩:=x
 have gH:=mh h 2 E
 have lT:=dh h 3 l
 change ∀d∈l,Lc E d/\d<=1000000 at hd
 refine aZ [] h fun _ _ h=>?_
 refine go_loop (Int) (fun i=>⟨[(0,eo 3),(1,some ⟨[],.one (.mA 84 [(0,0),(1,0)])⟩),(7,en (l.length:Int)),(8,en i)],[(0,some (.box 24 [.v (.int .i64 n),.own 2])),(1,some (.box 3 [.v (.int .i64 v)])),(2,some (.ar j8 E)),(3,some (.ar .int l))],4⟩) (fun i=>0<=i/\i<=(l.length:Int)/\∀j:Nat,(j:Int)<i->¬ah E (l.getD j 0)=v) (fun i=>((l.length:Int)-i).toNat) (0) (ir 4) h ⟨Int.le_refl _,Int.natCast_nonneg _,fun j hj=>by omega⟩ fun i _ _ _ eH hI h=>?_
 obtain⟨i0,i1,i2⟩:=hI
 refine aZ [] h fun _ _ h=>?_
 refine av h (fun(q1:i<(l.length:Int))=>?_) (fun(q1:¬(i<(l.length:Int)))=>?_)
 .obtain⟨⟨d0,d1⟩,d2⟩:=hd _ (ag (l:=l) (i:=i.toNat) (d:=0) (by omega))
  refine go (pr:=(bX i l.length)/\(0<=(l.getD i.toNat 0)/\(l.getD i.toNat 0)/2<(E.length:Int)/\(l.getD i.toNat 0)<=1000000)) [] h ⟨bx,⟨by omega,by omega,by omega⟩⟩ fun _ _ h=>?_
  refine av h (fun(q2:(decide (ah E (l.getD i.toNat 0)=v))=true)=>?_) (fun(q2:(decide (ah E (l.getD i.toNat 0)=v))=false)=>?_)
  .refine aZ [] h fun _ _ h=>?_
   exact kJ (((n,(),()),(v,()),E,l,()),(i,())) (ir 4) h (by rw[ON i0 (by omega) (of_decide_eq_true q2) i2])
  refine go (pr:=(bR .i64 (i+1))) [] h cz fun _ _ h=>?_
  exact dR (eH (i+1) (ir 4) h ⟨by omega,by omega,fun j hj=>if z:(j:Int)<i then i2 j z else by rw[show j=i.toNat by omega];exact fun q=>absurd (decide_eq_true q) (by rw[q2];decide)⟩ (by omega))
 refine aZ [] h fun _ _ h=>?_
 exact kJ (((n,(),()),(v,()),E,l,()),((-1:Int),())) (ir 4) h (by rw[Sn (fun j hj=>i2 j (by omega))])
def PU:dy Tryz.prog:=oJ PT
theorem PV:bG Tryz.prog 43 [(false,nv),(false,(.pair .int (.list .int)))] [(.list (.list .int))] (fun x=>cF (I_ x.1.1)/\(J_ x.2.1.2).length<=100000/\∀d∈(J_ x.2.1.2),-9223372036854775808<=d/\d<=9223372036854775807) (fun x=>(eR (I_ x.1.1) (E_ x.1.2) (J_ x.2.1.2),())):=by
 refine bn Tryz.f43 82 [C5,PU,C3,rL] Tryz.func43 fun o x hd _ _ h=>?_
 obtain⟨⟨(n:Int),(E:List (Int×Int))⟩,⟨(k:Int),(ds:List Int)⟩,_⟩:=x
 have jt:=mh h 0 E
 have gE:=dh h 1 ds
 change cF n/\ds.length<=100000/\∀d∈ds,-9223372036854775808<=d/\d<=9223372036854775807 at hd
 obtain⟨hn,si,Dw⟩:=hd
 refine go (pr:=(cF n)) [] h hn fun _ _ h=>?_
 refine av h (fun(q1:¬(bS n E=0))=>?_) (fun(q1:bS n E=0)=>?_)
 .refine aZ [] h fun _ _ h=>?_
  exact out (([]:List (List Int)),()) h (by rw[v7 (fun q=>q1 q.1)])
 have LW:bS n E=0:=q1
 obtain⟨r1,r2,r3,_⟩:=bz LW
 refine aZ [] h fun _ _ h=>?_
 refine go_loop (Int) (fun i=>⟨[(2,ep 0),(3,ep 1),(18,eo 2),(19,en (ds.length:Int)),(20,en i)],[(0,some (.box 24 [.v (.int .i64 n),.own 3])),(1,some (.box 75 [.v (.int .i64 k),.own 2])),(2,some (.ar .int ds)),(3,some (.ar j8 E))],4⟩) (fun i=>0<=i/\i<=(ds.length:Int)/\∀j:Nat,(j:Int)<i->Lc E (ds.getD j 0)) (fun i=>((ds.length:Int)-i).toNat) (0) (rk [2,4098,1,0]) h ⟨Int.le_refl _,Int.natCast_nonneg _,fun j hj=>by omega⟩ fun i _ _ _ eH hI h=>?_
 obtain⟨i0,i1,i2⟩:=hI
 refine aZ [] h fun _ _ h=>?_
 refine av h (fun(q2:i<(ds.length:Int))=>?_) (fun(q2:¬(i<(ds.length:Int)))=>?_)
 .have vP:=Dw _ (ag (l:=ds) (i:=i.toNat) (d:=0) (by omega))
  refine go (pr:=(bX i ds.length)/\((¬((ds.getD i.toNat 0)<0))->(0<=(ds.getD i.toNat 0)/\0<(2:Int)/\bR .i64 (ds.getD i.toNat 0)))) [] h ⟨bx,fun _=>⟨by omega,by omega,⟨by omega,by omega⟩⟩⟩ fun _ _ h=>?_
  refine av h (fun(q3:((ds.getD i.toNat 0)<0)\/((E.length:Int)<=(ds.getD i.toNat 0)/2))=>?_) (fun(q3:(¬((ds.getD i.toNat 0)<0))/\(¬((E.length:Int)<=(ds.getD i.toNat 0)/2)))=>?_)
  .refine aZ [] h fun _ _ h=>?_
   exact out (([]:List (List Int)),()) h (by rw[v7 (n:=n) (E:=E) (ds:=ds) (fun q=>by have:=q.2 _ (ag (l:=ds) (i:=i.toNat) (d:=0) (by omega));unfold Lc at this;have:=q3;omega)])
  refine go (pr:=(bR .i64 (i+1))) [] h cz fun _ _ h=>?_
  exact dR (eH (i+1) (ir 4) h ⟨by omega,by omega,fun j hj=>if z:(j:Int)<i then i2 j z else by rw[show j=i.toNat by omega];exact(show Lc E (ds.getD i.toNat 0) from⟨by omega,by omega⟩)⟩ (by omega))
 have fq:∀d∈ds,Lc E d:=E5 (i:=i) (by omega) i2
 refine aZ [] h fun _ _ h=>?_
 refine jk Int (List Int) (List (List Int)) (fun i gone ou=>⟨[(2,ep 0),(7,eo 1),(8,eo 2),(36,eo 3),(37,en (ds.length:Int)),(38,en i)],[(0,some (.box 24 [.v (.int .i64 n),.own 4])),(1,some (.row 25 (.list .int) ou)),(2,some (.row 3 .int gone)),(3,some (.ar .int ds)),(4,some (.ar j8 E))],5⟩) (fun i gone ou=>0<=i/\i<=(ds.length:Int)/\(gone,ou)=vf E ds i.toNat) (fun i gone ou=>((ds.length:Int)-i).toNat) 0 [] [] [(0,some 0),(1,none),(2,none),(3,some 2),(4,some 3)] h ⟨Int.le_refl _,Int.natCast_nonneg _,rfl⟩ fun i gone ou _ _ _ lS hI h=>?_
 obtain⟨i0,i1,i2⟩:=hI
 refine aZ [] h fun _ _ h=>?_
 refine av h (fun(q4:i<(ds.length:Int))=>?_) (fun(q4:¬(i<(ds.length:Int)))=>?_)
 .have AL:(gone,ou)=vf E ds i.toNat:=i2
  have hgm:=(C0 (E:=E) (ds:=ds) i.toNat (by omega)).1
  rw[<-AL] at hgm
  change ∀x∈gone,x∈ds at hgm
  have Z7:=xh (E:=E) (ds:=ds) i.toNat
  rw[<-AL] at Z7
  change gone.length<=i.toNat/\ou.length<=i.toNat at Z7
  have hgx:=fq _ (ag (l:=ds) (i:=i.toNat) (d:=0) (by omega))
  have ab1:=hgx.1
  have ab2:=hgx.2
  have WS:0<=an (ds.getD i.toNat 0)/\an (ds.getD i.toNat 0)/2<(E.length:Int)/\an (ds.getD i.toNat 0)<=1000000:=by unfold an;split<;>omega
  have hgd:∀d∈(gone++[(ds.getD i.toNat 0)]),Lc E d/\d<=1000000:=fun d hd=>by
   have h1:Lc E d:=(List.mem_append.1 hd).elim (fun q=>fq _ (hgm _ q)) fun q=>by rw[List.mem_singleton.1 q];exact hgx
   have h2:=h1.2;exact⟨h1,by omega⟩
  obtain⟨x0,x1⟩:=V5 (E:=E) (v:=ah E (an (ds.getD i.toNat 0))) (l:=(gone++[(ds.getD i.toNat 0)]))
  have HZ:(gone++[(ds.getD i.toNat 0)]).length=gone.length+1:=by simp
  have hdb:=Ss (B:=1000000) (by decide) (fun d hd=>⟨(hgd d hd).1.1,(hgd d hd).2⟩) (cL E (ah E (an (ds.getD i.toNat 0))) (gone++[(ds.getD i.toNat 0)])).toNat 1
  have zO:((gone++[(ds.getD i.toNat 0)]).drop (cL E (ah E (an (ds.getD i.toNat 0))) (gone++[(ds.getD i.toNat 0)])).toNat).length<=(gone++[(ds.getD i.toNat 0)]).length:=by rw[List.length_drop];omega
  refine go (pr:=(bX i ds.length)/\(gone.length+([(ds.getD i.toNat 0)]:List Int).length<=2147483647)/\(0<=(ds.getD i.toNat 0)/\(ds.getD i.toNat 0)<=9223372036854775807)/\(0<=(an (ds.getD i.toNat 0))/\(an (ds.getD i.toNat 0))/2<(E.length:Int)/\(an (ds.getD i.toNat 0))<=1000000)/\(∀d∈(gone++[(ds.getD i.toNat 0)]),Lc E d/\d<=1000000)) [] h ⟨bx,ln,⟨by omega,by omega⟩,⟨by omega,by omega,by omega⟩,hgd⟩ fun _ _ h=>?_
  refine av h (fun(q5:cL E (ah E (an (ds.getD i.toNat 0))) (gone++[(ds.getD i.toNat 0)])<0)=>?_) (fun(q5:¬(cL E (ah E (an (ds.getD i.toNat 0))) (gone++[(ds.getD i.toNat 0)])<0))=>?_)
  .refine go (pr:=(bR .i64 (i+1))) [] h cz fun _ _ h=>?_
   exact dR (lS (i+1) (gone++[(ds.getD i.toNat 0)]) ou (rk [0,1,28677,3,4]) h ⟨by omega,by omega,by rw[yZ i0,<-i2];exact(Su q5).symm⟩ (by omega))
  refine go (pr:=(0<=cL E (ah E (an (ds.getD i.toNat 0))) (gone++[(ds.getD i.toNat 0)])/\cL E (ah E (an (ds.getD i.toNat 0))) (gone++[(ds.getD i.toNat 0)])<=((gone++[(ds.getD i.toNat 0)]).length:Int))/\(((((gone++[(ds.getD i.toNat 0)]).drop (cL E (ah E (an (ds.getD i.toNat 0))) (gone++[(ds.getD i.toNat 0)])).toNat).length:Int)=2)->(bX (0:Int) ((gone++[(ds.getD i.toNat 0)]).drop (cL E (ah E (an (ds.getD i.toNat 0))) (gone++[(ds.getD i.toNat 0)])).toNat).length))/\(((((gone++[(ds.getD i.toNat 0)]).drop (cL E (ah E (an (ds.getD i.toNat 0))) (gone++[(ds.getD i.toNat 0)])).toNat).length:Int)=2)->(bX (1:Int) ((gone++[(ds.getD i.toNat 0)]).drop (cL E (ah E (an (ds.getD i.toNat 0))) (gone++[(ds.getD i.toNat 0)])).toNat).length))/\(((((gone++[(ds.getD i.toNat 0)]).drop (cL E (ah E (an (ds.getD i.toNat 0))) (gone++[(ds.getD i.toNat 0)])).toNat).length:Int)=2)->(0<=(((gone++[(ds.getD i.toNat 0)]).drop (cL E (ah E (an (ds.getD i.toNat 0))) (gone++[(ds.getD i.toNat 0)])).toNat).getD 1 0)/\(((gone++[(ds.getD i.toNat 0)]).drop (cL E (ah E (an (ds.getD i.toNat 0))) (gone++[(ds.getD i.toNat 0)])).toNat).getD 1 0)<=9223372036854775807))) [(57,true)] h ⟨⟨by omega,by omega⟩,fun _=>bx,fun _=>bx,fun _=>⟨by omega,by omega⟩⟩ fun _ _ h=>?_
  refine av h (fun(q6:(¬((((gone++[(ds.getD i.toNat 0)]).drop (cL E (ah E (an (ds.getD i.toNat 0))) (gone++[(ds.getD i.toNat 0)])).toNat).length:Int)=2))\/(¬((((gone++[(ds.getD i.toNat 0)]).drop (cL E (ah E (an (ds.getD i.toNat 0))) (gone++[(ds.getD i.toNat 0)])).toNat).getD 0 0)=(if(((gone++[(ds.getD i.toNat 0)]).drop (cL E (ah E (an (ds.getD i.toNat 0))) (gone++[(ds.getD i.toNat 0)])).toNat).getD 1 0)%2=0 then(((gone++[(ds.getD i.toNat 0)]).drop (cL E (ah E (an (ds.getD i.toNat 0))) (gone++[(ds.getD i.toNat 0)])).toNat).getD 1 0)+1 else(((gone++[(ds.getD i.toNat 0)]).drop (cL E (ah E (an (ds.getD i.toNat 0))) (gone++[(ds.getD i.toNat 0)])).toNat).getD 1 0)-1))))=>?_) (fun(q6:((((gone++[(ds.getD i.toNat 0)]).drop (cL E (ah E (an (ds.getD i.toNat 0))) (gone++[(ds.getD i.toNat 0)])).toNat).length:Int)=2)/\((((gone++[(ds.getD i.toNat 0)]).drop (cL E (ah E (an (ds.getD i.toNat 0))) (gone++[(ds.getD i.toNat 0)])).toNat).getD 0 0)=(if(((gone++[(ds.getD i.toNat 0)]).drop (cL E (ah E (an (ds.getD i.toNat 0))) (gone++[(ds.getD i.toNat 0)])).toNat).getD 1 0)%2=0 then(((gone++[(ds.getD i.toNat 0)]).drop (cL E (ah E (an (ds.getD i.toNat 0))) (gone++[(ds.getD i.toNat 0)])).toNat).getD 1 0)+1 else(((gone++[(ds.getD i.toNat 0)]).drop (cL E (ah E (an (ds.getD i.toNat 0))) (gone++[(ds.getD i.toNat 0)])).toNat).getD 1 0)-1)))=>?_)
  .refine go (pr:=(((gone++[(ds.getD i.toNat 0)]).drop (cL E (ah E (an (ds.getD i.toNat 0))) (gone++[(ds.getD i.toNat 0)])).toNat).length<=1000000)/\(ou.length+([((gone++[(ds.getD i.toNat 0)]).drop (cL E (ah E (an (ds.getD i.toNat 0))) (gone++[(ds.getD i.toNat 0)])).toNat)]:List (List Int)).length<=2147483647)/\(0<=cL E (ah E (an (ds.getD i.toNat 0))) (gone++[(ds.getD i.toNat 0)])/\cL E (ah E (an (ds.getD i.toNat 0))) (gone++[(ds.getD i.toNat 0)])<=cL E (ah E (an (ds.getD i.toNat 0))) (gone++[(ds.getD i.toNat 0)])/\cL E (ah E (an (ds.getD i.toNat 0))) (gone++[(ds.getD i.toNat 0)])<=((gone++[(ds.getD i.toNat 0)]).length:Int))/\(bR .i64 (i+1))) [] h ⟨by omega,ln,⟨by omega,by omega,by omega⟩,cz⟩ fun _ _ h=>?_
   exact dR (lS (i+1) ((gone++[(ds.getD i.toNat 0)]).take (cL E (ah E (an (ds.getD i.toNat 0))) (gone++[(ds.getD i.toNat 0)])).toNat) (ou++([((gone++[(ds.getD i.toNat 0)]).drop (cL E (ah E (an (ds.getD i.toNat 0))) (gone++[(ds.getD i.toNat 0)])).toNat)]:List (List Int))) (rk [0,172037,192517,3,4]) h ⟨by omega,by omega,by rw[yZ i0,<-i2];exact(Sv q5 q6).symm⟩ (by omega))
  refine go (pr:=(0<=cL E (ah E (an (ds.getD i.toNat 0))) (gone++[(ds.getD i.toNat 0)])/\cL E (ah E (an (ds.getD i.toNat 0))) (gone++[(ds.getD i.toNat 0)])<=cL E (ah E (an (ds.getD i.toNat 0))) (gone++[(ds.getD i.toNat 0)])/\cL E (ah E (an (ds.getD i.toNat 0))) (gone++[(ds.getD i.toNat 0)])<=((gone++[(ds.getD i.toNat 0)]).length:Int))/\(bR .i64 (i+1))) [] h ⟨⟨by omega,by omega,by omega⟩,cz⟩ fun _ _ h=>?_
  exact dR (lS (i+1) ((gone++[(ds.getD i.toNat 0)]).take (cL E (ah E (an (ds.getD i.toNat 0))) (gone++[(ds.getD i.toNat 0)])).toNat) ou (rk [0,1,167941,3,4]) h ⟨by omega,by omega,by rw[yZ i0,<-i2];exact(V7 q5 q6).symm⟩ (by omega))
 have uP:i.toNat=ds.length:=by omega
 rw[uP] at i2
 refine aZ [] h fun _ _ h=>?_
 exact out ((ou:List (List Int)),()) h (by rw[y5 LW fq,<-i2])
def PW:dy Tryz.prog:=plain PV
theorem PX:bG Tryz.prog 25 [(false,nv),(false,kI),(false,(.pair (.list (.list .int)) (.list (.list .int))))] [(.list (.list .int)),.int] (fun x=>cF (I_ x.1.1)/\aC (K_ x.2.2.1.1)/\az (K_ x.2.2.1.1)/\aC (K_ x.2.2.1.2)/\az (K_ x.2.2.1.2)) (fun x=>(aT (I_ x.1.1) (E_ x.1.2) (J_ x.2.1.1) (J_ x.2.1.2) (K_ x.2.2.1.1) (K_ x.2.2.1.2),aM (I_ x.1.1) (E_ x.1.2) (J_ x.2.1.1) (J_ x.2.1.2) (K_ x.2.2.1.1) (K_ x.2.2.1.2),())):=by
 refine bn Tryz.f25 45 [PW,qA,oN] Tryz.func25 fun o x hd _ _ h=>?_
 obtain⟨⟨(n:Int),(E:List (Int×Int))⟩,⟨(V:List Int),(L:List Int)⟩,⟨(T:List (List Int)),(S:List (List Int))⟩,_⟩:=x
 have jt:=mh h 0 E
 have gE:=dh h 1 V
 have gH:=dh h 2 L
 have lT:=gC h 3 T
 have Am:=gC h 4 S
 change cF n/\aC T/\az T/\aC S/\az S at hd
 obtain⟨hn,eS,dc,e6,dO⟩:=hd
 have nQ:=dO.1
 refine go (pr:=(cF n/\aC T/\az T/\aC S/\az S)) [] h (⟨hn,eS,dc,e6,dO⟩) fun _ _ h=>?_
 refine av h (fun(q1:¬(aM n E V L T S=0))=>?_) (fun(q1:aM n E V L T S=0)=>?_)
 .refine aZ [] h fun _ _ h=>?_
  exact out (([]:List (List Int)),(aM n E V L T S:Int),()) h (by rw[sU q1])
 have gz:=q1
 have kf:=aK (aX gz).1
 obtain⟨gX,hT,hW⟩:=aU kf
 have hP:=iJ gX
 obtain⟨sj,hV,hL,_⟩:=aJ gX
 obtain⟨r1,r2,r3,_⟩:=bz sj
 have PA:=aO hV r1
 have Fi:=aO hL (by omega)
 have SZ:=hP.len
 have LS:=hW.len
 have UO:=mI (fun k=>(hP.bd k).1) (P:=(ay n E V L))
 have US:=fS kf
 have hWk:=qy (fun w hw=>(US w hw).2)
 refine go (pr:=(cF n/\aC T/\az T)) [] h (⟨hn,eS,dc⟩) fun _ _ h=>?_
 refine av h (fun(q2:¬((aa n E V L T).2=0))=>?_) (fun(q2:(aa n E V L T).2=0)=>?_)
 .exact(q2 kf).elim
 refine aZ [] h fun _ _ h=>?_
 refine bq Int (List (List Int)) (fun i ou=>⟨[(3,ep 0),(11,eo 1),(32,eo 2),(33,en (((aa n E V L T).1).length:Int)),(34,en i)],[(0,some (.box 24 [.v (.int .i64 n),.own 3])),(1,some (.row 25 (.list .int) ou)),(2,some (.ro (.pair .int (.list .int)) ((aa n E V L T).1))),(3,some (.ar j8 E))],4⟩) (fun i ou=>0<=i/\i<=((aa n E V L T).1.length:Int)/\ou=LY n E (aa n E V L T).1 i.toNat) (fun i ou=>(((aa n E V L T).1.length:Int)-i).toNat) 0 [] [(0,some 5),(1,none),(2,some 65541),(3,some 0)] h ⟨Int.le_refl _,Int.natCast_nonneg _,rfl⟩ fun i ou _ _ _ eH hI h=>?_
 obtain⟨k0,k1,k2⟩:=hI
 refine aZ [] h fun _ _ h=>?_
 refine av h (fun(q3:i<(((aa n E V L T).1).length:Int))=>?_) (fun(q3:¬(i<(((aa n E V L T).1).length:Int)))=>?_)
 .have wq:((aa n E V L T).1.getD i.toNat (0,[]))∈(aa n E V L T).1:=ag (by omega)
  have PY:=US _ wq
  have hwl:=PY.2
  have hwr:∀d∈((aa n E V L T).1.getD i.toNat (0,[])).2,-9223372036854775808<=d/\d<=9223372036854775807:=fun d hd=>by obtain⟨_,y1,_,y2⟩:=bf gX (PY.1 d hd);omega
  have Du:=De (n:=n) (E:=E) hWk i.toNat
  rw[<-k2] at Du
  have WK:i.toNat*(2*L.length)<=10000*10000:=Nat.mul_le_mul (show i.toNat<=10000 by omega) (show 2*L.length<=10000 by omega)
  have har:=y7 n E ((aa n E V L T).1.getD i.toNat (0,[])).2
  refine go (pr:=(bX i ((aa n E V L T).1).length)/\(cF n/\(((aa n E V L T).1).getD i.toNat (0,[])).2.length<=100000/\∀d∈(((aa n E V L T).1).getD i.toNat (0,[])).2,-9223372036854775808<=d/\d<=9223372036854775807)/\(ou.length+(eR n E (((aa n E V L T).1).getD i.toNat (0,[])).2).length<=2147483647)/\(bR .i64 (i+1))) [] h ⟨bx,⟨hn,by omega,hwr⟩,ln,cz⟩ fun _ _ h=>?_
  exact dR (eH (i+1) (ou++(eR n E (((aa n E V L T).1).getD i.toNat (0,[])).2)) (rk [0,36868,2,3]) h ⟨by omega,by omega,by rw[Pj k0,<-k2]⟩ (by omega))
 have zm:i.toNat=(aa n E V L T).1.length:=by omega
 rw[zm] at k2
 refine aZ [] h fun _ _ h=>?_
 exact out ((ou:List (List Int)),((0:Int):Int),()) h (by rw[nO gz,gz,<-k2])
def PZ:dy Tryz.prog:=plain PX
abbrev JD:rD:=⟨[.box 138 [.mp 1,.own 2,.own 3,.int],.map .int .int,.row 3 .int,.row 3 .int],[.ptr 0 0,.int,.int],[.box 138 [.mp 1,.own 2,.own 3,.int],.map .int .int,.row 3 .int,.row 3 .int],[.bool],1⟩
theorem WT:eO Tryz.prog 88 JD (fun x=>(-9223372036854775808<=(I_ x.2.2.1)/\(I_ x.2.2.1)<=9223372036854775807)/\(-9223372036854775808<=(I_ x.2.2.2.1)/\(I_ x.2.2.2.1)<=9223372036854775807)/\gT (show bh .int Int from x.1.2.1) (J_ x.1.2.2.1) (J_ x.1.2.2.2.1)/\(J_ x.1.2.2.1).length<=900000/\-900000<=(I_ x.1.1.2.2.2.1)/\(I_ x.1.1.2.2.2.1)<=900000) (fun x=>((((),(),(),(I_ x.1.1.2.2.2.1),()),(show bh .int Int from x.1.2.1),(J_ x.1.2.2.1),UG ((show bh .int Int from x.1.2.1),(J_ x.1.2.2.1),(J_ x.1.2.2.2.1),(I_ x.1.1.2.2.2.1)) (I_ x.2.2.1) (I_ x.2.2.2.1),()),(Ho ((show bh .int Int from x.1.2.1),(J_ x.1.2.2.1),(J_ x.1.2.2.2.1),(I_ x.1.1.2.2.2.1)) (I_ x.2.2.1) (I_ x.2.2.2.1),()))):=by
 refine fo Tryz.f88 52 [I8,PJ] JD Tryz.func88 fun o A x hd _ _ h=>?_
 obtain⟨⟨⟨_,_,_,(g:Int),_⟩,(M:bh .int Int),(L:List Int),(U:List Int),_⟩,⟨_,(x:Int),(y:Int),_⟩⟩:=x
 have gH:=dh h 2 L
 have lT:=dh h 3 U
 change (-9223372036854775808<=x/\x<=9223372036854775807)/\(-9223372036854775808<=y/\y<=9223372036854775807)/\gT M L U/\L.length<=900000/\-900000<=g/\g<=900000 at hd
 obtain⟨⟨x0,x1⟩,⟨y0,y1⟩,hR,hL,g0,g1⟩:=hd
 have w1:=hR.len
 refine go (pr:=(cA .int x)/\((true=true)->(cA .int y))) [] h ⟨wk,fun _=>wk⟩ fun _ _ h=>?_
 refine av h (fun(q1:(true=false)\/(true=false))=>?_) (fun(q1:(true=true)/\(true=true))=>?_)
 .rcases q1 with q|q<;>cases q
 by_cases z1:(af M x).isSome=true
 .by_cases z2:(af M y).isSome=true
  .obtain⟨i,hi⟩:=Option.isSome_iff_exists.1 z1
   obtain⟨j,hj⟩:=Option.isSome_iff_exists.1 z2
   have gi:((af M x).getD 0)=i:=by rw[hi];rfl
   have gj:((af M y).getD 0)=j:=by rw[hj];rfl
   obtain⟨a0,a1,_⟩:=hR.at_ _ _ hi
   obtain⟨b0,b1,_⟩:=hR.at_ _ _ hj
   obtain⟨c1,c2,c3,c4,c5,c6,c7,c8⟩:=OJ hR.ok (i:=((af M x).getD 0)) (j:=((af M y).getD 0)) (by omega) (by omega) (by omega) (by omega)
   refine go (pr:=(cA .int x)/\(cA .int y)/\(((af M x).isSome)=true)/\(((af M y).isSome)=true)/\(fW U/\0<=((af M x).getD 0)/\((af M x).getD 0)<(U.length:Int)/\U.length<=1000000)/\(fW (gu U ((af M x).getD 0))/\0<=((af M y).getD 0)/\((af M y).getD 0)<((gu U ((af M x).getD 0)).length:Int)/\(gu U ((af M x).getD 0)).length<=1000000)) [(40,true),(43,true)] h ⟨wk,wk,z1,z2,⟨by first|exact hR.ok|assumption,by omega,by omega,by omega⟩,⟨by first|exact hR.ok|assumption,by omega,by omega,by omega⟩⟩ fun _ _ h=>?_
   exact kJ ((((),(),(),g,()),M,L,gu (gu U ((af M x).getD 0)) ((af M y).getD 0),()),(decide (iq U ((af M x).getD 0)=iq (gu U ((af M x).getD 0)) ((af M y).getD 0)),())) (rk [0,176133,176134,176135]) h (by simp only[UG,Ho,hi,hj,Option.getD_some];rfl)
  refine go (pr:=(cA .int x)/\(cA .int y)/\(((af M x).isSome)=true)/\(((af M y).isSome)=false)) [(40,true),(43,false)] h ⟨wk,wk,z1,(Bool.eq_false_iff.2 z2)⟩ fun _ _ h=>?_
  have hn:af M y=none:=by cases hq:af M y with|none=>rfl|some _=>rw[hq] at z2;exact absurd rfl z2
  exact kJ ((((),(),(),g,()),M,L,U,()),(false,())) (ir 4) h (by obtain⟨i,hi⟩:=Option.isSome_iff_exists.1 z1;simp only[UG,Ho,hi,hn];rfl)
 refine go (pr:=(cA .int x)/\(cA .int y)/\(((af M x).isSome)=false)) [(40,false)] h ⟨wk,wk,(Bool.eq_false_iff.2 z1)⟩ fun _ _ h=>?_
 have hn:af M x=none:=by cases hq:af M x with|none=>rfl|some _=>rw[hq] at z1;exact absurd rfl z1
 exact kJ ((((),(),(),g,()),M,L,U,()),(false,())) (ir 4) h (by simp only[UG,Ho,hn];rfl)
def WU:dy Tryz.prog:=oJ WT
abbrev Ft:rD:=⟨[.row 25 (.list .int)],[.own 0],[.row 25 (.list .int)],[],1⟩
theorem Tj:eO Tryz.prog 126 Ft (fun x=>ga (K_ x.1.1)/\(K_ x.1.1).length<=1000000) (fun x=>((iT (K_ x.1.1),()),(()))):=by
 refine fo Tryz.f126 4 [Wf] Ft Tryz.func126 fun o A x hd _ _ h=>?_
 obtain⟨⟨(l:List (List Int)),_⟩,⟨_,_⟩⟩:=x
 have jt:=gC h 0 l
 change ga l/\l.length<=1000000 at hd
 refine go (pr:=(ga l/\l.length<=1000000)) [] h hd fun _ _ h=>?_
 exact kJ ((iT l,()),(())) (ir 1) h rfl
def Tk:dy Tryz.prog:=oJ Tj
theorem Lq:bG Tryz.prog 108 [(false,nv),(false,kI),(false,(.pair (.list (.list .int)) (.list (.list .int))))] [(.list (.list .int)),.int] (fun x=>cF (I_ x.1.1)/\aC (K_ x.2.2.1.1)/\az (K_ x.2.2.1.1)/\aC (K_ x.2.2.1.2)/\az (K_ x.2.2.1.2)) (fun x=>(aV (I_ x.1.1) (E_ x.1.2) (J_ x.2.1.1) (J_ x.2.1.2) (K_ x.2.2.1.1) (K_ x.2.2.1.2),aM (I_ x.1.1) (E_ x.1.2) (J_ x.2.1.1) (J_ x.2.1.2) (K_ x.2.2.1.1) (K_ x.2.2.1.2),())):=by
 refine bn Tryz.f108 86 [C5,Tk,qA,oN] Tryz.func108 fun o x hd _ _ h=>?_
 obtain⟨⟨(n:Int),(E:List (Int×Int))⟩,⟨(V:List Int),(L:List Int)⟩,⟨(T:List (List Int)),(S:List (List Int))⟩,_⟩:=x
 have jt:=mh h 0 E
 have gE:=dh h 1 V
 have gH:=dh h 2 L
 have lT:=gC h 3 T
 have Am:=gC h 4 S
 change cF n/\aC T/\az T/\aC S/\az S at hd
 obtain⟨hn,eS,dc,e6,dO⟩:=hd
 have nQ:=dO.1
 refine go (pr:=(cF n/\aC T/\az T/\aC S/\az S)) [] h (⟨hn,eS,dc,e6,dO⟩) fun _ _ h=>?_
 refine av h (fun(q1:¬(aM n E V L T S=0))=>?_) (fun(q1:aM n E V L T S=0)=>?_)
 .refine aZ [] h fun _ _ h=>?_
  exact out (([]:List (List Int)),(aM n E V L T S:Int),()) h (by rw[E9 q1])
 have gz:=q1
 obtain⟨Dy,sx,hsx,_⟩:=aX gz
 have kf:=aK Dy
 obtain⟨gX,hT,hW⟩:=aU kf
 have hP:=iJ gX
 obtain⟨sj,hV,hL,_⟩:=aJ gX
 obtain⟨r1,r2,r3,_⟩:=bz sj
 have PA:=aO hV r1
 have Fi:=aO hL (by omega)
 have SZ:=hP.len
 have LS:=hW.len
 have UO:=mI (fun k=>(hP.bd k).1) (P:=(ay n E V L))
 have Q0:=qw hsx
 have hSl:∀k,(S.getD k []).length<=10000:=fun k=>by rw[List.getD_eq_getElem?_getD];cases hq:S[k]? with|none=>exact Nat.zero_le _|some z=>exact dO.2 _ (List.mem_of_getElem? hq)
 refine aZ [] h fun _ _ h=>?_
 refine jk Int (List (List Int)) (List (Int×Int)) (fun i ou m=>⟨[(3,ep 0),(4,ep 1),(5,ep 2),(9,eo 3),(10,em 4),(30,eo 5),(31,en (S.length:Int)),(32,en i)],[(0,some (.box 24 [.v (.int .i64 n),.own 6])),(1,some (.box 27 [.own 7,.own 8])),(2,some (.box 30 [.own 9,.own 5])),(3,some (.row 25 (.list .int) ou)),(4,some (.map .int .int m)),(5,some (.ar (.list .int) S)),(6,some (.ar j8 E)),(7,some (.ar .int V)),(8,some (.ar .int L)),(9,some (.ar (.list .int) T))],10⟩) (fun i ou m=>0<=i/\i<=(S.length:Int)/\ou=S.take i.toNat/\m=dG S i.toNat) (fun i ou m=>((S.length:Int)-i).toNat) 0 [] [] [(0,some 5),(1,some 4101),(2,some 8197),(3,none),(4,some 53253),(5,some 4),(6,some 0),(7,some 1),(8,some 2),(9,some 3)] h ⟨Int.le_refl _,Int.natCast_nonneg _,rfl,rfl⟩ fun i ou m _ _ _ eH hI h=>?_
 obtain⟨i0,i1,i2,i3⟩:=hI
 refine aZ [] h fun _ _ h=>?_
 refine av h (fun(q2:i<(S.length:Int))=>?_) (fun(q2:¬(i<(S.length:Int)))=>?_)
 .have hm:(S.getD i.toNat [])∈S:=ag (by omega)
  have QZ:=dO.2 _ hm
  have cO:=Q0 i.toNat (by omega)
  have wJ:=tZ hSl i.toNat
  rw[<-i3] at wJ
  have WK:i.toNat*10000<=100000000:=Nat.mul_le_mul_right 10000 (show i.toNat<=10000 by omega)
  have Q4:ou.length<=i.toNat:=by rw[i2,List.length_take];exact Nat.min_le_left _ _
  refine go (pr:=(bX i S.length)/\((S.getD i.toNat []).length<=1000000)/\(ou.length+([(S.getD i.toNat [])]:List (List Int)).length<=2147483647)) [] h ⟨bx,by omega,ln⟩ fun _ _ h=>?_
  refine bq Int (List (Int×Int)) (fun j mm=>⟨[(3,ep 0),(4,ep 1),(5,ep 2),(9,eo 3),(10,em 4),(11,en i),(30,eo 5),(31,en (S.length:Int)),(32,en i),(42,eo 6),(43,en ((S.getD i.toNat []).length:Int)),(44,en j)],[(0,some (.box 24 [.v (.int .i64 n),.own 7])),(1,some (.box 27 [.own 8,.own 9])),(2,some (.box 30 [.own 10,.own 5])),(3,some (.row 25 (.list .int) (ou++([(S.getD i.toNat [])]:List (List Int))))),(4,some (.map .int .int mm)),(5,some (.ar (.list .int) S)),(6,some (.ar .int (S.getD i.toNat []))),(7,some (.ar j8 E)),(8,some (.ar .int V)),(9,some (.ar .int L)),(10,some (.ar (.list .int) T))],11⟩) (fun j mm=>0<=j/\j<=((S.getD i.toNat []).length:Int)/\mm=qo (dG S i.toNat) (S.getD i.toNat []) i j.toNat) (fun j mm=>(((S.getD i.toNat []).length:Int)-j).toNat) 0 m (rk [0,1,2,40970,4,5,12298,6,7,8,9]) h ⟨Int.le_refl _,Int.natCast_nonneg _,i3⟩ fun j mm _ _ _ lS hI h=>?_
  obtain⟨j0,j1,j2⟩:=hI
  refine aZ [] h fun _ _ h=>?_
  refine av h (fun(q3:j<((S.getD i.toNat []).length:Int))=>?_) (fun(q3:¬(j<((S.getD i.toNat []).length:Int)))=>?_)
  .have QX:=e6 _ hm _ (ag (l:=(S.getD i.toNat [])) (i:=j.toNat) (d:=0) (by omega))
   have xe:=ic (m:=dG S i.toNat) (vs:=(S.getD i.toNat [])) (c:=i) j.toNat
   rw[<-j2,<-i3] at xe
   refine go (pr:=(bX j (S.getD i.toNat []).length)/\(cA .int ((S.getD i.toNat []).getD j.toNat 0))/\(mm.length<=2147483647)/\(bR .i64 (j+1))) [] h ⟨bx,wk,ln,cz⟩ fun _ _ h=>?_
   exact dR (lS (j+1) (b9 mm ((S.getD i.toNat []).getD j.toNat 0) i) (ir 11) h ⟨by omega,by omega,by rw[lG j0,<-j2]⟩ (by omega))
  have HC:j.toNat=(S.getD i.toNat []).length:=by omega
  have o8:=j2
  rw[HC] at o8
  refine go (pr:=(bR .i64 (i+1))) [] h cz fun _ _ h=>?_
  exact dR (eH (i+1) (ou++([(S.getD i.toNat [])]:List (List Int))) mm (rk [0,1,2,3,4,5,7,8,9,10]) h ⟨by omega,by omega,by rw[show(i+1).toNat=i.toNat+1 by omega,bU (show i.toNat<S.length by omega) [],<-i2],by rw[vj i0,<-o8]⟩ (by omega))
 have uP:i.toNat=S.length:=by omega
 rw[uP] at i2 i3
 rw[List.take_length] at i2
 refine go (pr:=(cF n/\aC T/\az T)) [] h (⟨hn,eS,dc⟩) fun _ _ h=>?_
 refine bq Int (List (List Int)) (fun i o2=>⟨[(9,eo 0),(10,em 1),(61,eo 2),(62,en (((aa n E V L T).1).length:Int)),(63,en i)],[(0,some (.row 25 (.list .int) o2)),(1,some (.map .int .int m)),(2,some (.ro (.pair .int (.list .int)) ((aa n E V L T).1)))],3⟩) (fun i o2=>0<=i/\i<=((aa n E V L T).1.length:Int)/\o2=S++Aj (dG S S.length) (aa n E V L T).1 i.toNat) (fun i o2=>(((aa n E V L T).1.length:Int)-i).toNat) 0 ou (rk [3,4,20490]) h ⟨Int.le_refl _,Int.natCast_nonneg _,by rw[i2];exact(List.append_nil S).symm⟩ fun i o2 _ _ _ uf hI h=>?_
 obtain⟨k0,k1,k2⟩:=hI
 refine aZ [] h fun _ _ h=>?_
 refine av h (fun(q4:i<(((aa n E V L T).1).length:Int))=>?_) (fun(q4:¬(i<(((aa n E V L T).1).length:Int)))=>?_)
 .have wq:((aa n E V L T).1.getD i.toNat (0,[]))∈(aa n E V L T).1:=ag (by omega)
  have F1:=vY gX hW wq
  have abB:=xk (m:=(dG S S.length)) (W:=(aa n E V L T).1) i.toNat
  have abC:o2.length=S.length+(Aj (dG S S.length) (aa n E V L T).1 i.toNat).length:=by rw[k2,List.length_append]
  refine go (pr:=(bX i ((aa n E V L T).1).length)/\(cA .int ((((aa n E V L T).1).getD i.toNat (0,[])).1))) [] h ⟨bx,wk⟩ fun _ _ h=>?_
  refine av h (fun(q5:((af m ((((aa n E V L T).1).getD i.toNat (0,[])).1)).isSome)=false)=>?_) (fun(q5:((af m ((((aa n E V L T).1).getD i.toNat (0,[])).1)).isSome)=true)=>?_)
  .refine go (pr:=(o2.length+([([(((aa n E V L T).1).getD i.toNat (0,[])).1]:List Int)]:List (List Int)).length<=2147483647)/\(bR .i64 (i+1))) [] h ⟨ln,cz⟩ fun _ _ h=>?_
   exact dR (uf (i+1) (o2++([([(((aa n E V L T).1).getD i.toNat (0,[])).1]:List Int)]:List (List Int))) (rk [86019,1,2]) h ⟨by omega,by omega,by rw[Wg k0 (by rw[<-i3];exact q5),k2,List.append_assoc]⟩ (by omega))
  refine go (pr:=(bR .i64 (i+1))) [] h cz fun _ _ h=>?_
  exact dR (uf (i+1) o2 (ir 3) h ⟨by omega,by omega,by rw[SL k0 (by rw[<-i3];exact q5),k2]⟩ (by omega))
 have zm:i.toNat=(aa n E V L T).1.length:=by omega
 rw[zm] at k2
 change o2=Ak (aa n E V L T).1 S at k2
 have hrh:=rI gz
 rw[<-k2] at hrh
 have abB:=xk (m:=(dG S S.length)) (W:=(aa n E V L T).1) (aa n E V L T).1.length
 have abC:o2.length=S.length+(Aj (dG S S.length) (aa n E V L T).1 (aa n E V L T).1.length).length:=by rw[k2];exact List.length_append ..
 refine go (pr:=(ga o2/\o2.length<=1000000)) [] h (⟨hrh,by omega⟩) fun _ _ h=>?_
 exact out ((iT o2:List (List Int)),((0:Int):Int),()) h (by rw[jN gz,gz,<-k2])
def BP:dy Tryz.prog:=plain Lq
theorem WV:bG Tryz.prog 87 [(false,nv),(false,kI),(false,(.pair (.list (.list .int)) (.list (.list .int))))] [(.map .int .int),.bool] (fun x=>cF (I_ x.1.1)/\aC (K_ x.2.2.1.1)/\az (K_ x.2.2.1.1)/\aC (K_ x.2.2.1.2)/\az (K_ x.2.2.1.2)) (fun x=>(aq (I_ x.1.1) (E_ x.1.2) (J_ x.2.1.1) (J_ x.2.1.2) (K_ x.2.2.1.1) (K_ x.2.2.1.2),decide (aM (I_ x.1.1) (E_ x.1.2) (J_ x.2.1.1) (J_ x.2.1.2) (K_ x.2.2.1.1) (K_ x.2.2.1.2)=0),())):=by
 refine bn Tryz.f87 92 [BP,oN] Tryz.func87 fun o x hd _ _ h=>?_
 obtain⟨⟨(n:Int),(E:List (Int×Int))⟩,⟨(V:List Int),(L:List Int)⟩,⟨(T:List (List Int)),(S:List (List Int))⟩,_⟩:=x
 have jt:=mh h 0 E
 have gE:=dh h 1 V
 have gH:=dh h 2 L
 have lT:=gC h 3 T
 have Am:=gC h 4 S
 change cF n/\aC T/\az T/\aC S/\az S at hd
 obtain⟨hn,eS,dc,e6,dO⟩:=hd
 have nQ:=dO.1
 refine go (pr:=(cF n/\aC T/\az T/\aC S/\az S)) [] h (⟨hn,eS,dc,e6,dO⟩) fun _ _ h=>?_
 refine av h (fun(q1:¬(aM n E V L T S=0))=>?_) (fun(q1:aM n E V L T S=0)=>?_)
 .refine aZ [] h fun _ _ h=>?_
  exact out (([]:bh .int Int),(false:Bool),()) h (by rw[nK q1,decide_eq_false q1];rfl)
 have gz:=q1
 obtain⟨Dy,sx,hsx,_⟩:=aX gz
 have kf:=aK Dy
 obtain⟨gX,hT,hW⟩:=aU kf
 have hP:=iJ gX
 obtain⟨sj,hV,hL,_⟩:=aJ gX
 obtain⟨r1,r2,r3,_⟩:=bz sj
 have PA:=aO hV r1
 have Fi:=aO hL (by omega)
 have SZ:=hP.len
 have LS:=hW.len
 have UO:=mI (fun k=>(hP.bd k).1) (P:=(ay n E V L))
 have US:=fS kf
 have hRl:=C6 gz
 have hRm:∀l∈(aV n E V L T S),l.length<=10000:=fun l hl=>(rK gz hl).elim (fun q=>dO.2 l q) fun⟨w,hw,e⟩=>by rw[e];show 1<=10000;decide
 have hRk:=Je hRm
 have hRi:∀l∈(aV n E V L T S),∀x∈l,-9223372036854775808<=x/\x<=9223372036854775807:=fun l hl x hx=>(rK gz hl).elim (fun q=>e6 l q x hx) fun⟨w,hw,e⟩=>by rw[e] at hx;rw[List.mem_singleton.1 hx];have:=vY gX hW hw;omega
 have hWk:=qy (fun w hw=>(US w hw).2)
 refine aZ [] h fun _ _ h=>?_
 refine bq Int (List (Int×Int)) (fun i m=>⟨[(3,ep 0),(4,ep 1),(5,ep 2),(10,em 3),(32,eo 4),(33,en ((aV n E V L T S).length:Int)),(34,en i)],[(0,some (.box 24 [.v (.int .i64 n),.own 5])),(1,some (.box 27 [.own 6,.own 7])),(2,some (.box 30 [.own 8,.own 9])),(3,some (.map .int .int m)),(4,some (.ro (.list .int) (aV n E V L T S))),(5,some (.ar j8 E)),(6,some (.ar .int V)),(7,some (.ar .int L)),(8,some (.ar (.list .int) T)),(9,some (.ar (.list .int) S))],10⟩) (fun i m=>0<=i/\i<=((aV n E V L T S).length:Int)/\m=dG (aV n E V L T S) i.toNat) (fun i m=>(((aV n E V L T S).length:Int)-i).toNat) 0 [] (rk [5,4101,8197,65541,32773,0,1,2,3,4]) h ⟨Int.le_refl _,Int.natCast_nonneg _,rfl⟩ fun i m _ _ _ eH hI h=>?_
 obtain⟨i0,i1,i3⟩:=hI
 refine aZ [] h fun _ _ h=>?_
 refine av h (fun(q2:i<((aV n E V L T S).length:Int))=>?_) (fun(q2:¬(i<((aV n E V L T S).length:Int)))=>?_)
 .have hm:((aV n E V L T S).getD i.toNat [])∈(aV n E V L T S):=ag (by omega)
  have QZ:=hRm _ hm
  have wJ:=tZ hRk i.toNat
  rw[<-i3] at wJ
  have WK:i.toNat*10000<=1000000000:=Nat.mul_le_mul_right 10000 (show i.toNat<=100000 by omega)
  refine go (pr:=(bX i (aV n E V L T S).length)) [] h bx fun _ _ h=>?_
  refine bq Int (List (Int×Int)) (fun j mm=>⟨[(3,ep 0),(4,ep 1),(5,ep 2),(10,em 3),(11,en i),(32,eo 4),(33,en ((aV n E V L T S).length:Int)),(34,en i),(39,eo 5),(40,en (((aV n E V L T S).getD i.toNat []).length:Int)),(41,en j)],[(0,some (.box 24 [.v (.int .i64 n),.own 6])),(1,some (.box 27 [.own 7,.own 8])),(2,some (.box 30 [.own 9,.own 10])),(3,some (.map .int .int mm)),(4,some (.ro (.list .int) (aV n E V L T S))),(5,some (.ro .int ((aV n E V L T S).getD i.toNat []))),(6,some (.ar j8 E)),(7,some (.ar .int V)),(8,some (.ar .int L)),(9,some (.ar (.list .int) T)),(10,some (.ar (.list .int) S))],11⟩) (fun j mm=>0<=j/\j<=(((aV n E V L T S).getD i.toNat []).length:Int)/\mm=qo (dG (aV n E V L T S) i.toNat) ((aV n E V L T S).getD i.toNat []) i j.toNat) (fun j mm=>((((aV n E V L T S).getD i.toNat []).length:Int)-j).toNat) 0 m (rk [0,1,2,3,4,12298,5,6,7,8,9]) h ⟨Int.le_refl _,Int.natCast_nonneg _,i3⟩ fun j mm _ _ _ lS hI h=>?_
  obtain⟨j0,j1,j2⟩:=hI
  refine aZ [] h fun _ _ h=>?_
  refine av h (fun(q3:j<(((aV n E V L T S).getD i.toNat []).length:Int))=>?_) (fun(q3:¬(j<(((aV n E V L T S).getD i.toNat []).length:Int)))=>?_)
  .have QX:=hRi _ hm _ (ag (l:=((aV n E V L T S).getD i.toNat [])) (i:=j.toNat) (d:=0) (by omega))
   have xe:=ic (m:=dG (aV n E V L T S) i.toNat) (vs:=((aV n E V L T S).getD i.toNat [])) (c:=i) j.toNat
   rw[<-j2,<-i3] at xe
   refine go (pr:=(bX j ((aV n E V L T S).getD i.toNat []).length)/\(cA .int (((aV n E V L T S).getD i.toNat []).getD j.toNat 0))/\(mm.length<=2147483647)/\(bR .i64 (j+1))) [] h ⟨bx,wk,ln,cz⟩ fun _ _ h=>?_
   exact dR (lS (j+1) (b9 mm (((aV n E V L T S).getD i.toNat []).getD j.toNat 0) i) (ir 11) h ⟨by omega,by omega,by rw[lG j0,<-j2]⟩ (by omega))
  have HC:j.toNat=((aV n E V L T S).getD i.toNat []).length:=by omega
  have o8:=j2
  rw[HC] at o8
  refine go (pr:=(bR .i64 (i+1))) [] h cz fun _ _ h=>?_
  exact dR (eH (i+1) mm (rk [0,1,2,3,4,6,7,8,9,10]) h ⟨by omega,by omega,by rw[vj i0,<-o8]⟩ (by omega))
 have uP:i.toNat=(aV n E V L T S).length:=by omega
 rw[uP] at i3
 refine go (pr:=(cF n/\aC T/\az T)) [] h (⟨hn,eS,dc⟩) fun _ _ h=>?_
 refine bq Int (List (Int×Int)) (fun i lm=>⟨[(10,em 0),(15,em 1),(59,eo 2),(60,en (((aa n E V L T).1).length:Int)),(61,en i)],[(0,some (.map .int .int m)),(1,some (.map .int .int lm)),(2,some (.ro (.pair .int (.list .int)) ((aa n E V L T).1)))],3⟩) (fun i lm=>0<=i/\i<=((aa n E V L T).1.length:Int)/\lm=xm (dG (aV n E V L T S) (aV n E V L T S).length) (aa n E V L T).1 i.toNat) (fun i lm=>(((aa n E V L T).1.length:Int)-i).toNat) 0 [] (rk [3,4106,28682]) h ⟨Int.le_refl _,Int.natCast_nonneg _,rfl⟩ fun i lm _ _ _ uf hI h=>?_
 obtain⟨k0,k1,k2⟩:=hI
 refine aZ [] h fun _ _ h=>?_
 refine av h (fun(q4:i<(((aa n E V L T).1).length:Int))=>?_) (fun(q4:¬(i<(((aa n E V L T).1).length:Int)))=>?_)
 .have wq:((aa n E V L T).1.getD i.toNat (0,[]))∈(aa n E V L T).1:=ag (by omega)
  have F1:=vY gX hW wq
  have PY:=US _ wq
  have wJ:=xo (num:=(dG (aV n E V L T S) (aV n E V L T S).length)) hWk i.toNat
  rw[<-k2] at wJ
  have WK:i.toNat*(2*L.length+1)<=100000*10000:=Nat.mul_le_mul (show i.toNat<=100000 by omega) (show 2*L.length+1<=10000 by omega)
  refine go (pr:=(bX i ((aa n E V L T).1).length)) [] h bx fun _ _ h=>?_
  refine bq Int (List (Int×Int)) (fun j m2=>⟨[(10,em 0),(15,em 1),(19,ep 2),(59,eo 3),(60,en (((aa n E V L T).1).length:Int)),(61,en i),(66,eo 4),(67,en (((((aa n E V L T).1).getD i.toNat (0,[])).2).length:Int)),(68,en j)],[(0,some (.map .int .int m)),(1,some (.map .int .int m2)),(2,some (.box 75 [.v (.int .i64 ((((aa n E V L T).1).getD i.toNat (0,[])).1)),.own 4])),(3,some (.ro (.pair .int (.list .int)) ((aa n E V L T).1))),(4,some (.ro .int ((((aa n E V L T).1).getD i.toNat (0,[])).2)))],5⟩) (fun j m2=>0<=j/\j<=(((aa n E V L T).1.getD i.toNat (0,[])).2.length:Int)/\m2=qo (xm (dG (aV n E V L T S) (aV n E V L T S).length) (aa n E V L T).1 i.toNat) ((aa n E V L T).1.getD i.toNat (0,[])).2 ((af (dG (aV n E V L T S) (aV n E V L T S).length) ((aa n E V L T).1.getD i.toNat (0,[])).1).getD 0) j.toNat) (fun j m2=>((((aa n E V L T).1.getD i.toNat (0,[])).2.length:Int)-j).toNat) 0 lm (rk [0,1,12291,2,8195]) h ⟨Int.le_refl _,Int.natCast_nonneg _,k2⟩ fun j m2 _ _ _ DA hI h=>?_
  obtain⟨j0,j1,j2⟩:=hI
  refine aZ [] h fun _ _ h=>?_
  refine av h (fun(q5:j<(((((aa n E V L T).1).getD i.toNat (0,[])).2).length:Int))=>?_) (fun(q5:¬(j<(((((aa n E V L T).1).getD i.toNat (0,[])).2).length:Int)))=>?_)
  .have vP:=PY.1 _ (ag (l:=((aa n E V L T).1.getD i.toNat (0,[])).2) (i:=j.toNat) (d:=0) (by omega))
   obtain⟨_,dx0,dx1,dx2⟩:=bf gX vP
   have xe:=ic (m:=xm (dG (aV n E V L T S) (aV n E V L T S).length) (aa n E V L T).1 i.toNat) (vs:=((aa n E V L T).1.getD i.toNat (0,[])).2) (c:=((af (dG (aV n E V L T S) (aV n E V L T S).length) ((aa n E V L T).1.getD i.toNat (0,[])).1).getD 0)) j.toNat
   rw[<-j2,<-k2] at xe
   refine go (pr:=(bX j ((((aa n E V L T).1).getD i.toNat (0,[])).2).length)/\(cA .int ((((aa n E V L T).1).getD i.toNat (0,[])).1))/\(cA .int (((((aa n E V L T).1).getD i.toNat (0,[])).2).getD j.toNat 0))/\(m2.length<=2147483647)/\(bR .i64 (j+1))) [] h ⟨bx,wk,wk,ln,cz⟩ fun _ _ h=>?_
   exact dR (DA (j+1) (b9 m2 (((((aa n E V L T).1).getD i.toNat (0,[])).2).getD j.toNat 0) ((af m ((((aa n E V L T).1).getD i.toNat (0,[])).1)).getD 0)) (ir 5) h ⟨by omega,by omega,by rw[lG j0,<-j2,<-i3]⟩ (by omega))
  have HC:j.toNat=((aa n E V L T).1.getD i.toNat (0,[])).2.length:=by omega
  have o8:=j2
  rw[HC] at o8
  have xe:=ic (m:=xm (dG (aV n E V L T S) (aV n E V L T S).length) (aa n E V L T).1 i.toNat) (vs:=((aa n E V L T).1.getD i.toNat (0,[])).2) (c:=((af (dG (aV n E V L T S) (aV n E V L T S).length) ((aa n E V L T).1.getD i.toNat (0,[])).1).getD 0)) ((aa n E V L T).1.getD i.toNat (0,[])).2.length
  rw[<-o8,<-k2] at xe
  refine aZ [] h fun _ _ h=>?_
  refine av h (fun(q6:(((((aa n E V L T).1).getD i.toNat (0,[])).2).length:Int)=0)=>?_) (fun(q6:¬((((((aa n E V L T).1).getD i.toNat (0,[])).2).length:Int)=0))=>?_)
  .refine go (pr:=(cA .int ((((aa n E V L T).1).getD i.toNat (0,[])).1))/\(cA .int ((((aa n E V L T).1).getD i.toNat (0,[])).1))/\(m2.length<=2147483647)/\(bR .i64 (i+1))) [] h ⟨wk,wk,ln,cz⟩ fun _ _ h=>?_
   exact dR (uf (i+1) (b9 m2 ((((aa n E V L T).1).getD i.toNat (0,[])).1) ((af m ((((aa n E V L T).1).getD i.toNat (0,[])).1)).getD 0)) (rk [0,1,3]) h ⟨by omega,by omega,by rw[uc k0,UI (show((aa n E V L T).1.getD i.toNat (0,[])).2.length=0 by omega),<-o8,<-i3]⟩ (by omega))
  refine go (pr:=(bR .i64 (i+1))) [] h cz fun _ _ h=>?_
  exact dR (uf (i+1) m2 (rk [0,1,3]) h ⟨by omega,by omega,by rw[uc k0,UJ (show ¬((aa n E V L T).1.getD i.toNat (0,[])).2.length=0 by omega),<-o8]⟩ (by omega))
 have zm:i.toNat=(aa n E V L T).1.length:=by omega
 rw[zm] at k2
 refine aZ [] h fun _ _ h=>?_
 exact out ((lm:bh .int Int),(true:Bool),()) h (by rw[nJ gz,decide_eq_true gz,<-k2])
def WW:dy Tryz.prog:=plain WV
theorem Tl:bG Tryz.prog 86 [(false,nv),(false,kI),(false,(.list .int))] [.bool] (fun x=>cF (I_ x.1.1)/\(J_ x.2.2.1).length<=100000/\∀d∈(J_ x.2.2.1),-9223372036854775808<=d/\d<=9223372036854775807) (fun x=>(mu (I_ x.1.1) (E_ x.1.2) (J_ x.2.1.1) (J_ x.2.1.2) (J_ x.2.2.1),())):=by
 refine bn Tryz.f86 97 [BD,tY,rL] Tryz.func86 fun o x hd _ _ h=>?_
 obtain⟨⟨(n:Int),(E:List (Int×Int))⟩,⟨(V:List Int),(L:List Int)⟩,(ds:List Int),_⟩:=x
 have jt:=mh h 0 E
 have gE:=dh h 1 V
 have gH:=dh h 2 L
 have lT:=dh h 3 ds
 change cF n/\ds.length<=100000/\∀d∈ds,-9223372036854775808<=d/\d<=9223372036854775807 at hd
 obtain⟨hn,si,Dw⟩:=hd
 refine go (pr:=(cF n)) [] h hn fun _ _ h=>?_
 refine av h (fun(q1:(¬(aS n E V L=0))\/((ds.length:Int)=0))=>?_) (fun(q1:(aS n E V L=0)/\(¬((ds.length:Int)=0)))=>?_)
 .refine aZ [] h fun _ _ h=>?_
  exact out ((false:Bool),()) h (congrArg (·,()) (Hq fun z=>q1.elim (fun q=>q z.1) fun q=>z.2.1 (show ds=[] from List.eq_nil_of_length_eq_zero (by omega))))
 have X4:=q1
 have gX:aS n E V L=0:=X4.1
 have cO:ds≠[]:=fun e=>by subst e;exact X4.2 rfl
 obtain⟨sj,hV,hL,_⟩:=aJ gX
 obtain⟨r1,r2,r3,_⟩:=bz sj
 have Fi:=aO hL (by omega)
 refine aZ [] h fun _ _ h=>?_
 refine go_loop (Int) (fun i=>⟨[(2,eo 0),(3,ep 1),(4,ep 2),(28,eo 0),(29,en (ds.length:Int)),(30,en i)],[(0,some (.ar .int ds)),(1,some (.box 24 [.v (.int .i64 n),.own 3])),(2,some (.box 27 [.own 4,.own 5])),(3,some (.ar j8 E)),(4,some (.ar .int V)),(5,some (.ar .int L))],6⟩) (fun i=>0<=i/\i<=(ds.length:Int)/\∀j:Nat,(j:Int)<i->0<=ds.getD j 0/\hasB L (ds.getD j 0/2)=true) (fun i=>((ds.length:Int)-i).toNat) (0) (rk [3,4,4100,0,1,2]) h ⟨Int.le_refl _,Int.natCast_nonneg _,fun j hj=>by omega⟩ fun i _ _ _ eH hI h=>?_
 obtain⟨i0,i1,i2⟩:=hI
 refine aZ [] h fun _ _ h=>?_
 refine av h (fun(q2:i<(ds.length:Int))=>?_) (fun(q2:¬(i<(ds.length:Int)))=>?_)
 .have vP:=Dw _ (ag (l:=ds) (i:=i.toNat) (d:=0) (by omega))
  refine go (pr:=(bX i ds.length)/\((¬((ds.getD i.toNat 0)<0))->(0<=(ds.getD i.toNat 0)/\0<(2:Int)/\bR .i64 (ds.getD i.toNat 0)))/\((¬((ds.getD i.toNat 0)<0))->(L.length<=1000000))) [] h ⟨bx,fun _=>⟨by omega,by omega,⟨by omega,by omega⟩⟩,fun _=>by omega⟩ fun _ _ h=>?_
  refine av h (fun(q3:((ds.getD i.toNat 0)<0)\/((hasB L ((ds.getD i.toNat 0)/2))=false))=>?_) (fun(q3:(¬((ds.getD i.toNat 0)<0))/\((hasB L ((ds.getD i.toNat 0)/2))=true))=>?_)
  .refine aZ [] h fun _ _ h=>?_
   exact out ((false:Bool),()) h (congrArg (·,()) (Hq fun z=>by have z3:=z.2.2.1 _ (ag (l:=ds) (i:=i.toNat) (d:=0) (by omega));rcases q3 with q|q;exact absurd z3.1 (by omega);rw[z3.2] at q;cases q))
  refine go (pr:=(bR .i64 (i+1))) [] h cz fun _ _ h=>?_
  exact dR (eH (i+1) (ir 6) h ⟨by omega,by omega,fun j hj=>if z:(j:Int)<i then i2 j z else by rw[show j=i.toNat by omega];exact⟨by omega,q3.2⟩⟩ (by omega))
 have fq:∀d∈ds,0<=d/\hasB L (d/2)=true:=E5 (i:=i) (by omega) i2
 have hof:∀d∈ds,0<=d/\d/2<(E.length:Int)/\d<=100000:=fun d hd=>by
  obtain⟨z0,z1⟩:=fq d hd
  rw[fk hL,decide_eq_true_eq] at z1
  have:=(aA.1 hL).2 _ z1;omega
 have aab:∀d∈ds,ak L d:=fun d hd=>by
  obtain⟨z0,z1⟩:=fq d hd
  rw[fk hL,decide_eq_true_eq] at z1;exact z1
 have zO:0<ds.length:=List.length_pos_iff.2 cO
 have ug:=hof _ (ag (l:=ds) (i:=((ds.length:Int)-1).toNat) (d:=0) (by omega))
 refine go (pr:=(bR .i64 ((ds.length:Int)-1))/\(bX ((ds.length:Int)-1) ds.length)) [] h ⟨cz,bx⟩ fun _ _ h=>?_
 refine tI Int (List (Int×Int)) (List (Int×Int)) Int (fun i vm mE a=>⟨[(3,ep 0),(9,em 1),(10,em 2),(11,en a),(53,eo 3),(54,en (ds.length:Int)),(55,en i)],[(0,some (.box 24 [.v (.int .i64 n),.own 4])),(1,some (.map .int .int vm)),(2,some (.map .int .int mE)),(3,some (.ar .int ds)),(4,some (.ar j8 E))],5⟩) (fun i vm mE a=>0<=i/\i<=(ds.length:Int)/\Sw E ds i.toNat vm mE a) (fun i vm mE a=>((ds.length:Int)-i).toNat) 0 [] [] (ds.getD ((ds.length:Int)-1).toNat 0) (rk [1,4102,8198,0,3]) h ⟨Int.le_refl _,Int.natCast_nonneg _,by rw[show((ds.length:Int)-1).toNat=ds.length-1 by omega];exact Sw.start⟩ fun i vm mE a _ _ _ lS hI h=>?_
 obtain⟨i0,i1,hI⟩:=hI
 refine aZ [] h fun _ _ h=>?_
 refine av h (fun(q4:i<(ds.length:Int))=>?_) (fun(q4:¬(i<(ds.length:Int)))=>?_)
 .have hxm:=ag (l:=ds) (i:=i.toNat) (d:=0) (by omega)
  have hx:=hof _ hxm
  have hxt:=(aA.1 hV).2 _ (bf gX (aab _ hxm)).1
  have ha:=hof _ (show a∈ds by rw[hI.pr];exact OP cO (by omega))
  have WS:0<=an a/\an a/2<(E.length:Int)/\an a<=1000000:=by unfold an;split<;>omega
  have wJ:=hI.len
  refine go (pr:=(bX i ds.length)/\(0<=(ds.getD i.toNat 0)/\(ds.getD i.toNat 0)/2<(E.length:Int)/\(ds.getD i.toNat 0)<=1000000)/\(cA .int (ah E (ds.getD i.toNat 0)))/\(0<=(ds.getD i.toNat 0)/\0<(2:Int)/\bR .i64 (ds.getD i.toNat 0))/\(cA .int ((ds.getD i.toNat 0)/2))/\(((((af vm (ah E (ds.getD i.toNat 0))).isSome)=false)/\(((af mE ((ds.getD i.toNat 0)/2)).isSome)=false))->(0<=a/\a<=9223372036854775807))/\(((((af vm (ah E (ds.getD i.toNat 0))).isSome)=false)/\(((af mE ((ds.getD i.toNat 0)/2)).isSome)=false))->(0<=(an a)/\(an a)/2<(E.length:Int)/\(an a)<=1000000))) [] h ⟨bx,⟨by omega,by omega,by omega⟩,wk,⟨by omega,by omega,⟨by omega,by omega⟩⟩,wk,fun _=>⟨by omega,by omega⟩,fun _=>⟨by omega,by omega,by omega⟩⟩ fun _ _ h=>?_
  refine av h (fun(q5:((((af vm (ah E (ds.getD i.toNat 0))).isSome)=true)\/(((af mE ((ds.getD i.toNat 0)/2)).isSome)=true))\/(¬(ah E (an a)=ah E (ds.getD i.toNat 0))))=>?_) (fun(q5:((((af vm (ah E (ds.getD i.toNat 0))).isSome)=false)/\(((af mE ((ds.getD i.toNat 0)/2)).isSome)=false))/\(ah E (an a)=ah E (ds.getD i.toNat 0)))=>?_)
  .refine aZ [] h fun _ _ h=>?_
   exact out ((false:Bool),()) h (congrArg (·,()) (Hq fun z=>hI.bad i0 (by omega) q5 z.2.2.2))
  refine go (pr:=(0<=(ds.getD i.toNat 0)/\0<(2:Int)/\bR .i64 (ds.getD i.toNat 0))/\(cA .int (ah E (ds.getD i.toNat 0)))/\(vm.length<=2147483647)/\(cA .int ((ds.getD i.toNat 0)/2))/\(mE.length<=2147483647)/\(bR .i64 (i+1))) [] h ⟨⟨by omega,by omega,⟨by omega,by omega⟩⟩,wk,ln,wk,ln,cz⟩ fun _ _ h=>?_
  exact dR (lS (i+1) (b9 vm (ah E (ds.getD i.toNat 0)) i) (b9 mE ((ds.getD i.toNat 0)/2) i) (ds.getD i.toNat 0) (ir 5) h ⟨by omega,by omega,hI.step i0 q5⟩ (by omega))
 refine aZ [] h fun _ _ h=>?_
 exact out ((true:Bool),()) h (congrArg (·,()) (SA ⟨gX,cO,fq,by rw[<-show i.toNat=ds.length by omega];exact hI.ok⟩))
def Tm:dy Tryz.prog:=plain Tl
theorem Tn:bG Tryz.prog 44 [(false,nv),(false,kI),(false,(.pair (.list (.list .int)) (.list (.list .int)))),(false,(.list .int))] [(.map .int .int),.bool] (fun x=>cF (I_ x.1.1)/\aC (K_ x.2.2.1.1)/\az (K_ x.2.2.1.1)/\aC (K_ x.2.2.1.2)/\az (K_ x.2.2.1.2)/\(J_ x.2.2.2.1).length<=10000/\∀d∈(J_ x.2.2.2.1),-9223372036854775808<=d/\d<=9223372036854775807) (fun x=>(eZ (I_ x.1.1) (E_ x.1.2) (J_ x.2.1.1) (J_ x.2.1.2) (K_ x.2.2.1.1) (K_ x.2.2.1.2) (J_ x.2.2.2.1),ue (I_ x.1.1) (E_ x.1.2) (J_ x.2.1.1) (J_ x.2.1.2) (K_ x.2.2.1.1) (K_ x.2.2.1.2) (J_ x.2.2.2.1),())):=by
 refine bn Tryz.f44 126 [PL,Tm,HE,WW,PN,WU] Tryz.func44 fun o x hd _ _ h=>?_
 obtain⟨⟨(n:Int),(E:List (Int×Int))⟩,⟨(V:List Int),(L:List Int)⟩,⟨(T:List (List Int)),(S:List (List Int))⟩,(ds:List Int),_⟩:=x
 have jt:=mh h 0 E
 have gE:=dh h 1 V
 have gH:=dh h 2 L
 have lT:=gC h 3 T
 have Am:=gC h 4 S
 have L1:=dh h 5 ds
 change cF n/\aC T/\az T/\aC S/\az S/\ds.length<=10000/\∀d∈ds,-9223372036854775808<=d/\d<=9223372036854775807 at hd
 obtain⟨hn,eS,dc,e6,dO,si,Dw⟩:=hd
 have nQ:=dO.1
 refine go (pr:=(cF n/\ds.length<=100000/\∀d∈ds,-9223372036854775808<=d/\d<=9223372036854775807)) [] h (⟨hn,by omega,Dw⟩) fun _ _ h=>?_
 refine av h (fun(q1:(mu n E V L ds)=false)=>?_) (fun(q1:(mu n E V L ds)=true)=>?_)
 .refine aZ [] h fun _ _ h=>?_
  exact out (([]:bh .int Int),(false:Bool),()) h (by unfold ue;rw[sR (fun q=>by rw[q1] at q;cases q.1),q1];rfl)
 refine go (pr:=(cF n/\aC T/\az T/\aC S/\az S)) [] h (⟨hn,eS,dc,e6,dO⟩) fun _ _ h=>?_
 refine av h (fun(q2:(decide (aM n E V L T S=0))=false)=>?_) (fun(q2:(decide (aM n E V L T S=0))=true)=>?_)
 .refine aZ [] h fun _ _ h=>?_
  exact out (([]:bh .int Int),(false:Bool),()) h (by unfold ue;rw[sR (fun q=>by rw[decide_eq_true q.2] at q2;cases q2),q2,Bool.and_false];rfl)
 have P0:mu n E V L ds=true:=q1
 have An:E6 n E V L ds:=of_decide_eq_true P0
 have gz:aM n E V L T S=0:=of_decide_eq_true q2
 obtain⟨gX,cO,To,_⟩:=An
 obtain⟨sj,hV,hL,_⟩:=aJ gX
 obtain⟨r1,r2,r3,_⟩:=bz sj
 have PA:=aO hV r1
 have Fi:=aO hL (by omega)
 have uB:=Jj (aq n E V L T S) L ds
 have Lr:=uB.1
 have ab3:=uB.2
 have Ls:=O7 (n:=n) (E:=E) (V:=V) (L:=L) (T:=T) nQ
 have abP:0<ds.length:=List.length_pos_iff.2 cO
 have abQ:=Ls (ds.getD 0 0)
 have WX:=Dw _ (ag (l:=ds) (i:=0) (d:=0) (by omega))
 refine aZ [] h fun _ _ h=>?_
 refine bq Int (List (Int×Int)) (fun i cm=>⟨[(3,eo 0),(5,ep 1),(10,em 2),(12,em 3),(41,eo 0),(42,en (ds.length:Int)),(43,en i)],[(0,some (.ar .int ds)),(1,some (.box 27 [.own 4,.own 5])),(2,some (.mL .int .int (aq n E V L T S))),(3,some (.map .int .int cm)),(4,some (.ar .int V)),(5,some (.ar .int L))],6⟩) (fun i cm=>0<=i/\i<=(ds.length:Int)/\cm=BI ds i.toNat) (fun i cm=>((ds.length:Int)-i).toNat) 0 [] (rk [5,4102,53254,86022,1,2]) h ⟨Int.le_refl _,Int.natCast_nonneg _,rfl⟩ fun i cm _ _ _ eH hI h=>?_
 obtain⟨i0,i1,i2⟩:=hI
 refine aZ [] h fun _ _ h=>?_
 refine av h (fun(q3:i<(ds.length:Int))=>?_) (fun(q3:¬(i<(ds.length:Int)))=>?_)
 .have Q4:=Ji ds i.toNat
  rw[<-i2] at Q4
  have Pq:=To _ (ag (l:=ds) (i:=i.toNat) (d:=0) (by omega))
  have ab4:=Pq.1
  have abD:=Dw _ (ag (l:=ds) (i:=i.toNat) (d:=0) (by omega))
  refine go (pr:=(bX i ds.length)/\(0<=(ds.getD i.toNat 0)/\0<(2:Int)/\bR .i64 (ds.getD i.toNat 0))/\(cA .int ((ds.getD i.toNat 0)/2))/\(cm.length<=2147483647)/\(bR .i64 (i+1))) [] h ⟨bx,⟨by omega,by omega,⟨by omega,by omega⟩⟩,wk,ln,cz⟩ fun _ _ h=>?_
  exact dR (eH (i+1) (b9 cm ((ds.getD i.toNat 0)/2) i) (ir 6) h ⟨by omega,by omega,by rw[O4 i0,<-i2]⟩ (by omega))
 have uP:i.toNat=ds.length:=by omega
 rw[uP] at i2
 refine go (pr:=(([]:List Int)=[])) [] h rfl fun _ _ h=>?_
 refine go_loop (Int×(List (Int×Int))×List Int×List Int×Int) (fun x_=>(fun(i:Int) (M:List (Int×Int)) (K:List Int) (U:List Int) (c:Int)=>⟨[(3,eo 0),(10,em 1),(12,em 2),(15,ep 3),(55,eo 4),(56,en (L.length:Int)),(57,en i)],[(0,some (.ar .int ds)),(1,some (.mL .int .int (aq n E V L T S))),(2,some (.map .int .int cm)),(3,some (.box 138 [.mp 5,.own 6,.own 7,.v (.int .i64 c)])),(4,some (.ar .int L)),(5,some (.map .int .int M)),(6,some (.row 3 .int K)),(7,some (.row 3 .int U))],8⟩) x_.1 x_.2.1 x_.2.2.1 x_.2.2.2.1 x_.2.2.2.2) (fun x_=>(fun(i:Int) (M:List (Int×Int)) (K:List Int) (U:List Int) (c:Int)=>0<=i/\i<=(L.length:Int)/\jF (aq n E V L T S) (BI ds ds.length) L i.toNat=(M,K,U,c)) x_.1 x_.2.1 x_.2.2.1 x_.2.2.2.1 x_.2.2.2.2) (fun x_=>(fun(i:Int) (M:List (Int×Int)) (K:List Int) (U:List Int) (c:Int)=>((L.length:Int)-i).toNat) x_.1 x_.2.1 x_.2.2.1 x_.2.2.2.1 x_.2.2.2.2) (0,[],[],[],0) (rk [0,2,3,4102,5,4103,4104,4105]) h ⟨Int.le_refl _,Int.natCast_nonneg _,rfl⟩ fun x_ _ _ _ lS hI h=>?_
 obtain⟨i,M,K,U,c⟩:=x_
 obtain⟨k0,k1,k2⟩:=hI
 dsimp only at k0 k1 k2
 refine aZ [] h fun _ _ h=>?_
 refine av h (fun(q4:i<(L.length:Int))=>?_) (fun(q4:¬(i<(L.length:Int)))=>?_)
 .obtain⟨hjo,LI⟩:=BJ (left:=(aq n E V L T S)) (on:=(BI ds ds.length)) (L:=L) i.toNat
  rw[k2] at hjo LI
  change K.length<=2*i.toNat at LI
  have gh:gT M K U:=hjo.rep
  have zL:M.length<=K.length:=gh.nG
  have UT:U.length=K.length:=gh.len
  have M4:0<=c/\c<=(K.length:Int):=hjo.bd
  have hle:=(aA.1 hL).2 _ (ag (l:=L) (i:=i.toNat) (d:=0) (by omega))
  have XD:=Ls (2*(L.getD i.toNat 0))
  have Rr:=Ls (2*(L.getD i.toNat 0)+1)
  refine go (pr:=(bX i L.length)/\(cA .int (L.getD i.toNat 0))) [] h ⟨bx,wk⟩ fun _ _ h=>?_
  refine av h (fun(q5:((af cm (L.getD i.toNat 0)).isSome)=false)=>?_) (fun(q5:((af cm (L.getD i.toNat 0)).isSome)=true)=>?_)
  .refine go (pr:=(bR .i64 (2*(L.getD i.toNat 0)))/\(cA .int (2*(L.getD i.toNat 0)))/\(bR .i64 (2*(L.getD i.toNat 0)))/\(bR .i64 ((2*(L.getD i.toNat 0))+1))/\(cA .int ((2*(L.getD i.toNat 0))+1))/\((-9223372036854775808<=((af (aq n E V L T S) (2*(L.getD i.toNat 0))).getD 0)/\((af (aq n E V L T S) (2*(L.getD i.toNat 0))).getD 0)<=9223372036854775807)/\(-9223372036854775808<=((af (aq n E V L T S) ((2*(L.getD i.toNat 0))+1)).getD 0)/\((af (aq n E V L T S) ((2*(L.getD i.toNat 0))+1)).getD 0)<=9223372036854775807)/\gT M K U/\K.length<=900000/\-900000<=c/\c<=900000)/\(bR .i64 (i+1))) [] h ⟨cz,wk,cz,cz,wk,⟨⟨by omega,by omega⟩,⟨by omega,by omega⟩,gh,by omega,by omega,by omega⟩,cz⟩ fun _ _ h=>?_
   exact dR (lS (i+1,QY M K ((af (aq n E V L T S) (2*(L.getD i.toNat 0))).getD 0) ((af (aq n E V L T S) ((2*(L.getD i.toNat 0))+1)).getD 0),LQ M K ((af (aq n E V L T S) (2*(L.getD i.toNat 0))).getD 0) ((af (aq n E V L T S) ((2*(L.getD i.toNat 0))+1)).getD 0),I9 M K U ((af (aq n E V L T S) (2*(L.getD i.toNat 0))).getD 0) ((af (aq n E V L T S) ((2*(L.getD i.toNat 0))+1)).getD 0),E3 M K U c ((af (aq n E V L T S) (2*(L.getD i.toNat 0))).getD 0) ((af (aq n E V L T S) ((2*(L.getD i.toNat 0))+1)).getD 0)) (rk [0,1,2,3,4,98313,98314,98315]) h ⟨by dsimp only;omega,by dsimp only;omega,by dsimp only;rw[ZR k0 (by rw[<-i2];exact q5),k2];rfl⟩ (by dsimp only;omega))
  refine go (pr:=(bR .i64 (i+1))) [] h cz fun _ _ h=>?_
  exact dR (lS (i+1,M,K,U,c) (ir 8) h ⟨by dsimp only;omega,by dsimp only;omega,by dsimp only;rw[Wh k0 (by rw[<-i2];exact q5),k2]⟩ (by dsimp only;omega))
 have zm:i.toNat=L.length:=by omega
 rw[zm] at k2
 refine aZ [] h fun _ _ h=>?_
 refine go_loop (Int×(List (Int×Int))×List Int×List Int×Int) (fun x_=>(fun(i:Int) (M:List (Int×Int)) (K:List Int) (U:List Int) (c:Int)=>⟨[(3,eo 0),(10,em 1),(15,ep 2),(81,eo 0),(82,en (ds.length:Int)),(83,en i)],[(0,some (.ar .int ds)),(1,some (.mL .int .int (aq n E V L T S))),(2,some (.box 138 [.mp 3,.own 4,.own 5,.v (.int .i64 c)])),(3,some (.map .int .int M)),(4,some (.row 3 .int K)),(5,some (.row 3 .int U))],6⟩) x_.1 x_.2.1 x_.2.2.1 x_.2.2.2.1 x_.2.2.2.2) (fun x_=>(fun(i:Int) (M:List (Int×Int)) (K:List Int) (U:List Int) (c:Int)=>0<=i/\i<=(ds.length:Int)/\Li (aq n E V L T S) ds (jF (aq n E V L T S) (BI ds ds.length) L L.length) i.toNat=(M,K,U,c)) x_.1 x_.2.1 x_.2.2.1 x_.2.2.2.1 x_.2.2.2.2) (fun x_=>(fun(i:Int) (M:List (Int×Int)) (K:List Int) (U:List Int) (c:Int)=>((ds.length:Int)-i).toNat) x_.1 x_.2.1 x_.2.2.1 x_.2.2.2.1 x_.2.2.2.2) (0,M,K,U,c) (rk [0,1,3,5,6,7]) h ⟨Int.le_refl _,Int.natCast_nonneg _,k2⟩ fun x_ _ _ _ uf hI h=>?_
 obtain⟨i,M,K,U,c⟩:=x_
 obtain⟨k0,k1,k3⟩:=hI
 dsimp only at k0 k1 k3
 refine aZ [] h fun _ _ h=>?_
 refine av h (fun(q6:i<(ds.length:Int))=>?_) (fun(q6:¬(i<(ds.length:Int)))=>?_)
 .obtain⟨hjo,LI⟩:=BJ (left:=(aq n E V L T S)) (on:=(BI ds ds.length)) (L:=L) L.length
  obtain⟨hao,xe⟩:=Da (left:=(aq n E V L T S)) (ds:=ds) hjo i.toNat
  rw[k3] at hao xe
  change K.length<=_ at xe
  have gh:gT M K U:=hao.rep
  have zL:M.length<=K.length:=gh.nG
  have UT:U.length=K.length:=gh.len
  have M4:0<=c/\c<=(K.length:Int):=hao.bd
  have Pq:=(To _ (ag (l:=ds) (i:=i.toNat) (d:=0) (by omega))).1
  have abD:=Dw _ (ag (l:=ds) (i:=i.toNat) (d:=0) (by omega))
  have WS: -9223372036854775808<=an (ds.getD i.toNat 0)/\an (ds.getD i.toNat 0)<=9223372036854775807:=by unfold an;split<;>omega
  have XD:=Ls (ds.getD i.toNat 0)
  have Rr:=Ls (an (ds.getD i.toNat 0))
  have s1:=(hao.add ((af (aq n E V L T S) (ds.getD i.toNat 0)).getD 0)).1
  have t1:=C9 (s:=(M,K,U,c)) (x:=((af (aq n E V L T S) (ds.getD i.toNat 0)).getD 0))
  have m1:=s1.rep.nG
  have u1:=s1.rep.len
  have b1:=s1.bd
  change (bT M K ((af (aq n E V L T S) (ds.getD i.toNat 0)).getD 0)).length<=K.length+1 at t1
  change (bD M K ((af (aq n E V L T S) (ds.getD i.toNat 0)).getD 0)).length<=(bT M K ((af (aq n E V L T S) (ds.getD i.toNat 0)).getD 0)).length at m1
  change (cg M K U ((af (aq n E V L T S) (ds.getD i.toNat 0)).getD 0)).length=(bT M K ((af (aq n E V L T S) (ds.getD i.toNat 0)).getD 0)).length at u1
  change 0<=gR M c ((af (aq n E V L T S) (ds.getD i.toNat 0)).getD 0)/\gR M c ((af (aq n E V L T S) (ds.getD i.toNat 0)).getD 0)<=((bT M K ((af (aq n E V L T S) (ds.getD i.toNat 0)).getD 0)).length:Int) at b1
  refine go (pr:=(bX i ds.length)/\(cA .int (ds.getD i.toNat 0))/\((-9223372036854775808<=((af (aq n E V L T S) (ds.getD i.toNat 0)).getD 0)/\((af (aq n E V L T S) (ds.getD i.toNat 0)).getD 0)<=9223372036854775807)/\M.length<=900000/\K.length<=900000/\U.length<=900000/\-900000<=c/\c<=900000)/\(0<=(ds.getD i.toNat 0)/\(ds.getD i.toNat 0)<=9223372036854775807)/\(cA .int (an (ds.getD i.toNat 0)))/\((-9223372036854775808<=((af (aq n E V L T S) (an (ds.getD i.toNat 0))).getD 0)/\((af (aq n E V L T S) (an (ds.getD i.toNat 0))).getD 0)<=9223372036854775807)/\(bD M K ((af (aq n E V L T S) (ds.getD i.toNat 0)).getD 0)).length<=900000/\(bT M K ((af (aq n E V L T S) (ds.getD i.toNat 0)).getD 0)).length<=900000/\(cg M K U ((af (aq n E V L T S) (ds.getD i.toNat 0)).getD 0)).length<=900000/\-900000<=(gR M c ((af (aq n E V L T S) (ds.getD i.toNat 0)).getD 0))/\(gR M c ((af (aq n E V L T S) (ds.getD i.toNat 0)).getD 0))<=900000)/\(bR .i64 (i+1))) [] h ⟨bx,wk,⟨⟨by omega,by omega⟩,by omega,by omega,by omega,by omega,by omega⟩,⟨by omega,by omega⟩,wk,⟨⟨by omega,by omega⟩,by omega,by omega,by omega,by omega,by omega⟩,cz⟩ fun _ _ h=>?_
  exact dR (uf (i+1,bD (bD M K ((af (aq n E V L T S) (ds.getD i.toNat 0)).getD 0)) (bT M K ((af (aq n E V L T S) (ds.getD i.toNat 0)).getD 0)) ((af (aq n E V L T S) (an (ds.getD i.toNat 0))).getD 0),bT (bD M K ((af (aq n E V L T S) (ds.getD i.toNat 0)).getD 0)) (bT M K ((af (aq n E V L T S) (ds.getD i.toNat 0)).getD 0)) ((af (aq n E V L T S) (an (ds.getD i.toNat 0))).getD 0),cg (bD M K ((af (aq n E V L T S) (ds.getD i.toNat 0)).getD 0)) (bT M K ((af (aq n E V L T S) (ds.getD i.toNat 0)).getD 0)) (cg M K U ((af (aq n E V L T S) (ds.getD i.toNat 0)).getD 0)) ((af (aq n E V L T S) (an (ds.getD i.toNat 0))).getD 0),gR (bD M K ((af (aq n E V L T S) (ds.getD i.toNat 0)).getD 0)) (gR M c ((af (aq n E V L T S) (ds.getD i.toNat 0)).getD 0)) ((af (aq n E V L T S) (an (ds.getD i.toNat 0))).getD 0)) (rk [0,1,2,57351,57352,57353]) h ⟨by dsimp only;omega,by dsimp only;omega,by dsimp only;rw[O5 k0,k3];rfl⟩ (by dsimp only;omega))
 have uP:i.toNat=ds.length:=by omega
 have k4:=k3
 rw[uP] at k4
 refine go (pr:=(bX (0:Int) ds.length)/\(cA .int (ds.getD 0 0))) [] h ⟨bx,wk⟩ fun _ _ h=>?_
 refine go_loop ((Int->Bool)×Nat×(Option (Int×Int))×(List (Int×Int))×List Int×List Int×Int×(List (Int×Int))) (fun x_=>(fun(lf:Int->Bool) (cnt:Nat) (cur:Option (Int×Int)) (M:List (Int×Int)) (K:List Int) (U:List Int) (c:Int) (mo:List (Int×Int))=>⟨[(15,ep 0),(22,en ((af (aq n E V L T S) (ds.getD 0 0)).getD 0)),(23,em 1),(106,ep 2)],[(0,some (.box 138 [.mp 3,.own 4,.own 5,.v (.int .i64 c)])),(1,some (.map .int .int mo)),(2,some (.iter .int .int (aq n E V L T S) lf cnt cur)),(3,some (.map .int .int M)),(4,some (.row 3 .int K)),(5,some (.row 3 .int U))],6⟩) x_.1 x_.2.1 x_.2.2.1 x_.2.2.2.1 x_.2.2.2.2.1 x_.2.2.2.2.2.1 x_.2.2.2.2.2.2.1 x_.2.2.2.2.2.2.2) (fun x_=>(fun(lf:Int->Bool) (cnt:Nat) (cur:Option (Int×Int)) (M:List (Int×Int)) (K:List Int) (U:List Int) (c:Int) (mo:List (Int×Int))=>O6 (aq n E V L T S) (dF (aq n E V L T S) L ds) ((af (aq n E V L T S) (ds.getD 0 0)).getD 0) lf cnt (M,K,U,c) mo/\True) x_.1 x_.2.1 x_.2.2.1 x_.2.2.2.1 x_.2.2.2.2.1 x_.2.2.2.2.2.1 x_.2.2.2.2.2.2.1 x_.2.2.2.2.2.2.2) (fun x_=>(fun(lf:Int->Bool) (cnt:Nat) (cur:Option (Int×Int)) (M:List (Int×Int)) (K:List Int) (U:List Int) (c:Int) (mo:List (Int×Int))=>cnt) x_.1 x_.2.1 x_.2.2.1 x_.2.2.2.1 x_.2.2.2.2.1 x_.2.2.2.2.2.1 x_.2.2.2.2.2.2.1 x_.2.2.2.2.2.2.2) ((fun z=>(af (aq n E V L T S) z).isSome),(aq n E V L T S).length,none,M,K,U,c,[]) (rk [2,28678,40966,3,4,5]) h ⟨by have e:(dF (aq n E V L T S) L ds)=(M,K,U,c):=k4;rw[<-e];exact O6.start Lr,tv⟩ fun x_ _ _ _ DA hI h=>?_
 obtain⟨lf,cnt,cur,M,K,U,c,mo⟩:=x_
 obtain⟨hI,_⟩:=hI
 dsimp only at hI
 refine aZ [] h fun _ _ h=>?_
 refine tK ⟨.int,.int,(aq n E V L T S),lf,cnt,cur,2,107⟩ h (fun(gE:∀x:Int,lf x=false) _ _ h=>?_) (fun(k1:Int) (v1:Int) (c1:Nat) (gE:lf k1=true) (Bd: -9223372036854775808<=k1/\k1<=9223372036854775807) (Ac:af (aq n E V L T S) k1=some v1) (vI:c1<cnt) _ _ h=>?_)
 .have hmf:=hI.fin gE Fb
  refine aZ [] h fun _ _ h=>?_
  exact out ((mo:bh .int Int),(true:Bool),()) h (by unfold ue;rw[vn P0 gz,P0,decide_eq_true gz,<-hmf];rfl)
 have Ef:=Db nQ Ac
 have gh:gT M K U:=hI.ok.rep
 have zL:M.length<=K.length:=gh.nG
 have UT:U.length=K.length:=gh.len
 have M4:0<=c/\c<=(K.length:Int):=hI.ok.bd
 have QU:=hI.len
 change K.length=(dF (aq n E V L T S) L ds).2.1.length at QU
 have hmo:=hI.Wj (O3 Fb)
 have Nf:(aq n E V L T S).length<=100000000:=O8
 have hmp:=cQ mo k1 2
 by_cases z1:v1=((af (aq n E V L T S) (ds.getD 0 0)).getD 0)
 .refine go (pr:=(cA .int k1)/\(mo.length<=2147483647)/\(v1=((af (aq n E V L T S) (ds.getD 0 0)).getD 0))/\(cA .int k1)/\((b9 mo k1 (2:Int)).length<=2147483647)) [(117,true)] h ⟨wk,ln,z1,wk,ln⟩ fun _ _ h=>?_
  exact dR (DA ((fun z=>lf z && !decide (z=k1)),c1,some (k1,v1),M,K,U,c,(b9 (b9 mo k1 (2:Int)) k1 (1:Int))) (ir 6) h ⟨hI.step Lr gE Ac ⟨hI.ok,fun _ _=>Iff.rfl,rfl⟩ (r:=1) (by unfold Jh;rw[if_pos (.inl z1)]) _ (.inr rfl),tv⟩ (vI))
 refine go (pr:=(cA .int k1)/\(mo.length<=2147483647)/\(¬(v1=((af (aq n E V L T S) (ds.getD 0 0)).getD 0)))/\((-9223372036854775808<=v1/\v1<=9223372036854775807)/\(-9223372036854775808<=((af (aq n E V L T S) (ds.getD 0 0)).getD 0)/\((af (aq n E V L T S) (ds.getD 0 0)).getD 0)<=9223372036854775807)/\gT M K U/\K.length<=900000/\-900000<=c/\c<=900000)) [(117,false)] h ⟨wk,ln,z1,⟨⟨by omega,by omega⟩,⟨by omega,by omega⟩,gh,by omega,by omega,by omega⟩⟩ fun _ _ h=>?_
 refine av h (fun(q7:(Ho (M,K,U,c) v1 ((af (aq n E V L T S) (ds.getD 0 0)).getD 0))=true)=>?_) (fun(q7:(Ho (M,K,U,c) v1 ((af (aq n E V L T S) (ds.getD 0 0)).getD 0))=false)=>?_)
 .refine go (pr:=(cA .int k1)/\((b9 mo k1 (2:Int)).length<=2147483647)) [] h ⟨wk,ln⟩ fun _ _ h=>?_
  exact dR (DA ((fun z=>lf z && !decide (z=k1)),c1,some (k1,v1),M,K,UG (M,K,U,c) v1 ((af (aq n E V L T S) (ds.getD 0 0)).getD 0),c,(b9 (b9 mo k1 (2:Int)) k1 (1:Int))) (rk [0,1,2,69639,69640,69641]) h ⟨hI.step Lr gE Ac ⟨(hI.ok.sm _ _).1,(hI.ok.sm _ _).2.1,rfl⟩ (r:=1) (by unfold Jh;rw[if_pos (.inr (by rw[<-Jk hI.ok Lr hI.rl];exact q7))]) _ (.inr rfl),tv⟩ (vI))
 refine aZ [] h fun _ _ h=>?_
 exact dR (DA ((fun z=>lf z && !decide (z=k1)),c1,some (k1,v1),M,K,UG (M,K,U,c) v1 ((af (aq n E V L T S) (ds.getD 0 0)).getD 0),c,(b9 mo k1 (2:Int))) (rk [0,1,2,69639,69640,69641]) h ⟨hI.step Lr gE Ac ⟨(hI.ok.sm _ _).1,(hI.ok.sm _ _).2.1,rfl⟩ (r:=2) (by unfold Jh;rw[if_neg (by rintro(y|y);exact z1 y;rw[<-Jk hI.ok Lr hI.rl] at y;rw[show Ho (M,K,U,c) _ _=false from q7] at y;cases y)]) _ (.inl rfl),tv⟩ (vI))
def Tp:dy Tryz.prog:=plain Tn
theorem aac:bG Tryz.prog 26 [(false,nv),(false,kI),(false,(.pair (.list (.list .int)) (.list (.list .int)))),(false,(.list .int))] [(.map .int .int),(.map .int .int),.bool] (fun x=>cF (I_ x.1.1)/\aC (K_ x.2.2.1.1)/\az (K_ x.2.2.1.1)/\aC (K_ x.2.2.1.2)/\az (K_ x.2.2.1.2)/\(J_ x.2.2.2.1).length<=10000/\∀d∈(J_ x.2.2.2.1),-9223372036854775808<=d/\d<=9223372036854775807) (fun x=>(sS (I_ x.1.1) (E_ x.1.2) (J_ x.2.1.1) (J_ x.2.1.2) (K_ x.2.2.1.1) (K_ x.2.2.1.2) (J_ x.2.2.2.1),alE (I_ x.1.1) (E_ x.1.2) (J_ x.2.1.1) (J_ x.2.1.2) (K_ x.2.2.1.1) (K_ x.2.2.1.2) (J_ x.2.2.2.1),ue (I_ x.1.1) (E_ x.1.2) (J_ x.2.1.1) (J_ x.2.1.2) (K_ x.2.2.1.1) (K_ x.2.2.1.2) (J_ x.2.2.2.1),())):=by
 refine bn Tryz.f26 91 [Tp,rL] Tryz.func26 fun o x hd _ _ h=>?_
 obtain⟨⟨(n:Int),(E:List (Int×Int))⟩,⟨(V:List Int),(L:List Int)⟩,⟨(T:List (List Int)),(S:List (List Int))⟩,(ds:List Int),_⟩:=x
 have jt:=mh h 0 E
 have gE:=dh h 1 V
 have gH:=dh h 2 L
 have lT:=gC h 3 T
 have Am:=gC h 4 S
 have L1:=dh h 5 ds
 change cF n/\aC T/\az T/\aC S/\az S/\ds.length<=10000/\∀d∈ds,-9223372036854775808<=d/\d<=9223372036854775807 at hd
 obtain⟨hn,eS,dc,e6,dO,si,Dw⟩:=hd
 have nQ:=dO.1
 refine go (pr:=(cF n/\aC T/\az T/\aC S/\az S/\ds.length<=10000/\∀d∈ds,-9223372036854775808<=d/\d<=9223372036854775807)) [] h (⟨hn,eS,dc,e6,dO,si,Dw⟩) fun _ _ h=>?_
 refine av h (fun(q1:(ue n E V L T S ds)=false)=>?_) (fun(q1:(ue n E V L T S ds)=true)=>?_)
 .refine aZ [] h fun _ _ h=>?_
  exact out (([]:bh .int Int),([]:bh .int Int),(false:Bool),()) h (by unfold sS alE;rw[q1];rfl)
 have fq:ue n E V L T S ds=true:=q1
 obtain⟨P0,XQ⟩:=(Bool.and_eq_true _ _).mp fq
 have An:E6 n E V L ds:=of_decide_eq_true P0
 have gz:aM n E V L T S=0:=of_decide_eq_true XQ
 obtain⟨gX,cO,To,_⟩:=An
 obtain⟨sj,hV,hL,_⟩:=aJ gX
 obtain⟨r1,r2,r3,_⟩:=bz sj
 have PA:=aO hV r1
 have Fi:=aO hL (by omega)
 obtain⟨_,hTT,_⟩:=aU (aK (aX gz).1)
 have hTl:=hTT.len
 refine aZ [] h fun _ _ h=>?_
 refine bq Int (List (Int×Int)) (fun i vm=>⟨[(3,eo 0),(4,ep 1),(5,ep 2),(6,ep 3),(11,em 4),(13,em 5),(14,em 6),(36,eo 7),(37,en (V.length:Int)),(38,en i)],[(0,some (.ar .int ds)),(1,some (.box 24 [.v (.int .i64 n),.own 8])),(2,some (.box 27 [.own 7,.own 9])),(3,some (.box 30 [.own 10,.own 11])),(4,some (.mL .int .int (eZ n E V L T S ds))),(5,some (.map .int .int vm)),(6,some (.map .int .int ([]:bh .int Int))),(7,some (.ar .int V)),(8,some (.ar j8 E)),(9,some (.ar .int L)),(10,some (.ar (.list .int) T)),(11,some (.ar (.list .int) S))],12⟩) (fun i vm=>0<=i/\i<=(V.length:Int)/\vm=Jm T (eZ n E V L T S ds) V i.toNat) (fun i vm=>((V.length:Int)-i).toNat) 0 [] (rk [5,6,4102,8198,40966,73734,77830,1,0,2,3,4]) h ⟨Int.le_refl _,Int.natCast_nonneg _,rfl⟩ fun i vm _ _ _ eH hI h=>?_
 obtain⟨i0,i1,i2⟩:=hI
 refine aZ [] h fun _ _ h=>?_
 refine av h (fun(q2:i<(V.length:Int))=>?_) (fun(q2:¬(i<(V.length:Int)))=>?_)
 .have hvv:=(aA.1 hV).2 _ (ag (l:=V) (i:=i.toNat) (d:=0) (by omega))
  have Yo:=xu T (eZ n E V L T S ds) V i.toNat
  rw[<-i2] at Yo
  have WY:(T.getD (V.getD i.toNat 0).toNat [])∈T:=ag (by omega)
  refine go (pr:=(bX i V.length)/\(bR .i64 ((-1)-(V.getD i.toNat 0)))/\(bX (V.getD i.toNat 0) T.length)) [] h ⟨bx,cz,bx⟩ fun _ _ h=>?_
  refine av h (fun(q3:(0:Int)<((T.getD (V.getD i.toNat 0).toNat []).length:Int))=>?_) (fun(q3:¬((0:Int)<((T.getD (V.getD i.toNat 0).toNat []).length:Int)))=>?_)
  .have ab5:=eS _ WY _ (ag (l:=(T.getD (V.getD i.toNat 0).toNat [])) (i:=0) (d:=0) (by have:=q3;omega))
   refine go (pr:=(bX (0:Int) (T.getD (V.getD i.toNat 0).toNat []).length)/\(cA .int ((T.getD (V.getD i.toNat 0).toNat []).getD 0 0))/\(cA .int (V.getD i.toNat 0))/\(vm.length<=2147483647)/\(bR .i64 (i+1))) [] h ⟨bx,wk,wk,ln,cz⟩ fun _ _ h=>?_
   exact dR (eH (i+1) (b9 vm (V.getD i.toNat 0) ((af (eZ n E V L T S ds) ((T.getD (V.getD i.toNat 0).toNat []).getD 0 0)).getD 0)) (ir 12) h ⟨by omega,by omega,by rw[SN i0 q3,<-i2]⟩ (by omega))
  refine go (pr:=(cA .int ((-1)-(V.getD i.toNat 0)))/\(cA .int (V.getD i.toNat 0))/\(vm.length<=2147483647)/\(bR .i64 (i+1))) [] h ⟨wk,wk,ln,cz⟩ fun _ _ h=>?_
  exact dR (eH (i+1) (b9 vm (V.getD i.toNat 0) ((af (eZ n E V L T S ds) ((-1)-(V.getD i.toNat 0))).getD 0)) (ir 12) h ⟨by omega,by omega,by rw[Wk i0 q3,<-i2]⟩ (by omega))
 have uP:i.toNat=V.length:=by omega
 rw[uP] at i2
 have Yo:=xu T (eZ n E V L T S ds) V V.length
 rw[<-i2] at Yo
 refine aZ [] h fun _ _ h=>?_
 refine bq Int (List (Int×Int)) (fun i eM=>⟨[(3,eo 0),(4,ep 1),(11,em 2),(13,em 3),(14,em 4),(62,eo 5),(63,en (L.length:Int)),(64,en i)],[(0,some (.ar .int ds)),(1,some (.box 24 [.v (.int .i64 n),.own 6])),(2,some (.mL .int .int (eZ n E V L T S ds))),(3,some (.map .int .int vm)),(4,some (.map .int .int eM)),(5,some (.ar .int L)),(6,some (.ar j8 E))],7⟩) (fun i eM=>0<=i/\i<=(L.length:Int)/\eM=UK (eZ n E V L T S ds) L i.toNat) (fun i eM=>((L.length:Int)-i).toNat) 0 [] (rk [0,1,4,5,6,9,8]) h ⟨Int.le_refl _,Int.natCast_nonneg _,rfl⟩ fun i eM _ _ _ lS hI h=>?_
 obtain⟨k0,k1,k2⟩:=hI
 refine aZ [] h fun _ _ h=>?_
 refine av h (fun(q4:i<(L.length:Int))=>?_) (fun(q4:¬(i<(L.length:Int)))=>?_)
 .have hle:=(aA.1 hL).2 _ (ag (l:=L) (i:=i.toNat) (d:=0) (by omega))
  have Rf:=xw (eZ n E V L T S ds) L i.toNat
  rw[<-k2] at Rf
  refine go (pr:=(bX i L.length)/\(bR .i64 (2*(L.getD i.toNat 0)))/\(cA .int (2*(L.getD i.toNat 0)))/\(cA .int (L.getD i.toNat 0))/\(eM.length<=2147483647)/\(bR .i64 (i+1))) [] h ⟨bx,cz,wk,wk,ln,cz⟩ fun _ _ h=>?_
  exact dR (lS (i+1) (b9 eM (L.getD i.toNat 0) ((af (eZ n E V L T S ds) (2*(L.getD i.toNat 0))).getD 0)) (ir 7) h ⟨by omega,by omega,by rw[O9 k0,<-k2]⟩ (by omega))
 have zm:i.toNat=L.length:=by omega
 rw[zm] at k2
 have Rf:=xw (eZ n E V L T S ds) L L.length
 rw[<-k2] at Rf
 refine aZ [] h fun _ _ h=>?_
 refine jk Int (List (Int×Int)) (List (Int×Int)) (fun i v2 e2=>⟨[(4,ep 0),(13,em 1),(14,em 2),(75,eo 3),(76,en (ds.length:Int)),(77,en i)],[(0,some (.box 24 [.v (.int .i64 n),.own 4])),(1,some (.map .int .int v2)),(2,some (.map .int .int e2)),(3,some (.ar .int ds)),(4,some (.ar j8 E))],5⟩) (fun i v2 e2=>0<=i/\i<=(ds.length:Int)/\v2=Q2 E ds (Jm T (eZ n E V L T S ds) V V.length) i.toNat/\e2=XS ds (UK (eZ n E V L T S ds) L L.length) i.toNat) (fun i v2 e2=>((ds.length:Int)-i).toNat) 0 vm eM (rk [1,3,4,0,6]) h ⟨Int.le_refl _,Int.natCast_nonneg _,i2,k2⟩ fun i v2 e2 _ _ _ uf hI h=>?_
 obtain⟨m0,m1,m2,m3⟩:=hI
 refine aZ [] h fun _ _ h=>?_
 refine av h (fun(q5:i<(ds.length:Int))=>?_) (fun(q5:¬(i<(ds.length:Int)))=>?_)
 .obtain⟨Rb,LG⟩:=To _ (ag (l:=ds) (i:=i.toNat) (d:=0) (by omega))
  rw[fk hL,decide_eq_true_eq] at LG
  obtain⟨hd3,hd4,hd5,hd6⟩:=bf gX (show ak L (ds.getD i.toNat 0) from LG)
  have hd7:=(aA.1 hV).2 _ hd3
  have Uf:=Jn E ds (Jm T (eZ n E V L T S ds) V V.length) i.toNat
  rw[<-m2] at Uf
  have he2:=Jo ds (UK (eZ n E V L T S ds) L L.length) i.toNat
  rw[<-m3] at he2
  have ab6:=xu T (eZ n E V L T S ds) V V.length
  have ab7:=xw (eZ n E V L T S ds) L L.length
  refine go (pr:=(bX i ds.length)/\(0<=(ds.getD i.toNat 0)/\(ds.getD i.toNat 0)/2<(E.length:Int)/\(ds.getD i.toNat 0)<=1000000)/\(cA .int (ah E (ds.getD i.toNat 0)))/\(v2.length<=2147483647)/\(0<=(ds.getD i.toNat 0)/\0<(2:Int)/\bR .i64 (ds.getD i.toNat 0))/\(cA .int ((ds.getD i.toNat 0)/2))/\(e2.length<=2147483647)/\(bR .i64 (i+1))) [] h ⟨bx,⟨by omega,by omega,by omega⟩,wk,ln,⟨by omega,by omega,⟨by omega,by omega⟩⟩,wk,ln,cz⟩ fun _ _ h=>?_
  exact dR (uf (i+1) (b9 v2 (ah E (ds.getD i.toNat 0)) (0:Int)) (b9 e2 ((ds.getD i.toNat 0)/2) (0:Int)) (ir 5) h ⟨by omega,by omega,by rw[Pa m0,<-m2],by rw[Pb m0,<-m3]⟩ (by omega))
 have XX:i.toNat=ds.length:=by omega
 rw[XX] at m2 m3
 refine aZ [] h fun _ _ h=>?_
 exact out ((v2:bh .int Int),(e2:bh .int Int),(true:Bool),()) h (by unfold sS alE;rw[fq,if_pos rfl,if_pos rfl,<-m2,<-m3])
def aad:dy Tryz.prog:=plain aac
theorem P3:bG Tryz.prog 9 [(false,(.pair nv (.pair kI (.pair (.list (.list .int)) (.list (.list .int)))))),(false,(.pair (.list (.list .int)) (.list (.list .int))))] [(.list .int),.int,.bool] (fun x=>cF (I_ x.1.1.1)/\aC (K_ x.1.2.2.1)/\az (K_ x.1.2.2.1)/\aC (K_ x.1.2.2.2)/\az (K_ x.1.2.2.2)/\aC (K_ x.2.1.1)/\az (K_ x.2.1.1)/\aC (K_ x.2.1.2)/\az (K_ x.2.1.2)) (fun x=>((gb (I_ x.1.1.1) (E_ x.1.1.2) (J_ x.1.2.1.1) (J_ x.1.2.1.2) (K_ x.1.2.2.1) (K_ x.1.2.2.2) (K_ x.2.1.1) (K_ x.2.1.2)).1,(gb (I_ x.1.1.1) (E_ x.1.1.2) (J_ x.1.2.1.1) (J_ x.1.2.1.2) (K_ x.1.2.2.1) (K_ x.1.2.2.2) (K_ x.2.1.1) (K_ x.2.1.2)).2.1,(gb (I_ x.1.1.1) (E_ x.1.1.2) (J_ x.1.2.1.1) (J_ x.1.2.1.2) (K_ x.1.2.2.1) (K_ x.1.2.2.2) (K_ x.2.1.1) (K_ x.2.1.2)).2.2,())):=by
 refine bn Tryz.f9 102 [aad,zn,PZ,JC,C4] Tryz.func9 fun o x hd _ _ h=>?_
 obtain⟨⟨⟨(n:Int),(E:List (Int×Int))⟩,⟨⟨(V:List Int),(L:List Int)⟩,⟨(T:List (List Int)),(S:List (List Int))⟩⟩⟩,⟨(U:List (List Int)),(R:List (List Int))⟩,_⟩:=x
 have jt:=mh h 0 E
 have gE:=dh h 1 V
 have gH:=dh h 2 L
 have lT:=gC h 3 T
 have Am:=gC h 4 S
 have L1:=gC h 5 U
 have SQ:=gC h 6 R
 change cF n/\aC T/\az T/\aC S/\az S/\aC U/\az U/\aC R/\az R at hd
 obtain⟨hn,eS,dc,e6,dO,qC,oO,qD,pL⟩:=hd
 refine go (pr:=(cF n/\aC T/\az T/\aC S/\az S/\aC U/\az U/\aC R/\az R)) [] h (⟨hn,eS,dc,e6,dO,qC,oO,qD,pL⟩) fun _ _ h=>?_
 refine av h (fun(q1:¬(cC n E V L T S U R=0))=>?_) (fun(q1:cC n E V L T S U R=0)=>?_)
 .refine aZ [] h fun _ _ h=>?_
  exact out (([]:List Int),((0:Int):Int),(false:Bool),()) h (by rw[ze (.inl q1)])
 refine go (pr:=(cF n/\aC T/\az T/\aC S/\az S/\aC U/\az U/\aC R/\az R)) [] h (⟨hn,eS,dc,e6,dO,qC,oO,qD,pL⟩) fun _ _ h=>?_
 refine av h (fun(q2:((ec n E V L T S U R).2)=true)=>?_) (fun(q2:((ec n E V L T S U R).2)=false)=>?_)
 .refine aZ [] h fun _ _ h=>?_
  exact out (([]:List Int),((0:Int):Int),(false:Bool),()) h (by rw[ze (.inr q2)])
 have LW:=q1
 obtain⟨hh0,hpw⟩:=za LW
 obtain⟨gX,gz⟩:=xy hh0
 have Xt:(ec n E V L T S U R).2=false:=q2
 have ab8:=Ht (n:=n) (E:=E) (V:=V) (L:=L) (T:=T) (S:=S)
 refine go (pr:=(cF n/\aC T/\az T/\aC S/\az S)) [] h (⟨hn,eS,dc,e6,dO⟩) fun _ _ h=>?_
 refine av h (fun(q3:¬(aM n E V L T S=0))=>?_) (fun(q3:aM n E V L T S=0)=>?_)
 .exact(q3 gz).elim
 refine aZ [] h fun _ _ h=>?_
 refine go_loop (Int) (fun i=>⟨[(2,ep 0),(3,ep 1),(46,eo 2),(47,en ((aT n E V L T S).length:Int)),(48,en i)],[(0,some (.box 32 [.v (.int .i64 n),.own 3,.own 4,.own 5,.own 6,.own 7])),(1,some (.box 30 [.own 8,.own 9])),(2,some (.ro (.list .int) (aT n E V L T S))),(3,some (.ar j8 E)),(4,some (.ar .int V)),(5,some (.ar .int L)),(6,some (.ar (.list .int) T)),(7,some (.ar (.list .int) S)),(8,some (.ar (.list .int) U)),(9,some (.ar (.list .int) R))],10⟩) (fun i=>0<=i/\i<=((aT n E V L T S).length:Int)/\∀j:Nat,(j:Int)<i->(Jv n E V L T S U R ((aT n E V L T S).getD j [])).2=false) (fun i=>(((aT n E V L T S).length:Int)-i).toNat) (0) (rk [7,4103,98311,0,1,2,3,4,5,6]) h ⟨Int.le_refl _,Int.natCast_nonneg _,fun j hj=>by omega⟩ fun i _ _ _ eH hI h=>?_
 obtain⟨i0,i1,i2⟩:=hI
 refine aZ [] h fun _ _ h=>?_
 refine av h (fun(q4:i<((aT n E V L T S).length:Int))=>?_) (fun(q4:¬(i<((aT n E V L T S).length:Int)))=>?_)
 .obtain⟨vI,_,ZB,z8⟩:=y9 (ag (l:=(aT n E V L T S)) (i:=i.toNat) (d:=[]) (by omega))
  have Du:((aT n E V L T S).getD i.toNat []).length<=10000:=by omega
  have X5:∀d∈((aT n E V L T S).getD i.toNat []),-9223372036854775808<=d/\d<=9223372036854775807:=fun d hd=>by have:=z8 d hd;omega
  refine go (pr:=(bX i (aT n E V L T S).length)/\(cF n/\aC T/\az T/\aC S/\az S/\((aT n E V L T S).getD i.toNat []).length<=10000/\∀d∈((aT n E V L T S).getD i.toNat []),-9223372036854775808<=d/\d<=9223372036854775807)/\(cF n)/\(cF n/\aC U/\az U/\aC R/\az R/\((aT n E V L T S).getD i.toNat []).length<=10000/\∀d∈((aT n E V L T S).getD i.toNat []),-9223372036854775808<=d/\d<=9223372036854775807)) [] h ⟨bx,⟨hn,eS,dc,e6,dO,Du,X5⟩,hn,⟨hn,qC,oO,qD,pL,Du,X5⟩⟩ fun _ _ h=>?_
  refine go_loop ((Int->Bool)×Nat×(Option (Int×Int))×Int×Bool) (fun x_=>(fun(lf:Int->Bool) (cnt:Nat) (cur:Option (Int×Int)) (least:Int) (bad:Bool)=>⟨[(2,ep 0),(3,ep 1),(12,eo 2),(16,em 3),(19,en least),(20,some ⟨[],.one (.b (.raw bad))⟩),(46,eo 4),(47,en ((aT n E V L T S).length:Int)),(48,en i),(77,ep 5)],[(0,some (.box 32 [.v (.int .i64 n),.own 6,.own 7,.own 8,.own 9,.own 10])),(1,some (.box 30 [.own 11,.own 12])),(2,some (.ro .int ((aT n E V L T S).getD i.toNat []))),(3,some (.mL .int .int (sS n E ((aR n E).1) ((aR n E).2) U R ((aT n E V L T S).getD i.toNat [])))),(4,some (.ro (.list .int) (aT n E V L T S))),(5,some (.iter .int .int (sS n E V L T S ((aT n E V L T S).getD i.toNat [])) lf cnt cur)),(6,some (.ar j8 E)),(7,some (.ar .int V)),(8,some (.ar .int L)),(9,some (.ar (.list .int) T)),(10,some (.ar (.list .int) S)),(11,some (.ar (.list .int) U)),(12,some (.ar (.list .int) R))],13⟩) x_.1 x_.2.1 x_.2.2.1 x_.2.2.2.1 x_.2.2.2.2) (fun x_=>(fun(lf:Int->Bool) (cnt:Nat) (cur:Option (Int×Int)) (least:Int) (bad:Bool)=>LZ (sS n E V L T S ((aT n E V L T S).getD i.toNat [])) (sS n E (aR n E).1 (aR n E).2 U R ((aT n E V L T S).getD i.toNat [])) lf least bad/\True) x_.1 x_.2.1 x_.2.2.1 x_.2.2.2.1 x_.2.2.2.2) (fun x_=>(fun(lf:Int->Bool) (cnt:Nat) (cur:Option (Int×Int)) (least:Int) (bad:Bool)=>cnt) x_.1 x_.2.1 x_.2.2.1 x_.2.2.2.1 x_.2.2.2.2) ((fun z=>(af (sS n E V L T S ((aT n E V L T S).getD i.toNat [])) z).isSome),(sS n E V L T S ((aT n E V L T S).getD i.toNat [])).length,none,0,false) (rk [0,1,8202,106506,2,151562,3,4,5,6,7,8,9]) h ⟨LZ.start,tv⟩ fun x_ _ _ _ lS hI h=>?_
  obtain⟨lf,cnt,cur,least,bad⟩:=x_
  obtain⟨hI,_⟩:=hI
  dsimp only at hI
  refine aZ [] h fun _ _ h=>?_
  refine tK ⟨.int,.int,(sS n E V L T S ((aT n E V L T S).getD i.toNat [])),lf,cnt,cur,5,78⟩ h (fun(gE:∀x:Int,lf x=false) _ _ h=>?_) (fun(k1:Int) (v1:Int) (c1:Nat) (gE:lf k1=true) (Bd: -9223372036854775808<=k1/\k1<=9223372036854775807) (Ac:af (sS n E V L T S ((aT n E V L T S).getD i.toNat [])) k1=some v1) (vI:c1<cnt) _ _ h=>?_)
  .have qd:Jv n E V L T S U R ((aT n E V L T S).getD i.toNat [])=(least,bad):=hI.fin gE Ju
   refine aZ [] h fun _ _ h=>?_
   refine av h (fun(q5:bad=true)=>?_) (fun(q5:bad=false)=>?_)
   .refine aZ [] h fun _ _ h=>?_
    exact out ((((aT n E V L T S).getD i.toNat []):List Int),(least:Int),(true:Bool),()) h (by rw[Hw LW Xt i0 (by omega) (by rw[qd,show bad=true from q5]) i2])
   refine go (pr:=(bR .i64 (i+1))) [] h cz fun _ _ h=>?_
   exact dR (eH (i+1) (rk [0,1,4,6,7,8,9,10,11,12]) h ⟨by omega,by omega,fun j hj=>if z:(j:Int)<i then i2 j z else by rw[show j=i.toNat by omega,qd];exact q5⟩ (by omega))
  refine go (pr:=(cA .int k1)) [] h wk fun _ _ h=>?_
  refine av h (fun(q6:(¬(((af (sS n E ((aR n E).1) ((aR n E).2) U R ((aT n E V L T S).getD i.toNat [])) k1).getD 0)=v1))/\((bad=false)\/(k1<least)))=>?_) (fun(q6:(((af (sS n E ((aR n E).1) ((aR n E).2) U R ((aT n E V L T S).getD i.toNat [])) k1).getD 0)=v1)\/((bad=true)/\(¬(k1<least))))=>?_)
  .refine aZ [] h fun _ _ h=>?_
   exact dR (lS ((fun z=>lf z && !decide (z=k1)),c1,some (k1,v1),k1,true) (ir 13) h ⟨hI.take Ac q6.1 q6.2,tv⟩ (vI))
  refine aZ [] h fun _ _ h=>?_
  exact dR (lS ((fun z=>lf z && !decide (z=k1)),c1,some (k1,v1),least,bad) (ir 13) h ⟨hI.stay Ac q6,tv⟩ (vI))
 refine aZ [] h fun _ _ h=>?_
 exact out (([]:List Int),((0:Int):Int),(false:Bool),()) h (by rw[BM LW Xt (fun j hj=>i2 j (by omega))])
def P4:dy Tryz.prog:=plain P3
theorem Tq:bG Tryz.prog 7 [(false,(.pair nv (.pair kI (.pair (.list (.list .int)) (.list (.list .int)))))),(false,(.pair (.list (.list .int)) (.list (.list .int))))] [.int] (fun x=>cF (I_ x.1.1.1)/\aC (K_ x.1.2.2.1)/\az (K_ x.1.2.2.1)/\aC (K_ x.1.2.2.2)/\az (K_ x.1.2.2.2)/\aC (K_ x.2.1.1)/\az (K_ x.2.1.1)/\aC (K_ x.2.1.2)/\az (K_ x.2.1.2)) (fun x=>(fN (I_ x.1.1.1) (E_ x.1.1.2) (J_ x.1.2.1.1) (J_ x.1.2.1.2) (K_ x.1.2.2.1) (K_ x.1.2.2.2) (K_ x.2.1.1) (K_ x.2.1.2),())):=by
 refine bn Tryz.f7 32 [zn,P4,JC] Tryz.func7 fun o x hd _ _ h=>?_
 obtain⟨⟨⟨(n:Int),(E:List (Int×Int))⟩,⟨⟨(V:List Int),(L:List Int)⟩,⟨(T:List (List Int)),(S:List (List Int))⟩⟩⟩,⟨(U:List (List Int)),(R:List (List Int))⟩,_⟩:=x
 have jt:=mh h 0 E
 have gE:=dh h 1 V
 have gH:=dh h 2 L
 have lT:=gC h 3 T
 have Am:=gC h 4 S
 have L1:=gC h 5 U
 have SQ:=gC h 6 R
 change cF n/\aC T/\az T/\aC S/\az S/\aC U/\az U/\aC R/\az R at hd
 obtain⟨hn,eS,dc,e6,dO,qC,oO,qD,pL⟩:=hd
 refine go (pr:=(cF n/\aC T/\az T/\aC S/\az S/\aC U/\az U/\aC R/\az R)) [] h (⟨hn,eS,dc,e6,dO,qC,oO,qD,pL⟩) fun _ _ h=>?_
 refine av h (fun(q1:¬(cC n E V L T S U R=0))=>?_) (fun(q1:cC n E V L T S U R=0)=>?_)
 .refine aZ [] h fun _ _ h=>?_
  exact out ((cC n E V L T S U R:Int),()) h (by unfold fN;rw[if_pos q1])
 refine go (pr:=(cF n/\aC T/\az T/\aC S/\az S/\aC U/\az U/\aC R/\az R)) [] h (⟨hn,eS,dc,e6,dO,qC,oO,qD,pL⟩) fun _ _ h=>?_
 refine av h (fun(q2:((ec n E V L T S U R).2)=true)=>?_) (fun(q2:((ec n E V L T S U R).2)=false)=>?_)
 .refine aZ [] h fun _ _ h=>?_
  exact out (((5:Int):Int),()) h (by unfold fN;rw[if_neg (by rw[show cC n E V L T S U R=0 from q1];exact fun q=>q rfl),if_pos q2])
 refine go (pr:=(cF n/\aC T/\az T/\aC S/\az S/\aC U/\az U/\aC R/\az R)) [] h (⟨hn,eS,dc,e6,dO,qC,oO,qD,pL⟩) fun _ _ h=>?_
 refine av h (fun(q3:((gb n E V L T S U R).2.2)=true)=>?_) (fun(q3:((gb n E V L T S U R).2.2)=false)=>?_)
 .refine aZ [] h fun _ _ h=>?_
  exact out (((7:Int):Int),()) h (by unfold fN;rw[if_neg (by rw[show cC n E V L T S U R=0 from q1];exact fun q=>q rfl),if_neg (by rw[q2];decide),if_pos q3])
 refine aZ [] h fun _ _ h=>?_
 exact out (((0:Int):Int),()) h (by unfold fN;rw[if_neg (by rw[show cC n E V L T S U R=0 from q1];exact fun q=>q rfl),if_neg (by rw[q2];decide),if_neg (by rw[q3];decide)])
def JE:dy Tryz.prog:=plain Tq
end Go.Proofs.YtnfdimfepbbbpaaGreat
namespace Go.Proofs.YtnfdimfepbbbpaaGreat
open Go.RowKit
open Go.Proofs.YtnfdimfepbbbpaaGreat.Deep
inductive pM (R:Int->Int->Prop):Int->Int->Prop
 |of {a b:Int} (h:R a b):pM R a b
 |id (a:Int):pM R a a
 |sy {a b:Int} (h:pM R a b):pM R b a
 |tr {a b c:Int} (h:pM R a b) (k:pM R b c):pM R a c
theorem pM.mono {R S:Int->Int->Prop}(h:∀a b,R a b->S a b){a b:Int}(k:pM R a b):pM S a b:=by
 induction k with
 |of q=>exact .of (h _ _ q)
 |id a=>exact .id a
 |sy _ ih=>exact ih.sy
 |tr _ _ i1 i2=>exact i1.tr i2
def Ts (left on:List (Int×Int))(L:List Int)(k:Nat)(a b:Int):Prop:=∃j,j<k/\(af on (L.getD j 0)).isSome=false/\a=(af left (2*L.getD j 0)).getD 0/\b=(af left (2*L.getD j 0+1)).getD 0
section
variable {left on:List (Int×Int)}{L ds:List Int}{s:S4}
theorem UU:∀k,(∀a b,Rl (jF left on L k) a b->pM (Ts left on L k) a b)/\∀a b,Ts left on L k a b->Rl (jF left on L k) a b
 |0=>⟨fun a b ⟨i,j,h,_⟩=>(by cases h),fun a b ⟨j,h,_⟩=>(by omega)⟩
 |k+1=>by
  obtain⟨h1,h2⟩:=UU k
  have hm:∀a b,Ts left on L k a b->Ts left on L (k+1) a b:=fun a b ⟨j,q,r⟩=>⟨j,by omega,r⟩
  have fq:=(BJ (left:=left) (on:=on) (L:=L) k).1
  unfold jF
  by_cases q:(af on (L.getD k 0)).isSome=true
  .rw[if_pos q]
   refine⟨fun a b h=>(h1 a b h).mono hm,fun a b ⟨j,j1,j2,j3⟩=>h2 a b ⟨j,?_,j2,j3⟩⟩
   rcases Nat.lt_succ_iff_lt_or_eq.1 j1 with w|w
   .exact w
   subst w;rw[q] at j2;cases j2
  rw[if_neg q]
  have q2:(af on (L.getD k 0)).isSome=false:=by simpa using q
  generalize hx:(af left (2*L.getD k 0)).getD 0=x
  generalize hy:(af left (2*L.getD k 0+1)).getD 0=y
  have hj:=(fq.jn x y).2.2
  have PB:=fq.add x
  have IZ:=PB.1.add y
  have jx:∀a b,Rl (cI (cI (jF left on L k) x) y) a b->pM (Ts left on L (k+1)) a b:=fun a b h=>by
   rcases(IZ.2 a b).1 h with z|⟨z1,z2⟩
   .rcases(PB.2 a b).1 z with w|⟨w1,w2⟩
    .exact(h1 a b w).mono hm
    rw[w1,w2];exact .id _
   rw[z1,z2];exact .id _
  have AR:pM (Ts left on L (k+1)) x y:=.of ⟨k,Nat.lt_succ_self _,q2,hx.symm,hy.symm⟩
  have hxx:Rl (cI (cI (jF left on L k) x) y) x x:=(IZ.2 x x).2 (.inl ((PB.2 x x).2 (.inr ⟨rfl,rfl⟩)))
  have hyy:Rl (cI (cI (jF left on L k) x) y) y y:=(IZ.2 y y).2 (.inr ⟨rfl,rfl⟩)
  refine⟨fun a b h=>?_,fun a b ⟨j,j1,j2,j3,j4⟩=>?_⟩
  .rcases(hj a b).1 h with z|⟨z1,z2⟩|⟨z1,z2⟩
   .exact jx a b z
   .exact((jx _ _ z1).tr AR).tr (jx _ _ z2)
   exact((jx _ _ z1).tr AR.sy).tr (jx _ _ z2)
  rcases Nat.lt_succ_iff_lt_or_eq.1 j1 with w|w
  .exact(hj a b).2 (.inl ((IZ.2 a b).2 (.inl ((PB.2 a b).2 (.inl (h2 a b ⟨j,w,j2,j3,j4⟩))))))
  subst w
  rw[j3,j4,hx,hy]
  exact(hj x y).2 (.inr (.inl ⟨hxx,hyy⟩))
theorem P5 (h:lM s):∀k,∀a b,(a=b\/Rl (Li left ds s k) a b)↔(a=b\/Rl s a b)
 |0,a,b=>Iff.rfl
 |k+1,a,b=>by
  have ih:=P5 h k a b
  have ho:=(Da (left:=left) (ds:=ds) h k).1
  rw[<-ih]
  show(a=b\/Rl (cI (cI (Li left ds s k) _) _) a b)↔_
  rw[((ho.add _).1.add _).2,(ho.add _).2]
  constructor
  .rintro(z|(z|⟨z1,z2⟩)|⟨z1,z2⟩)
   .exact .inl z
   .exact .inr z
   .exact .inl (z1.trans z2.symm)
   exact .inl (z1.trans z2.symm)
  rintro(z|z)
  .exact .inl z
  exact .inr (.inl (.inl z))
theorem Tt (a b:Int):(a=b\/Rl (dF left L ds) a b)↔pM (Ts left (BI ds ds.length) L L.length) a b:=by
 have fq:=(BJ (left:=left) (on:=BI ds ds.length) (L:=L) L.length).1
 obtain⟨h1,h2⟩:=UU (left:=left) (on:=BI ds ds.length) (L:=L) L.length
 show(a=b\/Rl (Li _ _ _ _) a b)↔_
 rw[P5 fq]
 constructor
 .rintro(z|z)
  .rw[z];exact .id _
  exact h1 a b z
 intro h
 induction h with
 |of q=>exact .inr (h2 _ _ q)
 |id a=>exact .inl rfl
 |sy _ ih=>exact ih.imp Eq.symm Rl.symm
 |tr _ _ i1 i2=>
  rcases i1 with z|z
  .rw[z];exact i2
  rcases i2 with w|w
  .rw[<-w];exact .inr z
  exact .inr (z.trans w)
theorem Tu {head r:Int}:Jh (dF left L ds) head r=1↔pM (Ts left (BI ds ds.length) L L.length) r head:=by
 rw[<-Tt]
 have h0:=((Jj left L ds).1.sm r head).2.2
 unfold Jh
 by_cases q:r=head\/Ho (dF left L ds) r head=true
 .rw[if_pos q];exact⟨fun _=>q.imp (fun z=>z) h0.1,fun _=>rfl⟩
 rw[if_neg q];exact⟨fun z=>absurd z (by decide),fun z=>absurd (z.imp (fun w=>w) h0.2) q⟩
end
end Go.Proofs.YtnfdimfepbbbpaaGreat
