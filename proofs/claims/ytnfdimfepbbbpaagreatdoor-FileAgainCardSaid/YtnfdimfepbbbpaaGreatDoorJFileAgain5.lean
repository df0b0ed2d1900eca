/- Texts joined by program: lemmas. -/
import Derived.Test.YtnfdimfepbbbpaaGreatDoorJFileAgain4
set_option linter.unusedSimpArgs false
set_option linter.unusedVariables false
set_option maxRecDepth 100000
set_option maxHeartbeats 8000000
open And renaming right->apG
open Array renaming getD_eq_getD_getElem?->cP,replicate->eN,toList_inj->aoB
open Bool renaming true->aC,false->aD,and_eq_true->bB,or_eq_true->e7
open Decidable renaming decide->aE
open Go renaming execOp->aG,cell_of_row->aK,World->aN,Value->aO
open Go.Act renaming eval->dH
open Go.Exit renaming thenS->an4
open Go.Fence renaming wide->bK
open Go.Maps renaming size->dO
open Go.Oper renaming semAt_none->arW
open Go.Proofs.Tryz renaming prog->aR
open Go.Region renaming wanted->dh
open Go.Utf8 renaming decode->bn
open Go.Value renaming pointer->cO,string->ao1
open Int renaming le_refl->bM,not_lt->aog,toNat_natCast->dw
open List renaming length->aM,append_assoc->cx,append_inj'->arX,append_nil->bW,drop_eq_getElem_cons->eE,drop_of_length_le->an8,eq_nil_iff_forall_not_mem->ap7,eq_nil_of_length_eq_zero->cH,ext_getElem->anG,filter_cons->ao2,flatMap_cons->dc,getD_eq_getElem?_getD->bD,getElem?_append_right->dP,getElem?_drop->cI,getElem?_eq_getElem->bN,getElem?_eq_none->aoc,getElem_map->apD,isEmpty_iff->anF,length->e8,length_append->bA,length_cons->b7,length_drop->b9,length_eq_zero_iff->ao4,length_map->bH,length_nil->cK,length_range->ao0,length_set->cq,length_take->bJ,map_append->cA,map_congr_left->dm,map_cons->bO,map_id->aot,map_map->cz,map_nil->cC,mem_append->bE,mem_append_left->bU,mem_append_right->bV,mem_cons->bg,mem_cons_of_mem->bl,mem_cons_self->aZ,mem_filter->bX,mem_flatMap->cQ,mem_flatten->aoZ,mem_map->bz,mem_or_eq_of_mem_set->aoT,mem_singleton->aU,not_mem_nil->aod,range->bT,replicate->dA,set_append_right->apo,set_cons_zero->aqg,sum_append->aoD,take_append_drop->eW,take_length->cg,take_of_length_le->dI,take_succ_cons->aoC,take_succ_eq_append_getElem->dV,take_zero->dJ
open List.Pairwise renaming imp_of_mem->ar7
open List.cons renaming inj->eZ
open Nat renaming add_zero->eH,beq->bp,le_refl->aW,le_trans->bC,lt_of_lt_of_le->bR,mul_le_mul->aoL,mul_le_mul_left->aoV,mul_le_mul_right->cm,mul_one->dy,not_lt_zero->aoE,sub_self->dx,succ_pos->ao3,zero_le->bQ
open Option renaming some->az,none->aA,isSome_iff_exists->bS,map_eq_some_iff->bF
open Option.some renaming injEq->cr
open _root_ renaming List->aa,Int->af,Nat->ah,Option->ai,ByteArray->aj,Bool->ak,True->av,absurd->ay
open Go.Proofs.Tryz
namespace Go.Proofs.YtnfdimfepbbbpaaGreatDoor
open Go.RowKit
abbrev ahx:sM:=⟨[.box 98 [.int,.own 3,.own 4,.own 5,.own 6,.own 7,.own 8,.bool,.int,.mp 9,.mp 10,.mp 11,.mp 12,.own 13],.box 107 [.own 2,.int,.int,.int],.rd (.pair .int .str),.any,.any,.any,.any,.any,.any,.map .str .int,.any,.any,.mj 14 .int .int 3,.any,.Er],[.ptr 0 0,.ptr 1 0],[.box 98 [.int,.own 3,.own 4,.own 5,.own 6,.own 7,.own 8,.bool,.int,.mp 9,.mp 10,.mp 11,.mp 12,.own 13],.box 107 [.own 2,.int,.int,.int],.rd (.pair .int .str),.any,.any,.any,.any,.any,.any,.map .str .int,.any,.any,.mj 14 .int .int 3,.any,.Er],[],14,aD,[]⟩
theorem afz (zN:af):vc 89 zN aR 64 ahx (λx=>(I_ x.1.2.1.2.2.2.1)=1/\qR zN (I_ x.1.2.1.2.1) (I_ x.1.2.1.2.2.1) (show aa (af×aj) from x.1.2.2.1)/\yo (show jw .str af from x.1.2.2.2.2.2.2.2.2.2.1) 1000001/\(show jw .int (aa af) from x.1.2.2.2.2.2.2.2.2.2.2.2.2.1).length<=1000000) (λx=>((1:af)<((show aa (af×aj) from x.1.2.2.1).length:af)/\(jo (k:=.str) (show jw .str af from x.1.2.2.2.2.2.2.2.2.2.1) (((show aa (af×aj) from x.1.2.2.1).getD 1 (0,⟨#[]⟩)).2)).isSome=aC/\(jo (k:=.str) (show jw .str af from x.1.2.2.2.2.2.2.2.2.2.1) (((show aa (af×aj) from x.1.2.2.1).getD 1 (0,⟨#[]⟩)).2)).getD 0<0)/\(jr (show jw .int (aa af) from x.1.2.2.2.2.2.2.2.2.2.2.2.2.1) (-1-(jo (k:=.str) (show jw .str af from x.1.2.2.2.2.2.2.2.2.2.1) (((show aa (af×aj) from x.1.2.2.1).getD 1 (0,⟨#[]⟩)).2)).getD 0)).isSome=aD/\∀i,2<=i->i<(show aa (af×aj) from x.1.2.2.1).length->ov (show jw .str af from x.1.2.2.2.2.2.2.2.2.2.1) aD (lT (show aa (af×aj) from x.1.2.2.1) i)) (λx=>((((I_ x.1.1.1),(),(),(),(),(),(),(show ak from x.1.1.2.2.2.2.2.2.2.1),(I_ x.1.1.2.2.2.2.2.2.2.2.1),(),(),(),(),(),()),((),(I_ x.1.2.1.2.1),(I_ x.1.2.1.2.2.1),((show aa (af×aj) from x.1.2.2.1).length:af),()),(show aa (af×aj) from x.1.2.2.1),(),(),(),(),(),(),(show jw .str af from x.1.2.2.2.2.2.2.2.2.2.1),(),(),(kZ (show jw .int (aa af) from x.1.2.2.2.2.2.2.2.2.2.2.2.2.1) (-1-(jo (k:=.str) (show jw .str af from x.1.2.2.2.2.2.2.2.2.2.1) (((show aa (af×aj) from x.1.2.2.1).getD 1 (0,⟨#[]⟩)).2)).getD 0) (((show aa (af×aj) from x.1.2.2.1).drop 2).map λp=>uG (show jw .str af from x.1.2.2.2.2.2.2.2.2.2.1) p.2)),(),(),()),(()))):=by
 refine tB f64 50 [(aft zN),(thin (afy zN) [9]),Lr] func64 λo A x hd _ _ h=>?_;obtain⟨⟨⟨(xk:af),_,_,_,_,_,_,(xb:ak),(xt:af),_,_,_,_,_,_⟩,⟨_,(wa:af),(wz:af),(wn:af),_⟩,(ws:aa (af×aj)),_,_,_,_,_,_,(nm:jw .str af),_,_,(tu:jw .int (aa af)),_,_,_⟩,⟨_,_,_⟩⟩:=x;have rI:(aM ws:af)<=9223372036854775807:=tP h 2 (t:=(.pair .int .str)) (l:=ws);change wn=1/\qR zN wa wz ws/\yo nm 1000001/\tu.length<=1000000 at hd;obtain⟨rfl,hB,Aj,MU⟩:=hd;have QJ:=hB.b.a0;have QK:=hB.b.a1;have LO:=hB.z0;have Af:=hB.z1;have hN:=hB.n;have hlb:=hB.b.len;refine tY [(1000000,aC)] h ?_;intro _ _ h
 by_cases z1:(1:af)<(aM ws:af)/\(jo (k:=.str) nm ((ws.getD 1 (0,⟨#[]⟩)).2)).isSome=aC/\(jo (k:=.str) nm ((ws.getD 1 (0,⟨#[]⟩)).2)).getD 0<0
 rotate_left
 .refine zI (show ¬(((1:af)<(aM ws:af)/\(jo (k:=.str) nm ((ws.getD 1 (0,⟨#[]⟩)).2)).isSome=aC/\(jo (k:=.str) nm ((ws.getD 1 (0,⟨#[]⟩)).2)).getD 0<0)/\(jr tu (-1-(jo (k:=.str) nm ((ws.getD 1 (0,⟨#[]⟩)).2)).getD 0)).isSome=aD/\∀i,2<=i->i<ws.length->ov nm aD (lT ws i)) from λh=>z1 h.1) ?_;exact mB (pr:=(qR zN wa wz ws/\0<=(1:af)/\(1:af)<=1000000/\yo nm 1000001)/\¬((1:af)<(aM ws:af)/\(jo (k:=.str) nm ((ws.getD 1 (0,⟨#[]⟩)).2)).isSome=aC/\(jo (k:=.str) nm ((ws.getD 1 (0,⟨#[]⟩)).2)).getD 0<0)) (aah zN).op [] 2 h (⟨⟨hB,by omega,by omega,Aj⟩,z1⟩) λ_ _ _ h1 h2 h3=>qI h1.choose_spec h2 h3
 have Q1:=Aj _ z1.2.1;obtain⟨wS,hp1⟩:=hB.pl (i:=1) (by omega);have Af:=hB.b.sz (n:=1) (by omega);refine go (pr:=((qR zN wa wz ws/\0<=(1:af)/\(1:af)<=1000000/\yo nm 1000001)/\((1:af)<(aM ws:af)/\(jo (k:=.str) nm ((ws.getD 1 (0,⟨#[]⟩)).2)).isSome=aC/\(jo (k:=.str) nm ((ws.getD 1 (0,⟨#[]⟩)).2)).getD 0<0))/\(nv .int (-1-(jo (k:=.str) nm ((ws.getD 1 (0,⟨#[]⟩)).2)).getD 0))) [] h ⟨⟨⟨hB,by omega,by omega,Aj⟩,z1⟩,wk⟩ ?_;refine jZ (λ(q1:((jr tu (-1-(jo (k:=.str) nm ((ws.getD 1 (0,⟨#[]⟩)).2)).getD 0)).isSome)=aC)=>?_) (λ(q1:((jr tu (-1-(jo (k:=.str) nm ((ws.getD 1 (0,⟨#[]⟩)).2)).getD 0)).isSome)=aD)=>?_)
 .intro _ _ h;refine zI (show ¬(((1:af)<(aM ws:af)/\(jo (k:=.str) nm ((ws.getD 1 (0,⟨#[]⟩)).2)).isSome=aC/\(jo (k:=.str) nm ((ws.getD 1 (0,⟨#[]⟩)).2)).getD 0<0)/\(jr tu (-1-(jo (k:=.str) nm ((ws.getD 1 (0,⟨#[]⟩)).2)).getD 0)).isSome=aD/\∀i,2<=i->i<ws.length->ov nm aD (lT ws i)) from λh=>Bool.noConfusion (q1.symm.trans h.2.1)) ?_;exact mB (pr:=av) (yY aR) [] 3 h tv λ_ _ _ h1 h2 h3=>qI (Ae (ft:=89) (x:=(wa+(ws.getD 1 (0,⟨#[]⟩)).1)) (y:=(12:af)) h1 ⟨by omega,by omega⟩ (by decide)) h2 h3
 refine jY (pr:=(nv .int (-1-(jo (k:=.str) nm ((ws.getD 1 (0,⟨#[]⟩)).2)).getD 0))/\(DA (k:=.int) aA (-1-(jo (k:=.str) nm ((ws.getD 1 (0,⟨#[]⟩)).2)).getD 0))/\(tu.length<=2147483647)) ⟨wk,tv,ln⟩ ?_;refine uf af (aa (af×aa af)) (λn tq=>⟨[(0,ep 0),(1,ep 1),(4,en (-1-(jo (k:=.str) nm ((ws.getD 1 (0,⟨#[]⟩)).2)).getD 0))],[(0,az (.box 98 [.v (.int .i64 xk),.own 3,.own 4,.own 5,.own 6,.own 7,.own 8,.b (.raw xb),.v (.int .i64 xt),.mp 9,.mp 10,.mp 11,.mp 12,.own 13])),(1,az (.box 107 [.own 2,.v (.int .i64 wa),.v (.int .i64 wz),.v (.int .i64 n)])),(2,az (.ar (.pair .int .str) ws)),(9,az (.map .str .int nm)),(12,az (.ext (.mj 14 .int aA .int 3 tq)))],15⟩) (λn tq=>2<=n/\n<=(aM ws:af)/\tq=kZ tu (-1-(jo (k:=.str) nm ((ws.getD 1 (0,⟨#[]⟩)).2)).getD 0) (OY nm ws 2 n)/\∀i:ah,2<=i->(i:af)<n->ov nm aD (lT ws i)) (λn tq=>((aM ws:af)-n).toNat) 2 (kZ tu (-1-(jo (k:=.str) nm ((ws.getD 1 (0,⟨#[]⟩)).2)).getD 0) []) (rk [0,1,2,3,4,5,6,7,8,9,10,11,12,13,102415]) ⟨by omega,by omega,bh (kZ tu (-1-(jo (k:=.str) nm ((ws.getD 1 (0,⟨#[]⟩)).2)).getD 0)) (show[]=OY nm ws 2 2 from by unfold OY;rw[List.drop_eq_nil_of_le (by rw[bJ];omega)];rfl),λi h2 h3=>by omega⟩ λn tq _ mR hI=>?_;have⟨n0,n1,n2,n3⟩:=hI;refine jY (pr:=av) tv ?_;refine jZ (λ(q2:(aE (n<(aM ws:af)))=aC)=>?_) (λ(q2:(aE (n<(aM ws:af)))=aD)=>?_)
 .have hq_:=bq q2;have hvl:tq.length<=tu.length+1:=by rw[n2];exact vp _ _ _
  have hkl:=SM nm ws 2 n;have OR:(jr tq (-1-(jo (k:=.str) nm ((ws.getD 1 (0,⟨#[]⟩)).2)).getD 0)).getD []=OY nm ws 2 n:=by rw[n2];exact ZL
  have QL:((jr tq (-1-(jo (k:=.str) nm ((ws.getD 1 (0,⟨#[]⟩)).2)).getD 0)).getD []).length<=1000000:=by rw[OR];omega
  refine FC [(1000006,aC)] ?_;intro _ _ h
  by_cases z2:n<(aM ws:af)/\ov nm aD (ws.getD n.toNat (0,⟨#[]⟩)).2
  rotate_left
  .refine zI (show ¬(((1:af)<(aM ws:af)/\(jo (k:=.str) nm ((ws.getD 1 (0,⟨#[]⟩)).2)).isSome=aC/\(jo (k:=.str) nm ((ws.getD 1 (0,⟨#[]⟩)).2)).getD 0<0)/\(jr tu (-1-(jo (k:=.str) nm ((ws.getD 1 (0,⟨#[]⟩)).2)).getD 0)).isSome=aD/\∀i,2<=i->i<ws.length->ov nm aD (lT ws i)) from λh=>z2 ⟨bq q2,h.2.2 n.toNat (by omega) (by omega)⟩) ?_;exact Ku (pr:=(nv .int (-1-(jo (k:=.str) nm ((ws.getD 1 (0,⟨#[]⟩)).2)).getD 0))/\((qR zN wa wz ws/\0<=n/\n<=1000000/\yo nm 1000001)/\¬(n<(aM ws:af)/\ov nm aD (ws.getD n.toNat (0,⟨#[]⟩)).2))) (Tf zN).op [] 13 h (⟨wk,⟨⟨hB,by omega,by omega,Aj⟩,z2⟩⟩) λ_ _ _ h1 h2 h3=>qI h1.choose_spec h2 h3
  refine go (pr:=(nv .int (-1-(jo (k:=.str) nm ((ws.getD 1 (0,⟨#[]⟩)).2)).getD 0))/\((qR zN wa wz ws/\0<=n/\n<=1000000/\yo nm 1000001)/\(n<(aM ws:af)/\ov nm aD (ws.getD n.toNat (0,⟨#[]⟩)).2))/\((R2.box 98 [.v (.int .i64 xk),.own 3,.own 4,.own 5,.own 6,.own 7,.own 8,.b (.raw xb),.v (.int .i64 xt),.mp 9,.mp 10,.mp 11,.mp 12,.own 13])=R2.box 98 [.v (.int .i64 xk),.own 3,.own 4,.own 5,.own 6,.own 7,.own 8,.b (.raw xb),.v (.int .i64 xt),.mp 9,.mp 10,.mp 11,.mp 12,.own 13])/\((R2.map .str .int nm)=R2.map .str .int nm)/\(((jr tq (-1-(jo (k:=.str) nm ((ws.getD 1 (0,⟨#[]⟩)).2)).getD 0)).getD []).length+([uG nm (ws.getD n.toNat (0,⟨#[]⟩)).2]:aa af).length<=2147483647)/\(nv .int (-1-(jo (k:=.str) nm ((ws.getD 1 (0,⟨#[]⟩)).2)).getD 0))/\(DA (k:=.int) (az (-1-(jo (k:=.str) nm ((ws.getD 1 (0,⟨#[]⟩)).2)).getD 0)) (-1-(jo (k:=.str) nm ((ws.getD 1 (0,⟨#[]⟩)).2)).getD 0))/\(tq.length<=2147483647)) [] h ⟨wk,⟨⟨hB,by omega,by omega,Aj⟩,z2⟩,rfl,rfl,ln,wk,rfl,ln⟩ ?_;exact oa (mR (n+1) (kZ tq (-1-(jo (k:=.str) nm ((ws.getD 1 (0,⟨#[]⟩)).2)).getD 0) (((jr tq (-1-(jo (k:=.str) nm ((ws.getD 1 (0,⟨#[]⟩)).2)).getD 0)).getD [])++([uG nm (ws.getD n.toNat (0,⟨#[]⟩)).2]:aa af))) (rk [0,1,2,3,4,5,6,7,8,9,10,11,12,13,73743]) ⟨by omega,by omega,by rw[n2];exact adi n0 (by omega),λi h2 h3=>if h4:(i:af)<n then n3 i h2 h4 else by have e_:i=n.toNat:=(by omega);subst e_;exact z2.2⟩ (by omega))
 have hq_:=bL q2;refine jQ ?_;intro _ _ h;refine vY (show((1:af)<(aM ws:af)/\(jo (k:=.str) nm ((ws.getD 1 (0,⟨#[]⟩)).2)).isSome=aC/\(jo (k:=.str) nm ((ws.getD 1 (0,⟨#[]⟩)).2)).getD 0<0)/\(jr tu (-1-(jo (k:=.str) nm ((ws.getD 1 (0,⟨#[]⟩)).2)).getD 0)).isSome=aD/\∀i,2<=i->i<ws.length->ov nm aD (lT ws i) from⟨z1,q1,λi h2 h3=>n3 i h2 (by omega)⟩) ?_;exact mA (((xk,(),(),(),(),(),(),xb,xt,(),(),(),(),(),()),((),wa,wz,n,()),ws,(),(),(),(),(),(),nm,(),(),tq,(),(),()),(())) (ir 15) h (by have e_:n=(aM ws:af):=(by omega);have GL:tq=kZ tu (-1-(jo (k:=.str) nm ((ws.getD 1 (0,⟨#[]⟩)).2)).getD 0) ((ws.drop 2).map λp=>uG nm p.2):=(by rw[n2,e_];exact bh _ (SN nm ws 2));rw[GL,e_]<;>rfl)
def akF (zN:af):lM aR:=r8 (afz zN).yes
def akG (zN:af):Ad aR:=Hv (afz zN).no
abbrev ahy:sM:=⟨[.box 98 [.int,.own 3,.own 4,.own 5,.own 6,.own 7,.own 8,.bool,.int,.mp 9,.mp 10,.mp 11,.mp 12,.own 13],.box 107 [.own 2,.int,.int,.int],.rd (.pair .int .str),.any,.any,.any,.any,.any,.any,.map .str .int,.any,.any,.any,.nest 14 24 (.list .int) 3,.Er],[.ptr 0 0,.ptr 1 0],[.box 98 [.int,.own 3,.own 4,.own 5,.own 6,.own 7,.own 8,.bool,.int,.mp 9,.mp 10,.mp 11,.mp 12,.own 13],.box 107 [.own 2,.int,.int,.int],.rd (.pair .int .str),.any,.any,.any,.any,.any,.any,.map .str .int,.any,.any,.any,.nest 14 24 (.list .int) 3,.Er],[],13,aD,[]⟩
theorem afA (zN:af):vc 89 zN aR 65 ahy (λx=>(I_ x.1.2.1.2.2.2.1)=1/\qR zN (I_ x.1.2.1.2.1) (I_ x.1.2.1.2.2.1) (show aa (af×aj) from x.1.2.2.1)/\yo (show jw .str af from x.1.2.2.2.2.2.2.2.2.2.1) 1000001/\(K_ x.1.2.2.2.2.2.2.2.2.2.2.2.2.2.1).length<=1000000) (λx=>3<=(show aa (af×aj) from x.1.2.2.1).length/\∀i,1<=i->i<(show aa (af×aj) from x.1.2.2.1).length->ov (show jw .str af from x.1.2.2.2.2.2.2.2.2.2.1) aC (lT (show aa (af×aj) from x.1.2.2.1) i)) (λx=>((((I_ x.1.1.1),(),(),(),(),(),(),(show ak from x.1.1.2.2.2.2.2.2.2.1),(I_ x.1.1.2.2.2.2.2.2.2.2.1),(),(),(),(),(),()),((),(I_ x.1.2.1.2.1),(I_ x.1.2.1.2.2.1),((show aa (af×aj) from x.1.2.2.1).length:af),()),(show aa (af×aj) from x.1.2.2.1),(),(),(),(),(),(),(show jw .str af from x.1.2.2.2.2.2.2.2.2.2.1),(),(),(),((K_ x.1.2.2.2.2.2.2.2.2.2.2.2.2.2.1)++[((show aa (af×aj) from x.1.2.2.1).drop 1).map λp=>uG (show jw .str af from x.1.2.2.2.2.2.2.2.2.2.1) p.2]),(),()),(()))):=by
 refine tB f65 30 [(afy zN),Lr] func65 λo A x hd _ _ h=>?_;obtain⟨⟨⟨(xk:af),_,_,_,_,_,_,(xb:ak),(xt:af),_,_,_,_,_,_⟩,⟨_,(wa:af),(wz:af),(wn:af),_⟩,(ws:aa (af×aj)),_,_,_,_,_,_,(nm:jw .str af),_,_,_,(xr:aa (aa af)),_,_⟩,⟨_,_,_⟩⟩:=x;have rI:(aM ws:af)<=9223372036854775807:=tP h 2 (t:=(.pair .int .str)) (l:=ws);change wn=1/\qR zN wa wz ws/\yo nm 1000001/\xr.length<=1000000 at hd;obtain⟨rfl,hB,Aj,MC⟩:=hd;have QJ:=hB.b.a0;have QK:=hB.b.a1;have LO:=hB.z0;have Af:=hB.z1;have hN:=hB.n;have hlb:=hB.b.len;refine tY [(1000000,aC)] h ?_;intro _ _ h
 by_cases z1:(1:af)<(aM ws:af)/\ov nm aC (ws.getD 1 (0,⟨#[]⟩)).2
 rotate_left
 .refine zI (show ¬(3<=ws.length/\∀i,1<=i->i<ws.length->ov nm aC (lT ws i)) from λh=>z1 ⟨by omega,h.2 1 (by omega) (by omega)⟩) ?_;exact mB (pr:=(qR zN wa wz ws/\0<=(1:af)/\(1:af)<=1000000/\yo nm 1000001)/\¬((1:af)<(aM ws:af)/\ov nm aC (ws.getD 1 (0,⟨#[]⟩)).2)) (Tf zN).op [] 2 h (⟨⟨hB,by omega,by omega,Aj⟩,z1⟩) λ_ _ _ h1 h2 h3=>qI h1.choose_spec h2 h3
 by_cases z2:(2:af)<(aM ws:af)/\ov nm aC (ws.getD 2 (0,⟨#[]⟩)).2
 rotate_left
 .refine zI (show ¬(3<=ws.length/\∀i,1<=i->i<ws.length->ov nm aC (lT ws i)) from λh=>z2 ⟨by omega,h.2 2 (by omega) (by omega)⟩) ?_;exact mB (pr:=((qR zN wa wz ws/\0<=(1:af)/\(1:af)<=1000000/\yo nm 1000001)/\((1:af)<(aM ws:af)/\ov nm aC (ws.getD 1 (0,⟨#[]⟩)).2))/\((qR zN wa wz ws/\0<=(2:af)/\(2:af)<=1000000/\yo nm 1000001)/\¬((2:af)<(aM ws:af)/\ov nm aC (ws.getD 2 (0,⟨#[]⟩)).2))) (Tf zN).op [] 5 h (⟨⟨⟨hB,by omega,by omega,Aj⟩,z1⟩,⟨⟨hB,by omega,by omega,Aj⟩,z2⟩⟩) λ_ _ _ h1 h2 h3=>qI h1.choose_spec h2 h3
 refine go (pr:=((qR zN wa wz ws/\0<=(1:af)/\(1:af)<=1000000/\yo nm 1000001)/\((1:af)<(aM ws:af)/\ov nm aC (ws.getD 1 (0,⟨#[]⟩)).2))/\((qR zN wa wz ws/\0<=(2:af)/\(2:af)<=1000000/\yo nm 1000001)/\((2:af)<(aM ws:af)/\ov nm aC (ws.getD 2 (0,⟨#[]⟩)).2))) [] h ⟨⟨⟨hB,by omega,by omega,Aj⟩,z1⟩,⟨⟨hB,by omega,by omega,Aj⟩,z2⟩⟩ ?_;refine uf af (aa af) (λn kl=>⟨[(0,ep 0),(1,ep 1),(4,eo 13)],[(0,az (.box 98 [.v (.int .i64 xk),.own 3,.own 4,.own 5,.own 6,.own 7,.own 8,.b (.raw xb),.v (.int .i64 xt),.mp 9,.mp 10,.mp 11,.mp 12,.own 14])),(1,az (.box 107 [.own 2,.v (.int .i64 wa),.v (.int .i64 wz),.v (.int .i64 n)])),(2,az (.ar (.pair .int .str) ws)),(9,az (.map .str .int nm)),(13,az (.row 3 .int kl)),(14,az (.ext (.nest 15 aA 24 (.list .int) 3 xr)))],16⟩) (λn kl=>3<=n/\n<=(aM ws:af)/\kl=OY nm ws 1 n/\∀i:ah,1<=i->(i:af)<n->ov nm aC (lT ws i)) (λn kl=>((aM ws:af)-n).toNat) 3 ([uG nm (ws.getD 1 (0,⟨#[]⟩)).2,uG nm (ws.getD 2 (0,⟨#[]⟩)).2]:aa af) (rk [0,1,2,3,4,5,6,7,8,9,10,11,12,24591,13,14]) ⟨by omega,by omega,(adh (by omega)).symm,λi h2 h3=>if e_:i=1 then by subst e_;exact z1.2 else by have GL:i=2:=(by omega);subst GL;exact z2.2⟩ λn kl _ mR hI=>?_;have⟨n0,n1,n2,n3⟩:=hI;refine jY (pr:=av) tv ?_;refine jZ (λ(q1:(aE (n<(aM ws:af)))=aC)=>?_) (λ(q1:(aE (n<(aM ws:af)))=aD)=>?_)
 .have hq_:=bq q1;have hkl:=SM nm ws 1 n;have hkn:kl.length<=1000000:=by rw[n2];omega
  refine FC [(1000002,aC)] ?_;intro _ _ h
  by_cases z3:n<(aM ws:af)/\ov nm aC (ws.getD n.toNat (0,⟨#[]⟩)).2
  rotate_left
  .refine zI (show ¬(3<=ws.length/\∀i,1<=i->i<ws.length->ov nm aC (lT ws i)) from λh=>z3 ⟨bq q1,h.2 n.toNat (by omega) (by omega)⟩) ?_;exact mB (pr:=(qR zN wa wz ws/\0<=n/\n<=1000000/\yo nm 1000001)/\¬(n<(aM ws:af)/\ov nm aC (ws.getD n.toNat (0,⟨#[]⟩)).2)) (Tf zN).op [] 3 h (⟨⟨hB,by omega,by omega,Aj⟩,z3⟩) λ_ _ _ h1 h2 h3=>qI h1.choose_spec h2 h3
  refine go (pr:=((qR zN wa wz ws/\0<=n/\n<=1000000/\yo nm 1000001)/\(n<(aM ws:af)/\ov nm aC (ws.getD n.toNat (0,⟨#[]⟩)).2))/\(kl.length+([uG nm (ws.getD n.toNat (0,⟨#[]⟩)).2]:aa af).length<=2147483647)) [] h ⟨⟨⟨hB,by omega,by omega,Aj⟩,z3⟩,ln⟩ ?_;exact oa (mR (n+1) (kl++([uG nm (ws.getD n.toNat (0,⟨#[]⟩)).2]:aa af)) (rk [0,1,2,3,4,5,6,7,8,9,10,11,12,28688,14,15]) ⟨by omega,by omega,by rw[n2];exact N6 (by omega) (by omega),λi h2 h3=>if h4:(i:af)<n then n3 i h2 h4 else by have e_:i=n.toNat:=(by omega);subst e_;exact z3.2⟩ (by omega))
 have hq_:=bL q1;refine AP (pr:=(kl=kl)/\(xr.length+([kl]:aa (aa af)).length<=2147483647)) [(26,aC)] ⟨rfl,ln⟩ ?_;intro _ _ h;refine vY (show 3<=ws.length/\∀i,1<=i->i<ws.length->ov nm aC (lT ws i) from⟨by omega,λi h2 h3=>n3 i h2 (by omega)⟩) ?_;exact mA (((xk,(),(),(),(),(),(),xb,xt,(),(),(),(),(),()),((),wa,wz,n,()),ws,(),(),(),(),(),(),nm,(),(),(),(xr++([kl]:aa (aa af))),(),()),(())) (rk [0,1,2,3,4,5,6,7,8,9,10,11,12,36880,36880]) h (by have e_:n=(aM ws:af):=(by omega);have GL:kl=(ws.drop 1).map λp=>uG nm p.2:=(by rw[n2,e_];exact SN nm ws 1);rw[GL,e_]<;>rfl)
def akH (zN:af):lM aR:=r8 (afA zN).yes
def akI (zN:af):Ad aR:=Hv (afA zN).no
abbrev aai:sM:=⟨[.box 98 [.int,.own 1,.own 2,.own 3,.own 4,.own 5,.own 6,.bool,.int,.mp 7,.mp 8,.mp 9,.mp 10,.own 11],.any,.any,.any,.any,.any,.any,.any,.any,.any,.any,.any],[.ptr 0 0,.str],[.box 98 [.int,.own 1,.own 2,.own 3,.own 4,.own 5,.own 6,.bool,.int,.mp 7,.mp 8,.mp 9,.mp 10,.own 11],.any,.any,.any,.any,.any,.any,.any,.any,.any,.any,.any],[.int,.bool],12,aD,[]⟩
theorem akJ:nX aR 60 aai (λ_=>av) (λx=>((((I_ x.1.1.1),(),(),(),(),(),(),(show ak from x.1.1.2.2.2.2.2.2.2.1),(I_ x.1.1.2.2.2.2.2.2.2.2.1),(),(),(),(),(),()),(),(),(),(),(),(),(),(),(),(),(),()),((kV (I_ x.1.1.1) (S_ x.2.2.1)).1,(kV (I_ x.1.1.1) (S_ x.2.2.1)).2,()))):=by
 refine oA f60 34 [] aai func60 λo A x hd _ _ h=>?_;obtain⟨⟨⟨(xk:af),_,_,_,_,_,_,(xb:ak),(xt:af),_,_,_,_,_,_⟩,_,_,_,_,_,_,_,_,_,_,_,_⟩,⟨_,(x:aj),_⟩⟩:=x;refine tY [] h ?_;refine jR (p:=x=(ar8:aj)) (λq1=>?_) λq1=>?_
 .refine jQ ?_;intro _ _ h;exact mA (((xk,(),(),(),(),(),(),xb,xt,(),(),(),(),(),()),(),(),(),(),(),(),(),(),(),(),(),()),((0:af),aC,())) (ir 12) h (by show _=(_,((kV xk x).1,((kV xk x).2,())));rw[show kV xk x=((0:af),aC) from by unfold kV;simp[q1]]<;>rfl)
 refine jQ ?_;refine jR (p:=x=(ar9:aj)) (λq2=>?_) λq2=>?_
 .refine jQ ?_;intro _ _ h;exact mA (((xk,(),(),(),(),(),(),xb,xt,(),(),(),(),(),()),(),(),(),(),(),(),(),(),(),(),(),()),((1:af),aC,())) (ir 12) h (by show _=(_,((kV xk x).1,((kV xk x).2,())));rw[show kV xk x=((1:af),aC) from by unfold kV;simp[q1,q2]]<;>rfl)
 refine jQ ?_;refine jR (p:=x=(fo:aj)) (λq3=>?_) λq3=>?_
 .refine jQ ?_;refine jR (p:=x=(fo:aj)) (λq4=>?_) λq4=>?_
  .refine jQ ?_;intro _ _ h;exact mA (((xk,(),(),(),(),(),(),xb,xt,(),(),(),(),(),()),(),(),(),(),(),(),(),(),(),(),(),()),((1:af),aE (xk=1),())) (ir 12) h (by show _=(_,((kV xk x).1,((kV xk x).2,())));rw[show kV xk x=((1:af),aE (xk=1)) from by unfold kV;simp[q1,q2,q3,q4]]<;>rfl)
  exact ay q3 q4
 refine jQ ?_;refine jR (p:=x=(fq:aj)) (λq5=>?_) λq5=>?_
 .refine jQ ?_;intro _ _ h;exact mA (((xk,(),(),(),(),(),(),xb,xt,(),(),(),(),(),()),(),(),(),(),(),(),(),(),(),(),(),()),((1:af),aE (xk=1),())) (ir 12) h (by show _=(_,((kV xk x).1,((kV xk x).2,())));rw[show kV xk x=((1:af),aE (xk=1)) from by unfold kV;simp[q1,q2,q3,q5]]<;>rfl)
 refine jQ ?_;refine jR (p:=x=(fm:aj)) (λq6=>?_) λq6=>?_
 .refine jQ ?_;intro _ _ h;exact mA (((xk,(),(),(),(),(),(),xb,xt,(),(),(),(),(),()),(),(),(),(),(),(),(),(),(),(),(),()),((2:af),!(aE (xk=1)),())) (ir 12) h (by show _=(_,((kV xk x).1,((kV xk x).2,())));rw[show kV xk x=((2:af),!(aE (xk=1))) from by unfold kV;simp[q1,q2,q3,q5,q6]]<;>rfl)
 refine jQ ?_;refine jR (p:=x=(fk:aj)) (λq7=>?_) λq7=>?_
 .refine jQ ?_;intro _ _ h;exact mA (((xk,(),(),(),(),(),(),xb,xt,(),(),(),(),(),()),(),(),(),(),(),(),(),(),(),(),(),()),((3:af),!(aE (xk=1)),())) (ir 12) h (by show _=(_,((kV xk x).1,((kV xk x).2,())));rw[show kV xk x=((3:af),!(aE (xk=1))) from by unfold kV;simp[q1,q2,q3,q5,q6,q7]]<;>rfl)
 refine jQ ?_;refine jR (p:=x=(fh:aj)) (λq8=>?_) λq8=>?_
 .refine jQ ?_;intro _ _ h;exact mA (((xk,(),(),(),(),(),(),xb,xt,(),(),(),(),(),()),(),(),(),(),(),(),(),(),(),(),(),()),((4:af),!(aE (xk=1)),())) (ir 12) h (by show _=(_,((kV xk x).1,((kV xk x).2,())));rw[show kV xk x=((4:af),!(aE (xk=1))) from by unfold kV;simp[q1,q2,q3,q5,q6,q7,q8]]<;>rfl)
 refine jQ ?_;intro _ _ h;exact mA (((xk,(),(),(),(),(),(),xb,xt,(),(),(),(),(),()),(),(),(),(),(),(),(),(),(),(),(),()),((0:af),aD,())) (ir 12) h (by show _=(_,((kV xk x).1,((kV xk x).2,())));rw[show kV xk x=((0:af),aD) from by unfold kV;simp[q1,q2,q3,q5,q6,q7,q8]]<;>rfl)
def akK:lM aR:=r8 akJ
abbrev aaj:sM:=⟨[.box 98 [.int,.own 11,.own 12,.own 3,.own 4,.own 5,.own 6,.bool,.int,.mp 7,.mp 8,.mp 9,.mp 10,.own 13],.box 107 [.own 2,.int,.int,.int],.rd (.pair .int .str),.any,.any,.any,.any,.map .str .int,.map .int .unit,.map .int .unit,.mj 14 .int .int 3,.row 9 .str,.row 84 yx,.nest 15 24 (.list .int) 3,.Er,.Er],[.ptr 0 0,.ptr 1 0],[.box 98 [.int,.own 11,.own 12,.own 3,.own 4,.own 5,.own 6,.bool,.int,.mp 7,.mp 8,.mp 9,.mp 10,.own 13],.box 107 [.own 2,.int,.int,.int],.rd (.pair .int .str),.any,.any,.any,.any,.map .str .int,.map .int .unit,.map .int .unit,.mj 14 .int .int 3,.row 9 .str,.row 84 yx,.nest 15 24 (.list .int) 3,.Er,.Er],[],11,aD,[]⟩
def pkE (wa wz:af)(ws:v8)(n:af)(z:RS):aaj.Y:=(((z.k,(),(),(),(),(),(),z.b,z.t,(),(),(),(),(),()),((),wa,wz,n,()),ws,(),(),(),(),z.m,z.hv,z.he,z.tu,z.W,z.E,z.S,(),(),()),())
theorem afB (zN:af):vc 89 zN aR 35 aaj (λx=>(I_ x.1.2.1.2.2.2.1)=0/\qR zN (I_ x.1.2.1.2.1) (I_ x.1.2.1.2.2.1) (show aa (af×aj) from x.1.2.2.1)/\Le (⟨(I_ x.1.1.1),(show ak from x.1.1.2.2.2.2.2.2.2.1),(I_ x.1.1.2.2.2.2.2.2.2.2.1),(B_ x.1.2.2.2.2.2.2.2.2.2.2.2.1),(N_ x.1.2.2.2.2.2.2.2.2.2.2.2.2.1),(show jw .str af from x.1.2.2.2.2.2.2.2.1),(show jw .int Unit from x.1.2.2.2.2.2.2.2.2.1),(show jw .int Unit from x.1.2.2.2.2.2.2.2.2.2.1),(show jw .int (aa af) from x.1.2.2.2.2.2.2.2.2.2.2.1),(K_ x.1.2.2.2.2.2.2.2.2.2.2.2.2.2.1)⟩:RS) 100000) (λx=>Ld (⟨(I_ x.1.1.1),(show ak from x.1.1.2.2.2.2.2.2.2.1),(I_ x.1.1.2.2.2.2.2.2.2.2.1),(B_ x.1.2.2.2.2.2.2.2.2.2.2.2.1),(N_ x.1.2.2.2.2.2.2.2.2.2.2.2.2.1),(show jw .str af from x.1.2.2.2.2.2.2.2.1),(show jw .int Unit from x.1.2.2.2.2.2.2.2.2.1),(show jw .int Unit from x.1.2.2.2.2.2.2.2.2.2.1),(show jw .int (aa af) from x.1.2.2.2.2.2.2.2.2.2.2.1),(K_ x.1.2.2.2.2.2.2.2.2.2.2.2.2.2.1)⟩:RS) (show aa (af×aj) from x.1.2.2.1)) (λx=>pkE (I_ x.1.2.1.2.1) (I_ x.1.2.1.2.2.1) (show aa (af×aj) from x.1.2.2.1) ((show aa (af×aj) from x.1.2.2.1).length:af) (mU (⟨(I_ x.1.1.1),(show ak from x.1.1.2.2.2.2.2.2.2.1),(I_ x.1.1.2.2.2.2.2.2.2.2.1),(B_ x.1.2.2.2.2.2.2.2.2.2.2.2.1),(N_ x.1.2.2.2.2.2.2.2.2.2.2.2.2.1),(show jw .str af from x.1.2.2.2.2.2.2.2.1),(show jw .int Unit from x.1.2.2.2.2.2.2.2.2.1),(show jw .int Unit from x.1.2.2.2.2.2.2.2.2.2.1),(show jw .int (aa af) from x.1.2.2.2.2.2.2.2.2.2.2.1),(K_ x.1.2.2.2.2.2.2.2.2.2.2.2.2.2.1)⟩:RS) (show aa (af×aj) from x.1.2.2.1))):=by
 refine tB f35 104 [(akF zN),(akB zN),(akD zN),(akH zN),(akz zN),(Cf zN),Lr,akK] func35 λo A x hd _ _ h=>?_;obtain⟨⟨⟨(xk:af),_,_,_,_,_,_,(xb:ak),(xt:af),_,_,_,_,_,_⟩,⟨_,(wa:af),(wz:af),(wn:af),_⟩,(ws:aa (af×aj)),_,_,_,_,(nm:jw .str af),(ha:jw .int Unit),(hb:jw .int Unit),(tu:jw .int (aa af)),(vv:aa aj),(ee:aa mS),(xr:aa (aa af)),_,_,_⟩,⟨_,_,_⟩⟩:=x;have rI:(aM ws:af)<=9223372036854775807:=tP h 2 (t:=(.pair .int .str)) (l:=ws);have amR:=LU h 11 vv;have anp:=OW h 12 ee;change wn=0/\qR zN wa wz ws/\Le (⟨xk,xb,xt,vv,ee,nm,ha,hb,tu,xr⟩:RS) 100000 at hd;obtain⟨rfl,hB,hR⟩:=hd;have QJ:=hB.b.a0;have QK:=hB.b.a1;have LO:=hB.z0;have Af:=hB.z1;have hN:=hB.n;have hlb:=hB.b.len;have OU:nm.length<=100000:=bC hR.nm.len hR.sz;have oC:vv.length+ee.length<=100000:=hR.sz;have Yf:ha.length<=2*100000:=hR.hv;have hbl:hb.length<=100000:=hR.he;have MU:tu.length<=100000:=hR.tu;have MC:xr.length<=100000:=hR.S;have Aj:yo nm 1000001:=hR.nm.c (by show vv.length<=_;omega) (by show(aM ee:af)<=_;omega);have akL:yo nm (aM ee:af):=hR.nm.c (by show vv.length<=_;omega) (bM _);refine go (pr:=av) [] h tv ?_;refine jZ (λ(q1:(aE ((0:af)<(aM ws:af)))=aD)=>?_) (λ(q1:(aE ((0:af)<(aM ws:af)))=aC)=>?_)
 .intro _ _ h;refine zI (by exact λq=>bL q1 (Int.natCast_pos.2 q.1)) ?_;exact mB (pr:=av) (yY aR) [] 6 h tv λ_ _ _ h1 h2 h3=>qI (Ae (ft:=89) (x:=wa) (y:=(14:af)) h1 ⟨by omega,by omega⟩ (by decide)) h2 h3
 have h0_:(0:af)<(aM ws:af):=bq q1;obtain⟨wS,hp1⟩:=hB.pl (i:=0) (by omega);have hz_:=hB.b.sz (n:=0) (by omega);refine FC [(1000002,aC)] ?_;intro _ _ h;refine go (pr:=((qR zN wa wz ws/\0<=(0:af)/\(0:af)<=1000000)/\((0:af)<(aM ws:af)))) [] h (⟨⟨hB,by omega,by omega⟩,h0_⟩) ?_;refine jZ (λ(q2:xb=aD)=>?_) (λ(q2:xb=aC)=>?_)
 .refine jQ ?_;refine jR (p:=(ws.getD 0 (0,⟨#[]⟩)).2=(asd:aj)) (λq3=>?_) λq3=>?_
  .refine jY (pr:=av) tv ?_;refine jZ (λ(q4:(aE ((1:af)<(aM ws:af)))=aC)=>?_) (λ(q4:(aE ((1:af)<(aM ws:af)))=aD)=>?_)
   .have Uu:=bq q4;obtain⟨hp2,hp3⟩:=hB.pl (i:=1) (by omega);refine FC [(1000026,aC)] ?_;intro _ _ h;refine go (pr:=((qR zN wa wz ws/\0<=(1:af)/\(1:af)<=1000000)/\((1:af)<(aM ws:af)))) [] h (⟨⟨hB,by omega,by omega⟩,(bq q4)⟩) ?_;intro _ _ h;refine zI (by exact afo q2 (bq q4)) ?_;exact mB (pr:=av) (yY aR) [] 3 h tv λ_ _ _ h1 h2 h3=>qI (Ae (ft:=89) (x:=(wa+(ws.getD 1 (0,⟨#[]⟩)).1)) (y:=(14:af)) h1 ⟨by omega,by omega⟩ (by decide)) h2 h3
   have Uu:=bL q4;refine jQ ?_;intro _ _ h;refine vY (by exact aky q2 (by omega) (.inl q3) (by omega)) ?_;exact mA (((xk,(),(),(),(),(),(),aC,xt,(),(),(),(),(),()),((),wa,wz,(1:af),()),ws,(),(),(),(),nm,ha,hb,tu,vv,ee,xr,(),(),()),(())) (ir 16) h (by have e1_:(aM ws:af)=1:=(by omega);have GL:=adk (s:=(⟨xk,xb,xt,vv,ee,nm,ha,hb,tu,xr⟩:RS)) (ws:=ws) q2 q3;show _=pkE wa wz ws (aM ws:af) (mU (⟨xk,xb,xt,vv,ee,nm,ha,hb,tu,xr⟩:RS) ws);rw[e1_,GL]<;>rfl)
  refine jQ ?_;refine jR (p:=(ws.getD 0 (0,⟨#[]⟩)).2=(asb:aj)) (λq5=>?_) λq5=>?_
  .refine jY (pr:=av) tv ?_;refine jZ (λ(q6:(aE ((1:af)<(aM ws:af)))=aC)=>?_) (λ(q6:(aE ((1:af)<(aM ws:af)))=aD)=>?_)
   .have Uu:=bq q6;obtain⟨hp2,hp3⟩:=hB.pl (i:=1) (by omega);refine FC [(1000026,aC)] ?_;intro _ _ h;refine go (pr:=((qR zN wa wz ws/\0<=(1:af)/\(1:af)<=1000000)/\((1:af)<(aM ws:af)))) [] h (⟨⟨hB,by omega,by omega⟩,(bq q6)⟩) ?_;intro _ _ h;refine zI (by exact afo q2 (bq q6)) ?_;exact mB (pr:=av) (yY aR) [] 3 h tv λ_ _ _ h1 h2 h3=>qI (Ae (ft:=89) (x:=(wa+(ws.getD 1 (0,⟨#[]⟩)).1)) (y:=(14:af)) h1 ⟨by omega,by omega⟩ (by decide)) h2 h3
   have Uu:=bL q6;refine jQ ?_;intro _ _ h;refine vY (by exact aky q2 (by omega) (.inr q5) (by omega)) ?_;exact mA ((((1:af),(),(),(),(),(),(),aC,xt,(),(),(),(),(),()),((),wa,wz,(1:af),()),ws,(),(),(),(),nm,ha,hb,tu,vv,ee,xr,(),(),()),(())) (ir 16) h (by have e1_:(aM ws:af)=1:=(by omega);have GL:=adl (s:=(⟨xk,xb,xt,vv,ee,nm,ha,hb,tu,xr⟩:RS)) (ws:=ws) q2 q5;show _=pkE wa wz ws (aM ws:af) (mU (⟨xk,xb,xt,vv,ee,nm,ha,hb,tu,xr⟩:RS) ws);rw[e1_,GL]<;>rfl)
  intro _ _ h;refine zI (by exact amO q2 q3 q5) ?_;exact mB (pr:=av) (yY aR) [] 3 h tv λ_ _ _ h1 h2 h3=>qI (Ae (ft:=89) (x:=(wa+(ws.getD 0 (0,⟨#[]⟩)).1)) (y:=(14:af)) h1 ⟨by omega,by omega⟩ (by decide)) h2 h3
 have hsr:=SP xk (ws.getD 0 (0,⟨#[]⟩)).2;refine jY (pr:=av) tv ?_;refine jZ (λ(q7:(((kV xk ((ws.getD 0 (0,⟨#[]⟩)).2)).2)=aD)\/((kV xk ((ws.getD 0 (0,⟨#[]⟩)).2)).1<xt))=>?_) (λ(q7:(((kV xk ((ws.getD 0 (0,⟨#[]⟩)).2)).2)=aC)/\(¬((kV xk ((ws.getD 0 (0,⟨#[]⟩)).2)).1<xt)))=>?_)
 .intro _ _ h;refine zI (by exact amP q2 q7) ?_;exact mB (pr:=av) (yY aR) [] 3 h tv λ_ _ _ h1 h2 h3=>qI (Ae (ft:=89) (x:=(wa+(ws.getD 0 (0,⟨#[]⟩)).1)) (y:=(14:af)) h1 ⟨by omega,by omega⟩ (by decide)) h2 h3
 refine jQ ?_;refine jR (p:=(kV xk ((ws.getD 0 (0,⟨#[]⟩)).2)).1=0) (λq8=>?_) λq8=>?_
 .intro _ _ h
  by_cases z1:(1:af)<(aM ws:af)/\kN (ws.getD 1 (0,⟨#[]⟩)).2=aC/\(jo (k:=.str) nm ((ws.getD 1 (0,⟨#[]⟩)).2)).isSome=aD
  rotate_left
  .refine zI (by exact Oi (g:=0) q2 q8 λ(q:Vk (⟨xk,xb,xt,vv,ee,nm,ha,hb,tu,xr⟩:RS) ws)=>z1 ⟨by have:=q.1;omega,q.2⟩) ?_;exact mB (pr:=((1:af)=1/\qR zN wa wz ws/\nm.length<=1000000/\vv.length<=1000000)/\¬((1:af)<(aM ws:af)/\kN (ws.getD 1 (0,⟨#[]⟩)).2=aC/\(jo (k:=.str) nm ((ws.getD 1 (0,⟨#[]⟩)).2)).isSome=aD)) (akA zN).op [] 2 h (⟨⟨rfl,hB,by omega,by omega⟩,z1⟩) λ_ _ _ h1 h2 h3=>qI h1.choose_spec h2 h3
  have hlw:=z1.1;refine go (pr:=(((1:af)=1/\qR zN wa wz ws/\nm.length<=1000000/\vv.length<=1000000)/\((1:af)<(aM ws:af)/\kN (ws.getD 1 (0,⟨#[]⟩)).2=aC/\(jo (k:=.str) nm ((ws.getD 1 (0,⟨#[]⟩)).2)).isSome=aD))/\av) [] h ⟨⟨⟨rfl,hB,by omega,by omega⟩,z1⟩,tv⟩ ?_;refine jZ (λ(q9:(aE ((2:af)<(aM ws:af)))=aC)=>?_) (λ(q9:(aE ((2:af)<(aM ws:af)))=aD)=>?_)
  .have Uu:=bq q9;obtain⟨hp2,hp3⟩:=hB.pl (i:=2) (by omega);refine FC [(1000026,aC)] ?_;intro _ _ h;refine go (pr:=((qR zN wa wz ws/\0<=(2:af)/\(2:af)<=1000000)/\((2:af)<(aM ws:af)))) [] h (⟨⟨hB,by omega,by omega⟩,(bq q9)⟩) ?_;intro _ _ h;refine zI (by exact Oi (g:=0) q2 q8 λ(q:Vk (⟨xk,xb,xt,vv,ee,nm,ha,hb,tu,xr⟩:RS) ws)=>by have q1:=bq q9;have q2:=q.1;omega) ?_;exact mB (pr:=av) (yY aR) [] 3 h tv λ_ _ _ h1 h2 h3=>qI (Ae (ft:=89) (x:=(wa+(ws.getD 2 (0,⟨#[]⟩)).1)) (y:=(14:af)) h1 ⟨by omega,by omega⟩ (by decide)) h2 h3
  have Uu:=bL q9;refine jQ ?_;intro _ _ h;refine vY (by exact aag (g:=0) q2 (by omega) q7.1 (aog.1 q7.2) q8 (show Vk (⟨xk,xb,xt,vv,ee,nm,ha,hb,tu,xr⟩:RS) ws from⟨by omega,z1.2⟩)) ?_;exact mA (((xk,(),(),(),(),(),(),xb,(kV xk ((ws.getD 0 (0,⟨#[]⟩)).2)).1,(),(),(),(),(),()),((),wa,wz,(2:af),()),ws,(),(),(),(),(nG (k:=.str) nm (ws.getD 1 (0,⟨#[]⟩)).2 (-1-(aM vv:af))),ha,hb,tu,(vv++[(ws.getD 1 (0,⟨#[]⟩)).2]),ee,xr,(),(),()),(())) (rk [0,1,2,3,4,5,6,7,8,9,10,176157,12,13,14,15]) h (by have e1_:(aM ws:af)=2:=(by omega);have GL:mU (⟨xk,xb,xt,vv,ee,nm,ha,hb,tu,xr⟩:RS) ws=nxV (⟨xk,xb,xt,vv,ee,nm,ha,hb,tu,xr⟩:RS) ws:=(Ca (s:=(⟨xk,xb,xt,vv,ee,nm,ha,hb,tu,xr⟩:RS)) (ws:=ws) q2 q8).trans rfl;show _=pkE wa wz ws (aM ws:af) (mU (⟨xk,xb,xt,vv,ee,nm,ha,hb,tu,xr⟩:RS) ws);rw[e1_,GL,q8]<;>rfl)
 refine jQ ?_;refine jR (p:=(kV xk ((ws.getD 0 (0,⟨#[]⟩)).2)).1=1) (λHJ=>?_) λHJ=>?_
 .intro _ _ h
  by_cases z2:((1:af)<(aM ws:af)/\kN (ws.getD 1 (0,⟨#[]⟩)).2=aC/\(jo (k:=.str) nm ((ws.getD 1 (0,⟨#[]⟩)).2)).isSome=aD)/\((2:af)<(aM ws:af)/\(jo (k:=.str) nm ((ws.getD 2 (0,⟨#[]⟩)).2)).isSome=aC/\(jo (k:=.str) nm ((ws.getD 2 (0,⟨#[]⟩)).2)).getD 0<0)/\((3:af)<(aM ws:af)/\(jo (k:=.str) nm ((ws.getD 3 (0,⟨#[]⟩)).2)).isSome=aC/\(jo (k:=.str) nm ((ws.getD 3 (0,⟨#[]⟩)).2)).getD 0<0)
  rotate_left
  .refine zI (by exact Oi (g:=1) q2 HJ λ(q:Qv (⟨xk,xb,xt,vv,ee,nm,ha,hb,tu,xr⟩:RS) ws)=>z2 ⟨⟨by have:=q.1;omega,q.2.1,q.2.2.1⟩,⟨by have:=q.1;omega,q.2.2.2.1⟩,⟨by have:=q.1;omega,q.2.2.2.2⟩⟩) ?_;exact mB (pr:=((1:af)=1/\qR zN wa wz ws/\yo nm 1000001/\nm.length<=1000000/\ee.length<=1000000)/\¬(((1:af)<(aM ws:af)/\kN (ws.getD 1 (0,⟨#[]⟩)).2=aC/\(jo (k:=.str) nm ((ws.getD 1 (0,⟨#[]⟩)).2)).isSome=aD)/\((2:af)<(aM ws:af)/\(jo (k:=.str) nm ((ws.getD 2 (0,⟨#[]⟩)).2)).isSome=aC/\(jo (k:=.str) nm ((ws.getD 2 (0,⟨#[]⟩)).2)).getD 0<0)/\((3:af)<(aM ws:af)/\(jo (k:=.str) nm ((ws.getD 3 (0,⟨#[]⟩)).2)).isSome=aC/\(jo (k:=.str) nm ((ws.getD 3 (0,⟨#[]⟩)).2)).getD 0<0))) (akC zN).op [] 3 h (⟨⟨rfl,hB,Aj,by omega,by omega⟩,z2⟩) λ_ _ _ h1 h2 h3=>qI h1.choose_spec h2 h3
  have hlw:=z2.2.2.1;refine go (pr:=(((1:af)=1/\qR zN wa wz ws/\yo nm 1000001/\nm.length<=1000000/\ee.length<=1000000)/\(((1:af)<(aM ws:af)/\kN (ws.getD 1 (0,⟨#[]⟩)).2=aC/\(jo (k:=.str) nm ((ws.getD 1 (0,⟨#[]⟩)).2)).isSome=aD)/\((2:af)<(aM ws:af)/\(jo (k:=.str) nm ((ws.getD 2 (0,⟨#[]⟩)).2)).isSome=aC/\(jo (k:=.str) nm ((ws.getD 2 (0,⟨#[]⟩)).2)).getD 0<0)/\((3:af)<(aM ws:af)/\(jo (k:=.str) nm ((ws.getD 3 (0,⟨#[]⟩)).2)).isSome=aC/\(jo (k:=.str) nm ((ws.getD 3 (0,⟨#[]⟩)).2)).getD 0<0)))/\av) [] h ⟨⟨⟨rfl,hB,Aj,by omega,by omega⟩,z2⟩,tv⟩ ?_;refine jZ (λ(Oj:(aE ((4:af)<(aM ws:af)))=aC)=>?_) (λ(Oj:(aE ((4:af)<(aM ws:af)))=aD)=>?_)
  .have Uu:=bq Oj;obtain⟨hp2,hp3⟩:=hB.pl (i:=4) (by omega);refine FC [(1000026,aC)] ?_;intro _ _ h;refine go (pr:=((qR zN wa wz ws/\0<=(4:af)/\(4:af)<=1000000)/\((4:af)<(aM ws:af)))) [] h (⟨⟨hB,by omega,by omega⟩,(bq Oj)⟩) ?_;intro _ _ h;refine zI (by exact Oi (g:=1) q2 HJ λ(q:Qv (⟨xk,xb,xt,vv,ee,nm,ha,hb,tu,xr⟩:RS) ws)=>by have q1:=bq Oj;have q2:=q.1;omega) ?_;exact mB (pr:=av) (yY aR) [] 3 h tv λ_ _ _ h1 h2 h3=>qI (Ae (ft:=89) (x:=(wa+(ws.getD 4 (0,⟨#[]⟩)).1)) (y:=(14:af)) h1 ⟨by omega,by omega⟩ (by decide)) h2 h3
  have Uu:=bL Oj;refine jQ ?_;intro _ _ h;refine vY (by exact aag (g:=1) q2 (by omega) q7.1 (aog.1 q7.2) HJ (show Qv (⟨xk,xb,xt,vv,ee,nm,ha,hb,tu,xr⟩:RS) ws from⟨by omega,z2.1.2.1,z2.1.2.2,z2.2.1.2,z2.2.2.2⟩)) ?_;exact mA (((xk,(),(),(),(),(),(),xb,(kV xk ((ws.getD 0 (0,⟨#[]⟩)).2)).1,(),(),(),(),(),()),((),wa,wz,(4:af),()),ws,(),(),(),(),(nG (k:=.str) nm (ws.getD 1 (0,⟨#[]⟩)).2 (aM ee:af)),ha,hb,tu,vv,(ee++[((ws.getD 1 (0,⟨#[]⟩)).2,(-1-(jo (k:=.str) nm ((ws.getD 2 (0,⟨#[]⟩)).2)).getD 0,(-1-(jo (k:=.str) nm ((ws.getD 3 (0,⟨#[]⟩)).2)).getD 0,Vj ((ws.getD 0 (0,⟨#[]⟩)).2))))]),xr,(),(),()),(())) (rk [0,1,2,3,4,5,6,7,8,9,10,11,188445,13,14,15]) h (by have e1_:(aM ws:af)=4:=(by omega);have GL:mU (⟨xk,xb,xt,vv,ee,nm,ha,hb,tu,xr⟩:RS) ws=nxE (⟨xk,xb,xt,vv,ee,nm,ha,hb,tu,xr⟩:RS) ws:=(Ca (s:=(⟨xk,xb,xt,vv,ee,nm,ha,hb,tu,xr⟩:RS)) (ws:=ws) q2 HJ).trans rfl;show _=pkE wa wz ws (aM ws:af) (mU (⟨xk,xb,xt,vv,ee,nm,ha,hb,tu,xr⟩:RS) ws);rw[e1_,GL,HJ]<;>rfl)
 refine jQ ?_;refine jR (p:=(kV xk ((ws.getD 0 (0,⟨#[]⟩)).2)).1=2) (λOl=>?_) λOl=>?_
 .intro _ _ h
  by_cases z3:(1:af)<(aM ws:af)/\(jo (k:=.str) nm ((ws.getD 1 (0,⟨#[]⟩)).2)).isSome=aC
  rotate_left
  .refine zI (by exact Oi (g:=2) q2 Ol λ(q:Qw (⟨xk,xb,xt,vv,ee,nm,ha,hb,tu,xr⟩:RS) ws)=>z3 ⟨by have:=q.1;omega,q.2⟩) ?_;exact mB (pr:=((1:af)=1/\qR zN wa wz ws/\yo nm (aM ee:af)/\(ee.length<=1000000/\DW ee)/\ha.length<=10000000/\hb.length<=10000000)/\¬((1:af)<(aM ws:af)/\(jo (k:=.str) nm ((ws.getD 1 (0,⟨#[]⟩)).2)).isSome=aC)) (akE zN).op [] 2 h (⟨⟨rfl,hB,akL,⟨by omega,hR.ed⟩,by omega,by omega⟩,z3⟩) λ_ _ _ h1 h2 h3=>qI h1.choose_spec h2 h3
  have hlw:=z3.1;refine go (pr:=(((1:af)=1/\qR zN wa wz ws/\yo nm (aM ee:af)/\(ee.length<=1000000/\DW ee)/\ha.length<=10000000/\hb.length<=10000000)/\((1:af)<(aM ws:af)/\(jo (k:=.str) nm ((ws.getD 1 (0,⟨#[]⟩)).2)).isSome=aC))/\av) [] h ⟨⟨⟨rfl,hB,akL,⟨by omega,hR.ed⟩,by omega,by omega⟩,z3⟩,tv⟩ ?_;refine jZ (λ(q13:(aE ((2:af)<(aM ws:af)))=aC)=>?_) (λ(q13:(aE ((2:af)<(aM ws:af)))=aD)=>?_)
  .have Uu:=bq q13;obtain⟨hp2,hp3⟩:=hB.pl (i:=2) (by omega);refine FC [(1000026,aC)] ?_;intro _ _ h;refine go (pr:=((qR zN wa wz ws/\0<=(2:af)/\(2:af)<=1000000)/\((2:af)<(aM ws:af)))) [] h (⟨⟨hB,by omega,by omega⟩,(bq q13)⟩) ?_;intro _ _ h;refine zI (by exact Oi (g:=2) q2 Ol λ(q:Qw (⟨xk,xb,xt,vv,ee,nm,ha,hb,tu,xr⟩:RS) ws)=>by have q1:=bq q13;have q2:=q.1;omega) ?_;exact mB (pr:=av) (yY aR) [] 3 h tv λ_ _ _ h1 h2 h3=>qI (Ae (ft:=89) (x:=(wa+(ws.getD 2 (0,⟨#[]⟩)).1)) (y:=(14:af)) h1 ⟨by omega,by omega⟩ (by decide)) h2 h3
  have Uu:=bL q13;refine jQ ?_;intro _ _ h;refine vY (by exact aag (g:=2) q2 (by omega) q7.1 (aog.1 q7.2) Ol (show Qw (⟨xk,xb,xt,vv,ee,nm,ha,hb,tu,xr⟩:RS) ws from⟨by omega,z3.2⟩)) ?_;exact mA (((xk,(),(),(),(),(),(),xb,(kV xk ((ws.getD 0 (0,⟨#[]⟩)).2)).1,(),(),(),(),(),()),((),wa,wz,(2:af),()),ws,(),(),(),(),nm,(HF ha ee ((jo (k:=.str) nm ((ws.getD 1 (0,⟨#[]⟩)).2)).getD 0)),(HG hb ((jo (k:=.str) nm ((ws.getD 1 (0,⟨#[]⟩)).2)).getD 0)),tu,vv,ee,xr,(),(),()),(())) (ir 16) h (by have e1_:(aM ws:af)=2:=(by omega);have GL:mU (⟨xk,xb,xt,vv,ee,nm,ha,hb,tu,xr⟩:RS) ws=nxH (⟨xk,xb,xt,vv,ee,nm,ha,hb,tu,xr⟩:RS) ws:=(Ca (s:=(⟨xk,xb,xt,vv,ee,nm,ha,hb,tu,xr⟩:RS)) (ws:=ws) q2 Ol).trans rfl;show _=pkE wa wz ws (aM ws:af) (mU (⟨xk,xb,xt,vv,ee,nm,ha,hb,tu,xr⟩:RS) ws);rw[e1_,GL,Ol]<;>rfl)
 refine jQ ?_;refine jR (p:=(kV xk ((ws.getD 0 (0,⟨#[]⟩)).2)).1=3) (λq14=>?_) λq14=>?_
 .intro _ _ h
  by_cases z4:((1:af)<(aM ws:af)/\(jo (k:=.str) nm ((ws.getD 1 (0,⟨#[]⟩)).2)).isSome=aC/\(jo (k:=.str) nm ((ws.getD 1 (0,⟨#[]⟩)).2)).getD 0<0)/\(jr tu (-1-(jo (k:=.str) nm ((ws.getD 1 (0,⟨#[]⟩)).2)).getD 0)).isSome=aD/\∀i,2<=i->i<ws.length->ov nm aD (lT ws i)
  rotate_left
  .refine zI (by exact Oi (g:=3) q2 q14 λ(q:ZI (⟨xk,xb,xt,vv,ee,nm,ha,hb,tu,xr⟩:RS) ws)=>z4 ⟨⟨by have:=q.1;omega,q.2.1⟩,q.2.2⟩) ?_;exact mB (pr:=((1:af)=1/\qR zN wa wz ws/\yo nm 1000001/\tu.length<=1000000)/\¬(((1:af)<(aM ws:af)/\(jo (k:=.str) nm ((ws.getD 1 (0,⟨#[]⟩)).2)).isSome=aC/\(jo (k:=.str) nm ((ws.getD 1 (0,⟨#[]⟩)).2)).getD 0<0)/\(jr tu (-1-(jo (k:=.str) nm ((ws.getD 1 (0,⟨#[]⟩)).2)).getD 0)).isSome=aD/\∀i,2<=i->i<ws.length->ov nm aD (lT ws i))) (akG zN).op [] 2 h (⟨⟨rfl,hB,Aj,by omega⟩,z4⟩) λ_ _ _ h1 h2 h3=>qI h1.choose_spec h2 h3
  have hlw:=z4.1.1;refine go (pr:=(((1:af)=1/\qR zN wa wz ws/\yo nm 1000001/\tu.length<=1000000)/\(((1:af)<(aM ws:af)/\(jo (k:=.str) nm ((ws.getD 1 (0,⟨#[]⟩)).2)).isSome=aC/\(jo (k:=.str) nm ((ws.getD 1 (0,⟨#[]⟩)).2)).getD 0<0)/\(jr tu (-1-(jo (k:=.str) nm ((ws.getD 1 (0,⟨#[]⟩)).2)).getD 0)).isSome=aD/\∀i,2<=i->i<ws.length->ov nm aD (lT ws i)))/\av) [] h ⟨⟨⟨rfl,hB,Aj,by omega⟩,z4⟩,tv⟩ ?_;refine jZ (λ(q15:(aE ((aM ws:af)<(aM ws:af)))=aC)=>?_) (λ(q15:(aE ((aM ws:af)<(aM ws:af)))=aD)=>?_)
  .exact ay (bq q15) (by omega)
  have Uu:=bL q15;refine jQ ?_;intro _ _ h;refine vY (by exact aag (g:=3) q2 (by omega) q7.1 (aog.1 q7.2) q14 (show ZI (⟨xk,xb,xt,vv,ee,nm,ha,hb,tu,xr⟩:RS) ws from⟨by omega,z4.1.2,z4.2.1,z4.2.2⟩)) ?_;exact mA (((xk,(),(),(),(),(),(),xb,(kV xk ((ws.getD 0 (0,⟨#[]⟩)).2)).1,(),(),(),(),(),()),((),wa,wz,(aM ws:af),()),ws,(),(),(),(),nm,ha,hb,(kZ tu (-1-(jo (k:=.str) nm ((ws.getD 1 (0,⟨#[]⟩)).2)).getD 0) ((ws.drop 2).map λp=>uG nm p.2)),vv,ee,xr,(),(),()),(())) (rk [0,1,2,3,4,5,6,7,8,9,10,11,12,13,200734,15]) h (by have GL:mU (⟨xk,xb,xt,vv,ee,nm,ha,hb,tu,xr⟩:RS) ws=nxA (⟨xk,xb,xt,vv,ee,nm,ha,hb,tu,xr⟩:RS) ws:=(Ca (s:=(⟨xk,xb,xt,vv,ee,nm,ha,hb,tu,xr⟩:RS)) (ws:=ws) q2 q14).trans rfl;show _=pkE wa wz ws (aM ws:af) (mU (⟨xk,xb,xt,vv,ee,nm,ha,hb,tu,xr⟩:RS) ws);rw[GL,q14]<;>rfl)
 refine jQ ?_;refine jR (p:=(kV xk ((ws.getD 0 (0,⟨#[]⟩)).2)).1=4) (λq16=>?_) λq16=>?_
 .intro _ _ h
  by_cases z5:3<=ws.length/\∀i,1<=i->i<ws.length->ov nm aC (lT ws i)
  rotate_left
  .refine zI (by exact Oi (g:=4) q2 q16 λ(q:ZJ (⟨xk,xb,xt,vv,ee,nm,ha,hb,tu,xr⟩:RS) ws)=>z5 q) ?_;exact mB (pr:=((1:af)=1/\qR zN wa wz ws/\yo nm 1000001/\xr.length<=1000000)/\¬(3<=ws.length/\∀i,1<=i->i<ws.length->ov nm aC (lT ws i))) (akI zN).op [] 2 h (⟨⟨rfl,hB,Aj,by omega⟩,z5⟩) λ_ _ _ h1 h2 h3=>qI h1.choose_spec h2 h3
  have hlw:=z5.1;refine go (pr:=(((1:af)=1/\qR zN wa wz ws/\yo nm 1000001/\xr.length<=1000000)/\(3<=ws.length/\∀i,1<=i->i<ws.length->ov nm aC (lT ws i)))/\av) [] h ⟨⟨⟨rfl,hB,Aj,by omega⟩,z5⟩,tv⟩ ?_;refine jZ (λ(q17:(aE ((aM ws:af)<(aM ws:af)))=aC)=>?_) (λ(q17:(aE ((aM ws:af)<(aM ws:af)))=aD)=>?_)
  .exact ay (bq q17) (by omega)
  have Uu:=bL q17;refine jQ ?_;intro _ _ h;refine vY (by exact aag (g:=4) q2 (by omega) q7.1 (aog.1 q7.2) q16 (show ZJ (⟨xk,xb,xt,vv,ee,nm,ha,hb,tu,xr⟩:RS) ws from z5)) ?_;exact mA (((xk,(),(),(),(),(),(),xb,(kV xk ((ws.getD 0 (0,⟨#[]⟩)).2)).1,(),(),(),(),(),()),((),wa,wz,(aM ws:af),()),ws,(),(),(),(),nm,ha,hb,tu,vv,ee,(xr++[(ws.drop 1).map λp=>uG nm p.2]),(),(),()),(())) (rk [0,1,2,3,4,5,6,7,8,9,10,11,12,208925,14,208926]) h (by have GL:mU (⟨xk,xb,xt,vv,ee,nm,ha,hb,tu,xr⟩:RS) ws=nxR (⟨xk,xb,xt,vv,ee,nm,ha,hb,tu,xr⟩:RS) ws:=(Ca (s:=(⟨xk,xb,xt,vv,ee,nm,ha,hb,tu,xr⟩:RS)) (ws:=ws) q2 q16).trans rfl;show _=pkE wa wz ws (aM ws:af) (mU (⟨xk,xb,xt,vv,ee,nm,ha,hb,tu,xr⟩:RS) ws);rw[GL,q16]<;>rfl)
 exfalso;omega
def afC (zN:af):lM aR:=r8 (afB zN).yes
def akM (zN:af):Ad aR:=Hv (afB zN).no
theorem Ba {l:aa af}:∀ {k:ah},k<=l.length->∀j,j<k->l.getD (o8 l k).toNat 0<=l.getD j 0
 |k+1,hk,j,hj=>by
  unfold o8;split
  .rename_i q;rw[dw]
   by_cases e:j=k
   .subst e;exact bM _
   have:=Ba (l:=l) (k:=k) (by omega) j (by omega);omega
  rename_i q
  by_cases e:j=k
  .subst e;omega
  exact Ba (l:=l) (by omega) j (by omega)
theorem Om {l:aa af}(h:∀x∈l,l.getD 0 0<=x):∀k,k<=l.length->o8 l k=0
 |0,_=>rfl
 |k+1,hk=>by
  unfold o8;rw[Om h k (by omega),aP]
  grind [jz,aog]
theorem uH (l:aa af):ju (ju l)=ju l:=by
 by_cases q:l.length=0
 .rw[cH q];rfl
 have hb:=wR l l.length;have e:=Om (l:=ju l) (λx hx=>by
  obtain⟨j,hj,rfl⟩:=jJ (z:=(0:af)).1 (tf.1 hx);have hm:=Ba (l:=l) (aW _) j hj;show(ur l (o8 l l.length)).getD 0 0<=_;rw[FZ hb.1 (by omega) (by omega),Nat.zero_add,Nat.mod_eq_of_lt (by omega)];exact hm) (ju l).length (aW _)
 show ur (ju l) (o8 (ju l) (ju l).length)=_;rw[e];unfold ur;simp
section
variable {n:af}{E:aa (af×af)}{V L:aa af}{T S:aa (aa af)}
theorem Cg (T:aa (aa af))(v:ah):(T.map ju).getD v []=ju (T.getD v []):=by
 by_cases h:v<T.length
 .exact agS h
 rw[bD,aoc (by rw[bH];omega),bD,aoc (by omega)];rfl
theorem aak (h:pZ n E L T):pZ n E L (T.map ju) where
 len:=by rw[bH];exact h.len
 nd v hv:=by rw[bH] at hv;rw[Cg];exact DO (h.nd v hv)
 mem v hv d:=by rw[bH] at hv;rw[Cg,tf];exact h.mem v hv d
theorem aal (T:aa (aa af)):(T.map ju).map ju=T.map ju:=by
 grind [cz,dm,uH]
theorem akN (T:aa (aa af)):∀k,tR (T.map ju) k=tR T k
 |0=>rfl
 |k+1=>by unfold tR;rw[akN T k,Cg,uH]
theorem agi (hp:j6 n E V L=0)(h:pZ n E L T):nR n E V L (T.map ju)=nR n E V L T:=by
 grind [P9,aak,C1,aal,bH,akN]
theorem lnM (V:aa af)(T:aa (aa af)):∀k,DP V (T.map ju) k=DP V T k
 |0=>rfl
 |k+1=>by unfold DP;rw[lnM V T k,Cg,mG]
theorem ahz (hp:j6 n E V L=0)(h:pZ n E L T):jm n E V L (T.map ju)=jm n E V L T:=by
 unfold jm;rw[agi hp h,lnM]
end
open Go.Proofs.YtnfdimfepbbbpaaGreatDoor.Deep
theorem Dn {f:af->af}{ds:aa af}{N:ah}{w:af×aa af}:∀ {k:ah},k<=ds.length->(w∈VV f ds N k↔∃j,j<k/\A7 f (ds.getD j 0) (rQ f (ds.getD j 0) N)=aC/\w=(ds.getD j 0,zb f (ds.getD j 0) (rQ f (ds.getD j 0) N)))
 |0,_=>⟨λh=>(by cases h),λ⟨j,h,_⟩=>(by omega)⟩
 |k+1,hk=>by
  have ih:=Dn (f:=f) (ds:=ds) (N:=N) (w:=w) (k:=k) (by omega);unfold VV
  grind
def OnW (w:af×aa af)(d:af):Prop:=d∈w.2\/(w.2.length=0/\w.1=d)
section
variable {f:af->af}{D:aa af}
theorem akO (hc:∀x∈D,f x∈D)(hi:∀x∈D,∀y∈D,f x=f y->x=y){w u:af×aa af}{d:af}(hw:w∈VV f D D.length D.length)(hu:u∈VV f D D.length D.length)(h1:d∈w.2)(h2:d∈u.2):w=u:=by
 obtain⟨i,i1,i2,rfl⟩:=(Dn (aW _)).1 hw;obtain⟨j,j1,j2,rfl⟩:=(Dn (aW _)).1 hu;have Z7:D.getD i 0∈D:=jz i1;have hxj:D.getD j 0∈D:=jz j1;generalize D.getD i 0=x at*
 generalize D.getD j 0=y at*
 have h1:=(sn hc hi Z7).1 h1;have h2:=(sn hc hi hxj).1 h2;have key:∀x y,x∈D->y∈D->vD f x y->A7 f x (rQ f x D.length)=aC->x<=y:=λx y hx hy ho hl=>by
  have:=(sn hc hi hx).2 ho;unfold zb at this;obtain⟨k,hk,e⟩:=bz.1 this;have hk:=List.mem_range.1 hk
  by_cases z:k=0
  .subst z;exact Int.le_of_eq e
  have:=zV.1 hl k (by omega) hk;rw[e] at this;omega
 have a:=key x y Z7 hxj (h1.trans (h2.symm hc hi hxj)) i2;have b:=key y x hxj Z7 (h2.trans (h1.symm hc hi Z7)) j2;rw[show x=y by omega]
theorem akP (ha:IV D)(hc:∀x∈D,f x∈D)(hi:∀x∈D,∀y∈D,f x=f y->x=y){d:af}(hd:d∈D):∃w∈VV f D D.length D.length,d∈w.2:=by
 classical
 obtain⟨k,hk,e⟩:=jJ (z:=(0:af)).1 hd;obtain⟨i,_,hik,hp⟩:=Sh (N:=D.length) (p:=λi=>aE (vD f (D.getD i 0) d)) hk (cT (by rw[e];exact vD.refl d));rename_i hfi;have hp:=bq hp;have Z7:D.getD i 0∈D:=jz (by omega);obtain⟨p0,p1,p2,p3⟩:=Dc hc hi Z7;refine⟨_,(Dn (aW _)).2 ⟨i,by omega,zV.2 λj j0 j1=>?_,rfl⟩,(sn hc hi Z7).2 hp⟩;have hm:=vn hc Z7 j;obtain⟨q,hq,eq⟩:=jJ (z:=(0:af)).1 hm;have ho:vD f (D.getD q 0) d:=by rw[eq];exact(vD.symm hc hi Z7 ⟨j,rfl⟩).trans hp
 have hle:i<=q:=by
  obtain⟨i',e',hq',_⟩:=Sh (N:=D.length) (p:=λi=>aE (vD f (D.getD i 0) d)) hq (cT ho);have:(i:af)=(i':af):=hfi.symm.trans e';omega
 have qD:q≠i:=λz=>p3 j j0 j1 (by rw[<-eq,z]);rw[<-eq];rw[getD_eq (show i<D.length by omega),getD_eq (show q<D.length by omega)];exact List.pairwise_iff_getElem.1 ha _ _ (by omega) (by omega) (by omega)
end
section
variable {n:af}{E:aa (af×af)}{V L:aa af}{T S:aa (aa af)}
theorem Ls {V:aa af}{T:aa (aa af)}:∀ {k j:ah},j<k->(T.getD (V.getD (V.length-1-j) 0).toNat []).length=0->(-1-V.getD (V.length-1-j) 0,[])∈DP V T k
 |k+1,j,hj,h=>by
  unfold DP;rcases Nat.lt_succ_iff_lt_or_eq.1 hj with z|z
  .split
   .exact bU _ (Ls z h)
   exact Ls z h
  grind
structure WkU (L V:aa af)(T:aa (aa af))(W:aa (af×aa af)):Prop where
 ex:∀d,ku L d->∃w∈W,d∈w.2
 lone:∀v∈V,(T.getD v.toNat []).length=0->(-1-v,[])∈W
 uq:∀w∈W,∀u∈W,∀d,OnW w d->OnW u d->w=u
 hd:∀w∈W,∀d,w.1=d\/d∈w.2->OnW w d
theorem akQ (h:(jm n E V L T).2=0):WkU L V T (jm n E V L T).1/\∀w∈(jm n E V L T).1,∀d∈w.2,HD E T d∈w.2:=by
 have hk:=Zn h;have h0:=h;rw[uD] at h;obtain⟨hp,hT,_⟩:=C1 h;obtain⟨_,hV,hL,_⟩:=kA hp;have hD:∀x∈oO L L.length,ku L x:=λx hx=>(nY x).1 hx;have hc:∀x∈oO L L.length,HD E T x∈oO L L.length:=λx hx=>by
  rw[A5 hp hT (hD x hx)];exact(nY _).2 (wT hp hT (hD x hx)).1
 have hi:∀x∈oO L L.length,∀y∈oO L L.length,HD E T x=HD E T y->x=y:=λx hx y hy e=>by
  rw[A5 hp hT (hD x hx),A5 hp hT (hD y hy)] at e;exact Nq hp hT (hD x hx) (hD y hy) e
 have ha:=Qq (jC.1 hL).1 (aW _);rw[U5 h] at hk ⊢;have QL:∀w∈DP V T V.length,w.2.length=0/\w.1<0:=λw hw=>by
  have:=BY (aW _) w hw;have:=(jC.1 hV).2 _ this.2;exact⟨by omega,by omega⟩
 have hrw:∀w∈VV (HD E T) (oO L L.length) (oO L L.length).length (oO L L.length).length,w.1∈w.2/\∀d∈w.2,0<=d:=λw hw=>by
  obtain⟨i,i1,i2,rfl⟩:=(Dn (aW _)).1 hw;have hx:(oO L L.length).getD i 0∈oO L L.length:=jz i1;refine⟨(sn hc hi hx).2 (vD.refl _),λd hd=>?_⟩;obtain⟨k,e⟩:=(sn hc hi hx).1 hd;have:=vn hc hx k;rw[e] at this;exact(wV hp (hD _ this)).2.1
 refine⟨⟨λd hd=>?_,λv hv hT0=>?_,λw hw u hu d h1 h2=>?_,λw hw d hwd=>?_⟩,λw hw d hd=>?_⟩
 .obtain⟨w,hw,hx⟩:=akP ha hc hi ((nY d).2 hd);exact⟨w,bV _ hw,hx⟩
 .obtain⟨j,hj,e⟩:=jJ (z:=(0:af)).1 hv;have:=Ls (V:=V) (T:=T) (k:=V.length) (j:=V.length-1-j) (by omega);rw[show V.length-1-(V.length-1-j)=j by omega,e] at this;exact bU _ (this hT0)
 .rcases bE.1 hw with a|a<;>rcases bE.1 hu with b|b
  .have Et:=(QL w a).1;have hu2:=(QL u b).1;have e1:w.1=d:=h1.elim (λz=>by rw[cH Et] at z;cases z) apG;have e2:u.1=d:=h2.elim (λz=>by rw[cH hu2] at z;cases z) apG;exact Prod.ext (e1.trans e2.symm) ((cH Et).trans (cH hu2).symm)
  .exfalso;have Et:=QL w a;have e1:w.1=d:=h1.elim (λz=>by rw[cH Et.1] at z;cases z) apG;have:=(hrw u b);have:=h2.elim (λz=>this.2 d z) λz=>by rw[cH z.1] at this;cases this.1
   omega
  .exfalso;have Et:=QL u b;have e1:u.1=d:=h2.elim (λz=>by rw[cH Et.1] at z;cases z) apG;have:=(hrw w a);have:=h1.elim (λz=>this.2 d z) λz=>by rw[cH z.1] at this;cases this.1
   omega
  have e1:d∈w.2:=h1.elim id λz=>by have:=(hrw w a).1;rw[cH z.1] at this;cases this
  have e2:d∈u.2:=h2.elim id λz=>by have:=(hrw u b).1;rw[cH z.1] at this;cases this
  exact akO hc hi a b e1 e2
 .rcases hwd with z|z
  .rcases bE.1 hw with a|a
   .exact .inr ⟨(QL w a).1,z⟩
   exact .inl (z▸(hrw w a).1)
  exact .inl z
 rcases bE.1 hw with a|a
 .rw[cH (QL w a).1] at hd;cases hd
 obtain⟨i,i1,i2,rfl⟩:=(Dn (aW _)).1 a;have hx:(oO L L.length).getD i 0∈oO L L.length:=jz i1;exact(sn hc hi hx).2 (((sn hc hi hx).1 hd).trans ⟨1,rfl⟩)
end
def GM (n:ah)(tu:aa (af×aa af)):aa (aa af):=(bT n).map λ(v:ah)=>match jr tu (v:af) with|some l=>ju l|none=>[]
def VX (l:aa (af×aa af))(m:aa (af×af)):aa (af×af):=l.foldl (λm w=>w.2.foldl (λm d=>kZ m d w.1) m) m
theorem afD (k:af):∀(l:aa af) (m:aa (af×af)) {x c:af},jr (l.foldl (λm d=>kZ m d k) m) x=az c->(x∈l/\c=k)\/jr m x=az c
 |[],m,x,c,h=>.inr h
 |d::l,m,x,c,h=>by
  rcases afD k l _ h with⟨a,b⟩|q
  .grind
  rw[lF] at q
  grind
theorem QM:∀(l:aa (af×aa af)) (m:aa (af×af)) {x c:af},jr (VX l m) x=az c->(∃w∈l,x∈w.2/\c=w.1)\/jr m x=az c
 |[],m,x,c,h=>.inr h
 |w::l,m,x,c,h=>by
  rcases QM l _ h with⟨u,a,b⟩|q
  .grind
  rcases afD _ _ _ q with⟨a,b⟩|q
  .grind
  exact .inr q
section
variable {K:af}{W:aa aj}{E:aa mS}{V L:aa af}{T S:aa (aa af)}
theorem amS (h:nS K W E V L T S=0)(hk:K=0){tu:aa (af×aa af)}(ht:∀v,jr tu v=if v∈V/\hE E L v=aC then az (ju (T.getD v.toNat [])) else aA):GM W.length tu=T.map ju:=by
 obtain⟨hp,_,hT⟩:=uj h hk;obtain⟨_,hV,hL,_⟩:=kA hp;have hl:=hT.len;refine anG (by unfold GM;simp;omega) λv h1 h2=>?_;unfold GM at h1 ⊢;rw[bH] at h2;rw[apD,apD,List.getElem_range];have e:T[v]=T.getD v []:=(getD_eq h2 []).symm;rw[e,ht]
 by_cases q:(v:af)∈V/\hE E L (v:af)=aC
 .rw[aQ q,dw];exact uH _
 rw[aP q];have:T.getD v []=[]:=by
  refine ap7.2 λd hd=>q ?_;have hv:(v:af)∈VT E L:=by
   obtain⟨d1,d2⟩:=(hT.mem _ h2 d).1 hd;have he:d/2∈L:=d1;have e1:=(jC.1 hL).2 _ he;rw[sr] at e1;have hg:(DQ E).getD (d/2).toNat (0,0)=((E.getD (d/2).toNat mK).2.1,(E.getD (d/2).toNat mK).2.2.1):=by
    rw[getD_eq (by rw[sr];omega),getD_eq (by omega)];unfold DQ;rw[apD]
   refine cQ.2 ⟨d/2,he,?_⟩;unfold j7 at d2;rw[hg] at d2;split at d2
   .exact bg.2 (.inl d2.symm)
   exact bg.2 (.inr (aU.2 d2.symm))
  exact⟨SK h hk hv,cT hv⟩
 rw[this];rfl
theorem adN (h:nS K W E V L T S=0)(hk:K=0):∀j,j<S.length->IV (S.getD j []):=λj hj=>by
 obtain⟨_,FH,_⟩:=uj h hk;obtain⟨_,z,hz,_⟩:=rq FH;exact Sj (Dd hz j hj)
theorem Vq (h:nS K W E V L T S=0)(hk:K=0):∀j,0<j->j<S.length->(S.getD (j-1) []).getD 0 0<(S.getD j []).getD 0 0:=λj h0 hj=>by
 obtain⟨_,FH,_⟩:=uj h hk;obtain⟨_,z,hz,_⟩:=rq FH;exact Gl hz j h0 hj
theorem aam (h:nS K W E V L T S=0)(hk:K=0){x c:af}(hx:x∈S.flatten)(hc:jr (VX (jm (aM W:af) (DQ E) V L (T.map ju)).1 []) x=az c):c=x:=by
 obtain⟨hp,FH,hT⟩:=uj h hk;rw[ahz hp hT] at hc;obtain⟨w,hm,e⟩:=Gp FH hx;obtain⟨hu,_⟩:=akQ (vh (rq FH).1);rcases QM _ _ hc with⟨u,a,b,r⟩|q
 .rw[hu.uq w hm u a x (hu.hd w hm x (.inl e)) (hu.hd u a x (.inr b))] at e;rw[r,e]
 cases q
end
structure QN (l:aa (aa af)):Prop where
 len:(aM l:af)<=1000000
 ne:∀i:ah,i<l.length->0<(l.getD i []).length
 bd:∀i:ah,i<l.length->-10000000<=(l.getD i []).getD 0 0/\(l.getD i []).getD 0 0<=10000000
 asc:∀i:ah,0<i->i<l.length->(l.getD (i-1) []).getD 0 0<(l.getD i []).getD 0 0
theorem QN.lt {l:aa (aa af)}(h:QN l):∀(k i:ah),i+k+1<l.length->(l.getD i []).getD 0 0<(l.getD (i+k+1) []).getD 0 0
 |0,i,hi=>h.asc (i+1) (ao3 _) hi
 |k+1,i,hi=>Int.lt_trans (h.lt k i (by omega)) (h.asc (i+(k+1)+1) (ao3 _) hi)
theorem QN.two {l:aa (aa af)}(h:QN l){i j:af}(h0:0<=i)(h1:i<j)(h2:j<(aM l:af)):(l.getD i.toNat []).getD (0:af).toNat 0<(l.getD j.toNat []).getD (0:af).toNat 0:=by
 have:=h.lt (j.toNat-i.toNat-1) i.toNat (by omega)
 grind
def VY (n:ah)(tu:aa (af×aa af))(lf:af->ak):aa (aa af):=(bT n).map λ(v:ah)=>match jr tu (v:af) with
 |some l=>if lf (v:af) then[] else ju l
 |none=>[]
theorem Lt (n:ah)(tu:aa (af×aa af))(lf:af->ak):(VY n tu lf).length=n:=by unfold VY;rw[bH,ao0]
theorem Vr (n:ah)(tu:aa (af×aa af)):dA n []=VY n tu λz=>(jr tu z).isSome:=by
 unfold VY;apply anG (by simp)
 grind
theorem adO {n:ah}{tu:aa (af×aa af)}{lf:af->ak}(h:∀x,lf x=aD):VY n tu lf=GM n tu:=by
 unfold VY GM
 grind
def tuV (tu:aa (af×aa af))(lf:af->ak)(i:af):aa af:=match jr tu i with
 |some l=>if lf i then[] else ju l
 |none=>[]
theorem ahA {n:ah}{tu:aa (af×aa af)}{lf:af->ak}{i:ah}(h:i<(VY n tu lf).length):(VY n tu lf)[i]'h=tuV tu lf (i:af):=by
 simp[VY,tuV]
theorem aan {n:ah}{tu:aa (af×aa af)}{lf:af->ak}{k:af}{l:aa af}(h0:0<=k)(h1:k<(n:af))(hl:jr tu k=az l):(VY n tu lf).set k.toNat (ju l)=VY n tu λz=>lf z && !decide (z=k):=by
 apply anG (by rw[cq,Lt,Lt])
 grind [ahA,tuV]
structure TuI (n:ah)(tu:aa (af×aa af))(lf:af->ak)(tv:aa (aa af)):Prop where
 eq:tv=VY n tu lf
 key:∀x,lf x=aC->(jr tu x).isSome=aC
theorem TuI.start (n:ah)(tu:aa (af×aa af)):TuI n tu (λz=>(jr tu z).isSome) (dA n []):=⟨Vr n tu,λ_ h=>h⟩
theorem TuI.step {n:ah}{tu:aa (af×aa af)}{lf:af->ak}{tv:aa (aa af)}(h:TuI n tu lf tv){k:af}{l:aa af}(h0:0<=k)(h1:k<(n:af))(hl:jr tu k=az l):TuI n tu (λz=>lf z && !decide (z=k)) (tv.set k.toNat (ju l)):=
 ⟨by rw[h.eq];exact aan h0 h1 hl,λx hx=>h.key x (by rw[bB] at hx;exact hx.1)⟩
theorem TuI.fin {n:ah}{tu:aa (af×aa af)}{lf:af->ak}{tv:aa (aa af)}(h:TuI n tu lf tv)(hl:∀x,lf x=aD):tv=GM n tu:=h.eq.trans (adO hl)
theorem aao {W:aa (af×aa af)}{i:af}(h0:0<=i)(h1:i<(aM W:af)):VX (W.take (i+1).toNat) []=(W.getD i.toNat (0,[])).2.foldl (λm d=>kZ m d (W.getD i.toNat (0,[])).1) (VX (W.take i.toNat) []):=by
 have e:(i+1).toNat=i.toNat+1:=by omega
 have hn:i.toNat<W.length:=by omega
 rw[e,dV hn];unfold VX
 grind
def kyD (k:af)(m:aa (af×af))(l:aa af)(j:af):aa (af×af):=(l.take j.toNat).foldl (λm d=>kZ m d k) m
theorem aap {k:af}{m:aa (af×af)}{l:aa af}{j:af}(h0:0<=j)(h1:j<(aM l:af)):kyD k m l (j+1)=kZ (kyD k m l j) (l.getD j.toNat 0) k:=by
 have e:(j+1).toNat=j.toNat+1:=by omega
 grind [kyD,dV,bN]
theorem adP {k:af}{m:aa (af×af)}{l:aa af}{j:af}(h:¬j<(aM l:af))(h1:j<=(aM l:af)):kyD k m l j=l.foldl (λm d=>kZ m d k) m:=by
 grind [kyD,dI]
theorem GN {k:af}:∀(l:aa af) (m:aa (af×af)),(l.foldl (λm d=>kZ m d k) m).length<=m.length+l.length
 |[],m=>aW _
 |d::l,m=>by
  have h1:=GN (k:=k) l (kZ m d k)
  grind [qF,kZ]
theorem adQ {k:af}{m:aa (af×af)}{l:aa af}{j:af}:(kyD k m l j).length<=m.length+l.length:=by
 have h1:=GN (k:=k) (l.take j.toNat) m
 grind [bJ,kyD]
theorem aaq {l:aa af}{i:ah}{x:af}(h:l.getD i 0=x):l.set i x=l:=by
 apply anG (by simp)
 grind
abbrev oB:Type:=aa (aa af)
def tV (l:oB)(i:af):af:=(l.getD i.toNat []).getD (0:af).toNat 0
def swp (l:oB)(i j:af):oB:=if(0<=i/\i<(aM l:af))/\0<=j/\j<(aM l:af) then(l.set i.toNat (l.getD j.toNat [])).set j.toNat (l.getD i.toNat []) else l
def Ed:ah->oB->af->oB
 |0,l,_=>l
 |k+1,l,j=>if tV l j-tV l (j-1)<0 then Ed k (swp l j (j-1)) (j-1) else l
def Lu:ah->oB->af->af->oB
 |0,l,_,_=>l
 |k+1,l,i,a=>Lu k (Ed (i-a).toNat l i) (i+1) a
def GO (l:oB)(a b:af):oB:=Lu (b-(a+1)).toNat l (a+1) a
def LX:ah->oB->af->af->af->oB
 |0,l,_,_,_=>l
 |k+1,l,a,b,i=>LX k (swp l (a+i) (b+i)) a b (i+1)
def od:ah->oB->af->af->af->oB
 |0,l,_,_,_=>l
 |k+1,l,m,i,j=>if i=j then LX i.toNat l (m-i) m 0 else if j<i then od k (LX j.toNat l (m-i) m 0) m (i-j) j else od k (LX i.toNat l (m-i) (m+j-i) 0) m i (j-i)
def Tg:ah->oB->af->af->af->af
 |0,_,_,i,_=>i
 |k+1,l,a,i,j=>if i<j then if tV l ((i+j)/2)-tV l a<0 then Tg k l a ((i+j)/2+1) j else Tg k l a i ((i+j)/2) else i
def Th:ah->oB->af->af->af->af
 |0,_,_,i,_=>i
 |k+1,l,m,i,j=>if i<j then if ¬tV l m-tV l ((i+j)/2)<0 then Th k l m ((i+j)/2+1) j else Th k l m i ((i+j)/2) else i
def Oo:ah->oB->af->af->af->af
 |0,_,_,s,_=>s
 |k+1,l,p,s,r=>if s<r then if ¬tV l (p-(s+r)/2)-tV l ((s+r)/2)<0 then Oo k l p ((s+r)/2+1) r else Oo k l p s ((s+r)/2) else s
def mvU:ah->oB->af->oB
 |0,l,_=>l
 |k+1,l,i=>mvU k (swp l i (i+1)) (i+1)
def mvD:ah->oB->af->oB
 |0,l,_=>l
 |k+1,l,i=>mvD k (swp l i (i-1)) (i-1)
def Lv (l:oB)(a m b:af):af:=if(a+b)/2<m then Oo (b-a).toNat l ((a+b)/2+m-1) ((a+b)/2+m-b) ((a+b)/2) else Oo (b-a).toNat l ((a+b)/2+m-1) a m
def Lw (l:oB)(a m b:af):oB:=if Lv l a m b<m/\m<(a+b)/2+m-Lv l a m b then od ((m-Lv l a m b)+((a+b)/2+m-Lv l a m b-m)).toNat l m (m-Lv l a m b) ((a+b)/2+m-Lv l a m b-m) else l
def nB:ah->oB->af->af->af->oB
 |0,l,_,_,_=>l
 |k+1,l,a,m,b=>if m-a=1 then mvU (Tg (b-m).toNat l a m b-1-a).toNat l a else if b-m=1 then mvD (m-Th (m-a).toNat l m a m).toNat l m else
  (λs l1=>(λl2=>if(a+b)/2<(a+b)/2+m-s/\(a+b)/2+m-s<b then nB k l2 ((a+b)/2) ((a+b)/2+m-s) b else l2)
   (if a<s/\s<(a+b)/2 then nB k l1 a s ((a+b)/2) else l1)) (Lv l a m b) (Lw l a m b)
def GQ:ah->oB->af->af->oB
 |0,l,_,_=>l
 |k+1,l,a,n=>if a+20<=n then GQ k (GO l a (a+20)) (a+20) n else GO l a n
def Dp:ah->oB->af->af->af->oB
 |0,l,_,_,_=>l
 |k+1,l,s,a,n=>if a+2*s<=n then Dp k (nB 1000000 l a (a+s) (a+2*s)) s (a+2*s) n else if a+s<n then nB 1000000 l a (a+s) n else l
def HK:ah->oB->af->af->oB
 |0,l,_,_=>l
 |k+1,l,s,n=>if s<n then HK k (Dp (n.toNat+1) l s 0 n) (s*2) n else l
def GR (l:oB):oB:=HK (l.length+1) (GQ (l.length+1) l 0 (aM l:af)) 20 (aM l:af)
section
variable {Q:oB->Prop}(hQ:∀l i j,Q l->Q (swp l i j))
include hQ
theorem Ti:∀(k:ah) (l:oB) (j:af),Q l->Q (Ed k l j)
 |0,_,_,h=>h
 |k+1,l,j,h=>by
  unfold Ed;split
  .exact Ti k _ _ (hQ _ _ _ h)
  exact h
theorem EK:∀(k:ah) (l:oB) (i a:af),Q l->Q (Lu k l i a)
 |0,_,_,_,h=>h
 |k+1,l,i,a,h=>EK k _ _ _ (Ti hQ _ _ _ h)
theorem GU:∀(k:ah) (l:oB) (a b i:af),Q l->Q (LX k l a b i)
 |0,_,_,_,_,h=>h
 |k+1,l,a,b,i,h=>GU k _ _ _ _ (hQ _ _ _ h)
theorem Lx:∀(k:ah) (l:oB) (m i j:af),Q l->Q (od k l m i j)
 |0,_,_,_,_,h=>h
 |k+1,l,m,i,j,h=>by
  unfold od;split
  .exact GU hQ _ _ _ _ _ h
  split
  .exact Lx k _ _ _ _ (GU hQ _ _ _ _ _ h)
  exact Lx k _ _ _ _ (GU hQ _ _ _ _ _ h)
theorem aar:∀(k:ah) (l:oB) (i:af),Q l->Q (mvU k l i)
 |0,_,_,h=>h
 |k+1,l,i,h=>aar k _ _ (hQ _ _ _ h)
theorem aas:∀(k:ah) (l:oB) (i:af),Q l->Q (mvD k l i)
 |0,_,_,h=>h
 |k+1,l,i,h=>aas k _ _ (hQ _ _ _ h)
theorem Tj (l:oB)(a m b:af)(h:Q l):Q (Lw l a m b):=by
 unfold Lw;split
 .exact Lx hQ _ _ _ _ _ h
 exact h
theorem Ch:∀(k:ah) (l:oB) (a m b:af),Q l->Q (nB k l a m b)
 |0,_,_,_,_,h=>h
 |k+1,l,a,m,b,h=>by
  unfold nB;split
  .exact aar hQ _ _ _ h
  split
  .exact aas hQ _ _ _ h
  have h1:=Tj hQ l a m b h;have h2:Q (if a<Lv l a m b/\Lv l a m b<(a+b)/2 then nB k (Lw l a m b) a (Lv l a m b) ((a+b)/2) else Lw l a m b):=by
   split
   .exact Ch k _ _ _ _ h1
   exact h1
  show Q (if _ then nB k _ _ _ _ else _);split
  .exact Ch k _ _ _ _ h2
  exact h2
theorem Tk:∀(k:ah) (l:oB) (a n:af),Q l->Q (GQ k l a n)
 |0,_,_,_,h=>h
 |k+1,l,a,n,h=>by
  unfold GQ;split
  .exact Tk k _ _ _ (EK hQ _ _ _ _ h)
  exact EK hQ _ _ _ _ h
theorem Tl:∀(k:ah) (l:oB) (s a n:af),Q l->Q (Dp k l s a n)
 |0,_,_,_,_,h=>h
 |k+1,l,s,a,n,h=>by
  unfold Dp;split
  .exact Tl k _ _ _ _ (Ch hQ _ _ _ _ _ h)
  split
  .exact Ch hQ _ _ _ _ _ h
  exact h
theorem Tm:∀(k:ah) (l:oB) (s n:af),Q l->Q (HK k l s n)
 |0,_,_,_,h=>h
 |k+1,l,s,n,h=>by
  unfold HK;split
  .exact Tm k _ _ _ (Tl hQ _ _ _ _ _ h)
  exact h
theorem Tn (l:oB)(h:Q l):Q (GR l):=Tm hQ _ _ _ _ (Tk hQ _ _ _ _ h)
end
structure qd (N:af)(l:oB):Prop where
 len:(aM l:af)=N
 el:∀x∈l,0<x.length/\-10000000<=x.getD (0:af).toNat 0/\x.getD (0:af).toNat 0<=10000000
theorem To (l:oB)(i j:af):(swp l i j).length=l.length:=by
 unfold swp;split
 .rw[cq,cq]
 rfl
theorem Tp (l:oB)(i j:af){x:aa af}(h:x∈swp l i j):x∈l:=by
 unfold swp at h;split at h
 .rename_i q;rcases aoT h with h|rfl
  .rcases aoT h with h|rfl
   .exact h
   exact jz (by omega)
  exact jz (by omega)
 exact h
theorem qd.swp {N:af}{l:oB}(h:qd N l)(i j:af):qd N (swp l i j):=⟨by rw[To];exact h.len,λx hx=>h.el x (Tp l i j hx)⟩
theorem qd.nei {N:af}{l:oB}(h:qd N l){i:af}(h0:0<=i)(h1:i<N):0<((l.getD i.toNat []).length:af)/\-10000000<=(l.getD i.toNat []).getD (0:af).toNat 0/\(l.getD i.toNat []).getD (0:af).toNat 0<=10000000:=by
 have hl:=h.len;have:=h.el _ (jz (l:=l) (i:=i.toNat) (d:=[]) (by omega));omega
theorem Lz {l:oB}{i j:af}(h0:0<=i)(h1:i<(aM l:af))(h2:0<=j)(h3:j<(aM l:af)):swp l i j=(l.set i.toNat (l.getD j.toNat [])).set j.toNat (l.getD i.toNat []):=aQ ⟨⟨h0,h1⟩,h2,h3⟩
theorem qd.ins {N:af}{l:oB}(h:qd N l)(a b:af):qd N (GO l a b):=EK (Q:=qd N) (λ_ i j q=>q.swp i j) _ _ _ _ h
theorem qd.swr {N:af}{l:oB}(h:qd N l)(k:ah)(a b i:af):qd N (LX k l a b i):=GU (Q:=qd N) (λ_ i j q=>q.swp i j) _ _ _ _ _ h
theorem qd.akR {N:af}{l:oB}(h:qd N l)(a m b:af):qd N (Lw l a m b):=Tj (Q:=qd N) (λ_ i j q=>q.swp i j) _ _ _ _ h
theorem qd.sym {N:af}{l:oB}(h:qd N l)(k:ah)(a m b:af):qd N (nB k l a m b):=Ch (Q:=qd N) (λ_ i j q=>q.swp i j) _ _ _ _ _ h
theorem aat (l:oB):(GR l).length=l.length:=Tn (Q:=λm=>m.length=l.length) (λm i j q=>(To m i j).trans q) l rfl
theorem aau (l:oB){x:aa af}(h:x∈GR l):x∈l:=Tn (Q:=λm=> ∀x∈m,x∈l) (λm i j q x hx=>q x (Tp m i j hx)) l (λ_ h=>h) x h
section
variable {l:oB}{a b m i j x y n s r p e:af}{k:ah}
theorem aav (h0:x<j)(h:tV l j-tV l (j-1)<0):Ed (j-x).toNat l j=Ed (j-1-x).toNat (swp l j (j-1)) (j-1):=by
 rw[show(j-x).toNat=(j-1-x).toNat+1 by omega];exact aQ h
theorem Tq (h0:x<=j)(h:¬(x<j/\tV l j-tV l (j-1)<0)):Ed (j-x).toNat l j=l:=by
 by_cases q:x<j
 .rw[show(j-x).toNat=(j-1-x).toNat+1 by omega];exact aP λz=>h ⟨q,z⟩
 rw[show(j-x).toNat=0 by omega];rfl
theorem Jw (h:i<y):Lu (y-i).toNat l i a=Lu (y-(i+1)).toNat (Ed (i-a).toNat l i) (i+1) a:=by
 rw[show(y-i).toNat=(y-(i+1)).toNat+1 by omega];rfl
theorem aaw (h:¬i<y):Lu (y-i).toNat l i a=l:=by rw[show(y-i).toNat=0 by omega];rfl
theorem aax (h:i<n):LX (n-i).toNat l a b i=LX (n-(i+1)).toNat (swp l (a+i) (b+i)) a b (i+1):=by
 rw[show(n-i).toNat=(n-(i+1)).toNat+1 by omega];rfl
theorem adR (h:¬i<n):LX (n-i).toNat l a b i=l:=by rw[show(n-i).toNat=0 by omega];rfl
theorem ahB (hk:0<k)(hn:¬i=j)(h:j<i):od k l m i j=od (k-1) (LX j.toNat l (m-i) m 0) m (i-j) j:=by
 obtain⟨k,rfl⟩:∃q,k=q+1:=⟨k-1,by omega⟩;exact(aP hn).trans (aQ h)
theorem ahC (hk:0<k)(hn:¬i=j)(h:¬j<i):od k l m i j=od (k-1) (LX i.toNat l (m-i) (m+j-i) 0) m i (j-i):=by
 obtain⟨k,rfl⟩:∃q,k=q+1:=⟨k-1,by omega⟩;exact(aP hn).trans (aP h)
theorem ahD (hk:0<k)(h:i=j):od k l m i j=LX i.toNat l (m-i) m 0:=by
 obtain⟨k,rfl⟩:∃q,k=q+1:=⟨k-1,by omega⟩;exact aQ h
theorem adS (hk:0<k)(h:i<j)(c:tV l ((i+j)/2)-tV l a<0):Tg k l a i j=Tg (k-1) l a ((i+j)/2+1) j:=by
 obtain⟨k,rfl⟩:∃q,k=q+1:=⟨k-1,by omega⟩;exact(aQ h).trans (aQ c)
theorem ahE (hk:0<k)(h:i<j)(c:¬tV l ((i+j)/2)-tV l a<0):Tg k l a i j=Tg (k-1) l a i ((i+j)/2):=by
 obtain⟨k,rfl⟩:∃q,k=q+1:=⟨k-1,by omega⟩;exact(aQ h).trans (aP c)
theorem adT (h:¬i<j):Tg k l a i j=i:=by
 cases k with
 |zero=>rfl
 |succ k=>exact aP h
theorem adU (hk:0<k)(h:i<j)(c:¬tV l m-tV l ((i+j)/2)<0):Th k l m i j=Th (k-1) l m ((i+j)/2+1) j:=by
 obtain⟨k,rfl⟩:∃q,k=q+1:=⟨k-1,by omega⟩;exact(aQ h).trans (aQ c)
theorem ahF (hk:0<k)(h:i<j)(c:tV l m-tV l ((i+j)/2)<0):Th k l m i j=Th (k-1) l m i ((i+j)/2):=by
 obtain⟨k,rfl⟩:∃q,k=q+1:=⟨k-1,by omega⟩;exact(aQ h).trans (aP λz=>z c)
theorem adV (h:¬i<j):Th k l m i j=i:=by
 cases k with
 |zero=>rfl
 |succ k=>exact aP h
theorem Ts (hk:0<k)(h:s<r)(c:¬tV l (p-(s+r)/2)-tV l ((s+r)/2)<0):Oo k l p s r=Oo (k-1) l p ((s+r)/2+1) r:=by
 obtain⟨k,rfl⟩:∃q,k=q+1:=⟨k-1,by omega⟩;exact(aQ h).trans (aQ c)
theorem aay (hk:0<k)(h:s<r)(c:tV l (p-(s+r)/2)-tV l ((s+r)/2)<0):Oo k l p s r=Oo (k-1) l p s ((s+r)/2):=by
 obtain⟨k,rfl⟩:∃q,k=q+1:=⟨k-1,by omega⟩;exact(aQ h).trans (aP λz=>z c)
theorem Tt (h:¬s<r):Oo k l p s r=s:=by
 cases k with
 |zero=>rfl
 |succ k=>exact aP h
theorem aaz (h:i<e):mvU (e-i).toNat l i=mvU (e-(i+1)).toNat (swp l i (i+1)) (i+1):=by
 rw[show(e-i).toNat=(e-(i+1)).toNat+1 by omega];rfl
theorem adW (h:¬i<e):mvU (e-i).toNat l i=l:=by rw[show(e-i).toNat=0 by omega];rfl
theorem aaA (h:e<i):mvD (i-e).toNat l i=mvD (i-1-e).toNat (swp l i (i-1)) (i-1):=by
 rw[show(i-e).toNat=(i-1-e).toNat+1 by omega];rfl
theorem adX (h:¬e<i):mvD (i-e).toNat l i=l:=by rw[show(i-e).toNat=0 by omega];rfl
theorem aaB (h:m-a=1):nB (k+1) l a m b=mvU (Tg (b-m).toNat l a m b-1-a).toNat l a:=aQ h
theorem aaC (h1:¬m-a=1)(h:b-m=1):nB (k+1) l a m b=mvD (m-Th (m-a).toNat l m a m).toNat l m:=(aP h1).trans (aQ h)
def x6 (k:ah)(l:oB)(a m b s:af)(l1:oB):oB:=if a<s/\s<(a+b)/2 then nB k l1 a s ((a+b)/2) else l1
def x7 (k:ah)(a m b s:af)(l2:oB):oB:=if(a+b)/2<(a+b)/2+m-s/\(a+b)/2+m-s<b then nB k l2 ((a+b)/2) ((a+b)/2+m-s) b else l2
theorem qz (h1:¬m-a=1)(h2:¬b-m=1)(hs:s=Lv l a m b):nB (k+1) l a m b=x7 k a m b s (x6 k l a m b s (Lw l a m b)):=by
 subst hs;exact(aP h1).trans (aP h2)
theorem rz (hs:s=Lv l a m b)(h:s<m/\m<(a+b)/2+m-s):od ((m-s)+((a+b)/2+m-s-m)).toNat l m (m-s) ((a+b)/2+m-s-m)=Lw l a m b:=by
 subst hs;exact(aQ h).symm
theorem tD (hs:s=Lv l a m b)(h:¬(s<m/\m<(a+b)/2+m-s)):l=Lw l a m b:=by
 subst hs;exact(aP h).symm
theorem afE (h:(a+b)/2<m):Oo (b-a).toNat l ((a+b)/2+m-1) ((a+b)/2+m-b) ((a+b)/2)=Lv l a m b:=(aQ h).symm
theorem afF (h:¬(a+b)/2<m):Oo (b-a).toNat l ((a+b)/2+m-1) a m=Lv l a m b:=(aP h).symm
theorem adY (hk:0<k)(h:a+20<=n):GQ k l a n=GQ (k-1) (GO l a (a+20)) (a+20) n:=by
 obtain⟨k,rfl⟩:∃q,k=q+1:=⟨k-1,by omega⟩;exact aQ h
theorem ahG (hk:0<k)(h:¬a+20<=n):GQ k l a n=GO l a n:=by
 obtain⟨k,rfl⟩:∃q,k=q+1:=⟨k-1,by omega⟩;exact aP h
theorem adZ (hk:0<k)(h:a+2*s<=n):Dp k l s a n=Dp (k-1) (nB 1000000 l a (a+s) (a+2*s)) s (a+2*s) n:=by
 obtain⟨k,rfl⟩:∃q,k=q+1:=⟨k-1,by omega⟩;exact aQ h
theorem ad0 (hk:0<k)(h:¬a+2*s<=n)(h2:a+s<n):Dp k l s a n=nB 1000000 l a (a+s) n:=by
 obtain⟨k,rfl⟩:∃q,k=q+1:=⟨k-1,by omega⟩;exact(aP h).trans (aQ h2)
theorem ahH (hk:0<k)(h:¬a+2*s<=n)(h2:¬a+s<n):Dp k l s a n=l:=by
 obtain⟨k,rfl⟩:∃q,k=q+1:=⟨k-1,by omega⟩;exact(aP h).trans (aP h2)
theorem Tu (hk:0<k)(h:s<n):HK k l s n=HK (k-1) (Dp (n.toNat+1) l s 0 n) (s*2) n:=by
 obtain⟨k,rfl⟩:∃q,k=q+1:=⟨k-1,by omega⟩;exact aQ h
theorem ahI (h:¬s<n):HK k l s n=l:=by
 cases k with
 |zero=>rfl
 |succ k=>exact aP h
end
theorem akS:kr aR 71 [(aD,(.list .int)),(aD,(.list .int))] [.int] (λx=>(0<((J_ x.1).length:af)/\-10000000<=(J_ x.1).getD (0:af).toNat 0/\(J_ x.1).getD (0:af).toNat 0<=10000000)/\(0<((J_ x.2.1).length:af)/\-10000000<=(J_ x.2.1).getD (0:af).toNat 0/\(J_ x.2.1).getD (0:af).toNat 0<=10000000)) (λx=>(((J_ x.1).getD (0:af).toNat 0-(J_ x.2.1).getD (0:af).toNat 0),())):=by
 refine kJ f71 12 [] func71 λo x hd _ _ h=>?_;obtain⟨(p:aa af),(q:aa af),_⟩:=x;have vC:=pP h 0 p;have uB:=pP h 1 q;change (0<(aM p:af)/\-10000000<=p.getD (0:af).toNat 0/\p.getD (0:af).toNat 0<=10000000)/\(0<(aM q:af)/\-10000000<=q.getD (0:af).toNat 0/\q.getD (0:af).toNat 0<=10000000) at hd;obtain⟨⟨wS,hp1,hp2⟩,hq0,hq1,hq2⟩:=hd;refine go (pr:=(j8 (0:af) p.length)/\(j8 (0:af) q.length)/\(jX .i64 ((p.getD (0:af).toNat 0)-(q.getD (0:af).toNat 0)))) [] h ⟨bx,bx,kC⟩ ?_;exact jW (((p.getD (0:af).toNat 0)-(q.getD (0:af).toNat 0):af),()) rfl
def afG:lM aR:=plain akS
abbrev aaD:sM:=⟨[.row 24 (.list .int)],[.own 0,.int,.int,.sR 71 []],[.row 24 (.list .int)],[],1,aD,[]⟩
theorem ahJ:nX aR 132 aaD (λx=>qd ((K_ x.1.1).length:af) (K_ x.1.1)/\((K_ x.1.1).length:af)<=1000000/\0<=(I_ x.2.2.1)/\(I_ x.2.2.1)<=(I_ x.2.2.2.1)/\(I_ x.2.2.2.1)<=((K_ x.1.1).length:af)) (λx=>(((GO (K_ x.1.1) (I_ x.2.2.1) (I_ x.2.2.2.1)),()),(()))):=by
 refine oA f132 53 [afG] aaD func132 λo A x hd _ _ h=>?_;obtain⟨⟨(xr:aa (aa af)),_⟩,⟨_,(x:af),(y:af),_,_⟩⟩:=x;have vC:=vK h 0 xr;change qd (aM xr:af) xr/\(aM xr:af)<=1000000/\0<=x/\x<=y/\y<=(aM xr:af) at hd;have⟨hS,hN,hx0,hx1,hx2⟩:=hd;refine go (pr:=(jX .i64 (x+1))) [] h kC ?_;refine uf af oB (λi xl=>⟨[(0,eo 0),(1,en x),(2,en y),(3,az ⟨[],.one (.sR 71 [])⟩),(8,en i)],[(0,az (.row 24 (.list .int) xl))],1⟩) (λi xl=>x+1<=i/\i<=y+1/\qd (aM xr:af) xl/\Lu (y-i).toNat xl i x=GO xr x y) (λi xl=>(y+1-i).toNat) (x+1) xr (ir 1) ⟨by omega,by omega,hS,rfl⟩ λi xl _ mR hI=>?_;have⟨i0,i1,iS,iF⟩:=hI;refine jQ ?_;refine jR (p:=i<y) (λq1=>?_) λq1=>?_
 .refine jQ ?_;refine uf af oB (λj xm=>⟨[(0,eo 0),(1,en x),(2,en y),(3,az ⟨[],.one (.sR 71 [])⟩),(8,en i),(9,en j)],[(0,az (.row 24 (.list .int) xm))],1⟩) (λj xm=>x<=j/\j<=i/\qd (aM xr:af) xm/\Ed (j-x).toNat xm j=Ed (i-x).toNat xl i) (λj xm=>(j-x).toNat) i xl (ir 1) ⟨by omega,bM _,iS,rfl⟩ λj xm _ zf hI=>?_;have⟨j0,j1,jS,jF⟩:=hI;have MC:=jS.len
  by_cases z1:x<j
  .have Af:=jS.nei (i:=j) (by omega) (by omega);have NO:=jS.nei (i:=j-1) (by omega) (by omega);refine AP (pr:=(x<j)/\(j8 j xm.length)/\(jX .i64 (j-1))/\(j8 (j-1) xm.length)/\((0<((xm.getD j.toNat []).length:af)/\-10000000<=(xm.getD j.toNat []).getD (0:af).toNat 0/\(xm.getD j.toNat []).getD (0:af).toNat 0<=10000000)/\(0<((xm.getD (j-1).toNat []).length:af)/\-10000000<=(xm.getD (j-1).toNat []).getD (0:af).toNat 0/\(xm.getD (j-1).toNat []).getD (0:af).toNat 0<=10000000))) [(21,aC)] ⟨z1,bx,kC,bx,(by first|exact⟨Af,NO⟩|exact⟨NO,Af⟩)⟩ ?_;refine jR (p:=((xm.getD j.toNat []).getD (0:af).toNat 0-(xm.getD (j-1).toNat []).getD (0:af).toNat 0)<0) (λq2=>?_) λq2=>?_
   .have Kt:=Lz (l:=xm) (i:=j) (j:=j-1) (by omega) (by omega) (by omega) (by omega);refine jY (pr:=(jX .i64 (j-1))/\(jX .i64 (j-1))/\(j8 (j-1) xm.length)/\(j8 j xm.length)/\(j8 j xm.length)/\(j8 j xm.length)/\(j8 (j-1) (xm.set j.toNat (xm.getD (j-1).toNat [])).length)/\(j8 (j-1) (xm.set j.toNat (xm.getD (j-1).toNat [])).length)/\(jX .i64 (j-1))) ⟨kC,kC,bx,bx,bx,bx,bx,bx,kC⟩ ?_;exact oa (zf (j-1) ((xm.set j.toNat (xm.getD (j-1).toNat [])).set (j-1).toNat (xm.getD j.toNat [])) (ir 1) ⟨by omega,by omega,Kt▸jS.swp _ _,by rw[<-Kt,<-aav z1 q2];exact jF⟩ (by omega))
   refine jY (pr:=(jX .i64 (i+1))) kC ?_;exact oa (mR (i+1) xm (ir 1) ⟨by omega,by omega,jS,by rw[<-iF,Jw (i:=i) (l:=xl) (by omega),<-jF,Tq j0 (λz=>q2 z.2)]⟩ (by omega))
  refine AP (pr:=(¬(x<j))/\(jX .i64 (i+1))) [(21,aD)] ⟨z1,kC⟩ ?_;exact oa (mR (i+1) xm (ir 1) ⟨by omega,by omega,jS,by rw[<-iF,Jw (i:=i) (l:=xl) (by omega),<-jF,Tq j0 (λz=>z1 z.1)]⟩ (by omega))
 refine jQ ?_;intro _ _ h;exact mA ((xl,()),(())) (ir 1) h (by rw[<-iF,aaw q1])
def ahK:lM aR:=r8 ahJ
abbrev zg:sM:=⟨[.row 24 (.list .int)],[.own 0,.int,.int,.int,.sR 71 []],[.row 24 (.list .int)],[],1,aD,[]⟩
theorem ahL:nX aR 176 zg (λx=>qd ((K_ x.1.1).length:af) (K_ x.1.1)/\((K_ x.1.1).length:af)<=1000000/\0<=(I_ x.2.2.1)/\0<=(I_ x.2.2.2.1)/\0<=(I_ x.2.2.2.2.1)/\(I_ x.2.2.1)+(I_ x.2.2.2.2.1)<=((K_ x.1.1).length:af)/\(I_ x.2.2.2.1)+(I_ x.2.2.2.2.1)<=((K_ x.1.1).length:af)) (λx=>(((LX (I_ x.2.2.2.2.1).toNat (K_ x.1.1) (I_ x.2.2.1) (I_ x.2.2.2.1) 0),()),(()))):=by
 refine oA f176 38 [] zg func176 λo A x hd _ _ h=>?_;obtain⟨⟨(xr:aa (aa af)),_⟩,⟨_,(x:af),(y:af),(z:af),_,_⟩⟩:=x;have vC:=vK h 0 xr;change qd (aM xr:af) xr/\(aM xr:af)<=1000000/\0<=x/\0<=y/\0<=z/\x+z<=(aM xr:af)/\y+z<=(aM xr:af) at hd;have⟨hS,hN,hx0,hx1,hx3,hx4,hx5⟩:=hd;refine tY [] h ?_;refine uf af oB (λi xl=>⟨[(0,eo 0),(1,en x),(2,en y),(3,en z),(10,en i)],[(0,az (.row 24 (.list .int) xl))],1⟩) (λi xl=>0<=i/\i<=z/\qd (aM xr:af) xl/\LX (z-i).toNat xl x y i=LX z.toNat xr x y 0) (λi xl=>(z-i).toNat) 0 xr (ir 1) ⟨bM _,hx3,hS,by rw[Int.sub_zero]⟩ λi xl _ mR hI=>?_;have⟨i0,i1,iS,iF⟩:=hI;have MC:=iS.len;refine jQ ?_;refine jR (p:=i<z) (λq1=>?_) λq1=>?_
 .have Kt:=Lz (l:=xl) (i:=x+i) (j:=y+i) (by omega) (by omega) (by omega) (by omega);refine jY (pr:=(jX .i64 (x+i))/\(jX .i64 (y+i))/\(jX .i64 (y+i))/\(j8 (y+i) xl.length)/\(jX .i64 (x+i))/\(j8 (x+i) xl.length)/\(j8 (x+i) xl.length)/\(j8 (x+i) xl.length)/\(j8 (y+i) (xl.set (x+i).toNat (xl.getD (y+i).toNat [])).length)/\(j8 (y+i) (xl.set (x+i).toNat (xl.getD (y+i).toNat [])).length)/\(jX .i64 (i+1))) ⟨kC,kC,kC,bx,kC,bx,bx,bx,bx,bx,kC⟩ ?_;exact oa (mR (i+1) ((xl.set (x+i).toNat (xl.getD (y+i).toNat [])).set (y+i).toNat (xl.getD (x+i).toNat [])) (ir 1) ⟨by omega,by omega,Kt▸iS.swp _ _,by rw[<-Kt,<-iF];exact(aax q1).symm⟩ (by omega))
 refine jQ ?_;intro _ _ h;exact mA ((xl,()),(())) (ir 1) h (by rw[<-iF,adR q1])
def ahM:lM aR:=r8 ahL
theorem ahN:nX aR 161 zg (λx=>qd ((K_ x.1.1).length:af) (K_ x.1.1)/\((K_ x.1.1).length:af)<=1000000/\0<=(I_ x.2.2.1)/\(I_ x.2.2.1)<(I_ x.2.2.2.1)/\(I_ x.2.2.2.1)<(I_ x.2.2.2.2.1)/\(I_ x.2.2.2.2.1)<=((K_ x.1.1).length:af)) (λx=>(((od (((I_ x.2.2.2.1)-(I_ x.2.2.1))+((I_ x.2.2.2.2.1)-(I_ x.2.2.2.1))).toNat (K_ x.1.1) (I_ x.2.2.2.1) ((I_ x.2.2.2.1)-(I_ x.2.2.1)) ((I_ x.2.2.2.2.1)-(I_ x.2.2.2.1))),()),(()))):=by
 refine oA f161 58 [ahM] zg func161 λo A x hd _ _ h=>?_;obtain⟨⟨(xr:aa (aa af)),_⟩,⟨_,(x:af),(y:af),(z:af),_,_⟩⟩:=x;have vC:=vK h 0 xr;change qd (aM xr:af) xr/\(aM xr:af)<=1000000/\0<=x/\x<y/\y<z/\z<=(aM xr:af) at hd;have⟨hS,hN,hx0,hx1,hx2,hx3⟩:=hd;refine go (pr:=(jX .i64 (y-x))/\(jX .i64 (z-y))) [] h ⟨kC,kC⟩ ?_;refine CR af af oB ah (λi j xl k=>⟨[(0,eo 0),(2,en y),(4,az ⟨[],.one (.sR 71 [])⟩),(10,en i),(11,en j)],[(0,az (.row 24 (.list .int) xl))],1⟩) (λi j xl k=>0<i/\i<=y-x/\0<j/\j<=z-y/\i+j<=(k:af)/\qd (aM xr:af) xl/\od k xl y i j=od ((y-x)+(z-y)).toNat xr y (y-x) (z-y)) (λi j xl k=>k) (y-x) (z-y) xr (((y-x)+(z-y)).toNat) (ir 1) ⟨by omega,bM _,by omega,bM _,by omega,hS,rfl⟩ λi j xl k _ mR hI=>?_;have⟨i0,i1,j0,j1,k0,iS,iF⟩:=hI;have MC:=iS.len;have p9:qd (aM xl:af) xl:=by rw[iS.len];exact iS
 have hnk:(aM xl:af)<=1000000:=by rw[iS.len];exact hN
 refine jQ ?_;refine pY (p:=i=j) (λq1=>?_) λq1=>?_
 .refine jQ ?_;refine jR (p:=j<i) (λq2=>?_) λq2=>?_
  .refine jY (pr:=(jX .i64 (y-i))/\(qd (aM xl:af) xl/\(aM xl:af)<=1000000/\0<=(y-i)/\0<=y/\0<=j/\(y-i)+j<=(aM xl:af)/\y+j<=(aM xl:af))/\(jX .i64 (i-j))) ⟨kC,⟨p9,hnk,by omega,by omega,by omega,by omega,by omega⟩,kC⟩ ?_;exact oa (mR (i-j) j (LX j.toNat xl (y-i) y 0) (k-1) (ir 1) ⟨by omega,by omega,by omega,by omega,by omega,iS.swr _ _ _ _,by rw[<-iF,ahB (by omega) q1 q2]⟩ (by omega))
  refine jY (pr:=(jX .i64 (y-i))/\(jX .i64 (y+j))/\(jX .i64 ((y+j)-i))/\(qd (aM xl:af) xl/\(aM xl:af)<=1000000/\0<=(y-i)/\0<=((y+j)-i)/\0<=i/\(y-i)+i<=(aM xl:af)/\((y+j)-i)+i<=(aM xl:af))/\(jX .i64 (j-i))) ⟨kC,kC,kC,⟨p9,hnk,by omega,by omega,by omega,by omega,by omega⟩,kC⟩ ?_;exact oa (mR i (j-i) (LX i.toNat xl (y-i) ((y+j)-i) 0) (k-1) (ir 1) ⟨by omega,by omega,by omega,by omega,by omega,iS.swr _ _ _ _,by rw[<-iF,ahC (by omega) q1 q2]⟩ (by omega))
 refine jY (pr:=(jX .i64 (y-i))/\(qd (aM xl:af) xl/\(aM xl:af)<=1000000/\0<=(y-i)/\0<=y/\0<=i/\(y-i)+i<=(aM xl:af)/\y+i<=(aM xl:af))) ⟨kC,⟨p9,hnk,by omega,by omega,by omega,by omega,by omega⟩⟩ ?_;intro _ _ h;exact mA (((LX i.toNat xl (y-i) y 0),()),(())) (ir 1) h (by rw[<-iF,ahD (by omega) q1])
def ahO:lM aR:=r8 ahN
theorem EL {A B:Prop}(h:¬A\/¬B):¬(A/\B):=λz=>h.elim (λa=>a z.1) λa=>a z.2
theorem Ci {N:af}{l:oB}{a m b:af}{k:ah}(h:qd N l)(hN:N<=1000000)(h0:0<=a)(h1:a<m)(h2:m<b)(h3:b<=N)(hk:(b-a).toNat<=k):qd (aM l:af) l/\(aM l:af)<=1000000/\(0<=a/\a<m/\m<b/\b<=(aM l:af))/\(b-a).toNat<=k:=by
 have:=h.len;exact⟨this▸h,by omega,⟨h0,h1,h2,by omega⟩,hk⟩
theorem ahP (k_:ah)(ih:nX aR 133 zg (λx=>qd ((K_ x.1.1).length:af) (K_ x.1.1)/\((K_ x.1.1).length:af)<=1000000/\(0<=(I_ x.2.2.1)/\(I_ x.2.2.1)<(I_ x.2.2.2.1)/\(I_ x.2.2.2.1)<(I_ x.2.2.2.2.1)/\(I_ x.2.2.2.2.1)<=((K_ x.1.1).length:af))/\((I_ x.2.2.2.2.1)-(I_ x.2.2.1)).toNat<=k_) (λx=>(((nB k_ (K_ x.1.1) (I_ x.2.2.1) (I_ x.2.2.2.1) (I_ x.2.2.2.2.1)),()),(())))):nX aR 133 zg (λx=>qd ((K_ x.1.1).length:af) (K_ x.1.1)/\((K_ x.1.1).length:af)<=1000000/\(0<=(I_ x.2.2.1)/\(I_ x.2.2.1)<(I_ x.2.2.2.1)/\(I_ x.2.2.2.1)<(I_ x.2.2.2.2.1)/\(I_ x.2.2.2.2.1)<=((K_ x.1.1).length:af))/\((I_ x.2.2.2.2.1)-(I_ x.2.2.1)).toNat<=(k_+1)) (λx=>(((nB (k_+1) (K_ x.1.1) (I_ x.2.2.1) (I_ x.2.2.2.1) (I_ x.2.2.2.2.1)),()),(()))):=by
 refine oA f133 220 [(r8 ih),afG,ahO] zg func133 λo A x hd _ _ h=>?_;obtain⟨⟨(xr:aa (aa af)),_⟩,⟨_,(x:af),(y:af),(z:af),_,_⟩⟩:=x;have vC:=vK h 0 xr;change qd (aM xr:af) xr/\(aM xr:af)<=1000000/\(0<=x/\x<y/\y<z/\z<=(aM xr:af))/\(z-x).toNat<=(k_+1) at hd;have⟨hS,hN,⟨hx0,hx1,hx2,hx3⟩,hk⟩:=hd;refine go (pr:=(jX .i64 (y-x))) [] h kC ?_;refine jR (p:=y-x=1) (λq1=>?_) λq1=>?_
 .refine jQ ?_;refine vW af af ah (λi j k=>⟨[(0,eo 0),(1,en x),(4,az ⟨[],.one (.sR 71 [])⟩),(10,en i),(11,en j)],[(0,az (.row 24 (.list .int) xr))],1⟩) (λi j k=>y<=i/\i<=j/\j<=z/\j-i<=(k:af)/\Tg k xr x i j=Tg (z-y).toNat xr x y z) (λi j k=>k) y z ((z-y).toNat) (ir 1) ⟨bM _,by omega,bM _,by omega,rfl⟩ λi j k _ mR hI=>?_;have⟨i0,i1,i2,k0,iF⟩:=hI;refine jQ ?_;refine jR (p:=i<j) (λq2=>?_) λq2=>?_
  .have Af:=hS.nei (i:=((i+j)/2)) (by omega) (by omega);have NO:=hS.nei (i:=x) (by omega) (by omega);refine jY (pr:=(jX .i64 (i+j))/\(jX .u64 (i+j))/\(jX .i64 ((i+j)/2))/\(j8 ((i+j)/2) xr.length)/\(j8 x xr.length)/\((0<((xr.getD ((i+j)/2).toNat []).length:af)/\-10000000<=(xr.getD ((i+j)/2).toNat []).getD (0:af).toNat 0/\(xr.getD ((i+j)/2).toNat []).getD (0:af).toNat 0<=10000000)/\(0<((xr.getD x.toNat []).length:af)/\-10000000<=(xr.getD x.toNat []).getD (0:af).toNat 0/\(xr.getD x.toNat []).getD (0:af).toNat 0<=10000000))) ⟨kC,⟨by omega,by omega⟩,kC,bx,bx,(by first|exact⟨Af,NO⟩|exact⟨NO,Af⟩)⟩ ?_;refine jR (p:=((xr.getD ((i+j)/2).toNat []).getD (0:af).toNat 0-(xr.getD x.toNat []).getD (0:af).toNat 0)<0) (λq3=>?_) λq3=>?_
   .refine jY (pr:=(jX .i64 (((i+j)/2)+1))) kC ?_;exact oa (mR (((i+j)/2)+1) j (k-1) (ir 1) ⟨by omega,by omega,by omega,by omega,by rw[<-iF,adS (by omega) q2 q3]⟩ (by omega))
   refine jQ ?_;exact oa (mR i ((i+j)/2) (k-1) (ir 1) ⟨by omega,by omega,by omega,by omega,by rw[<-iF,ahE (by omega) q2 q3]⟩ (by omega))
  have hr:Tg (z-y).toNat xr x y z=i:=by rw[<-iF];exact adT q2
  refine jQ ?_;refine uf af oB (λu xl=>⟨[(0,eo 0),(10,en i),(13,en u)],[(0,az (.row 24 (.list .int) xl))],1⟩) (λu xl=>x<=u/\u<=i-1/\qd (aM xr:af) xl/\mvU (i-1-u).toNat xl u=mvU (i-1-x).toNat xr x) (λu xl=>(i-1-u).toNat) x xr (ir 1) ⟨by omega,by omega,hS,rfl⟩ λu xl _ zf hI=>?_;have⟨u0,u1,uS,uF⟩:=hI;have MC:=uS.len;refine jY (pr:=(jX .i64 (i-1))) kC ?_;refine jR (p:=u<i-1) (λq4=>?_) λq4=>?_
  .have Kt:=Lz (l:=xl) (i:=u) (j:=u+1) (by omega) (by omega) (by omega) (by omega);refine jY (pr:=(jX .i64 (u+1))/\(jX .i64 (u+1))/\(j8 (u+1) xl.length)/\(j8 u xl.length)/\(j8 u xl.length)/\(j8 u xl.length)/\(j8 (u+1) (xl.set u.toNat (xl.getD (u+1).toNat [])).length)/\(j8 (u+1) (xl.set u.toNat (xl.getD (u+1).toNat [])).length)/\(jX .i64 (u+1))) ⟨kC,kC,bx,bx,bx,bx,bx,bx,kC⟩ ?_;exact oa (zf (u+1) ((xl.set u.toNat (xl.getD (u+1).toNat [])).set (u+1).toNat (xl.getD u.toNat [])) (ir 1) ⟨by omega,by omega,Kt▸uS.swp _ _,by rw[<-Kt,<-uF];exact(aaz q4).symm⟩ (by omega))
  refine jQ ?_;intro _ _ h;exact mA ((xl,()),(())) (ir 1) h (by rw[aaB q1,hr,<-uF,adW q4])
 refine jY (pr:=(jX .i64 (z-y))) kC ?_;refine jR (p:=z-y=1) (λq5=>?_) λq5=>?_
 .refine jQ ?_;refine vW af af ah (λi j k=>⟨[(0,eo 0),(2,en y),(4,az ⟨[],.one (.sR 71 [])⟩),(14,en i),(15,en j)],[(0,az (.row 24 (.list .int) xr))],1⟩) (λi j k=>x<=i/\i<=j/\j<=y/\j-i<=(k:af)/\Th k xr y i j=Th (y-x).toNat xr y x y) (λi j k=>k) x y ((y-x).toNat) (ir 1) ⟨bM _,by omega,bM _,by omega,rfl⟩ λi j k _ wo hI=>?_;have⟨i0,i1,i2,k0,iF⟩:=hI;refine jQ ?_;refine jR (p:=i<j) (λq6=>?_) λq6=>?_
  .have Af:=hS.nei (i:=y) (by omega) (by omega);have NO:=hS.nei (i:=((i+j)/2)) (by omega) (by omega);refine jY (pr:=(jX .i64 (i+j))/\(jX .u64 (i+j))/\(jX .i64 ((i+j)/2))/\(j8 y xr.length)/\(j8 ((i+j)/2) xr.length)/\((0<((xr.getD y.toNat []).length:af)/\-10000000<=(xr.getD y.toNat []).getD (0:af).toNat 0/\(xr.getD y.toNat []).getD (0:af).toNat 0<=10000000)/\(0<((xr.getD ((i+j)/2).toNat []).length:af)/\-10000000<=(xr.getD ((i+j)/2).toNat []).getD (0:af).toNat 0/\(xr.getD ((i+j)/2).toNat []).getD (0:af).toNat 0<=10000000))) ⟨kC,⟨by omega,by omega⟩,kC,bx,bx,(by first|exact⟨Af,NO⟩|exact⟨NO,Af⟩)⟩ ?_;refine pY (p:=((xr.getD y.toNat []).getD (0:af).toNat 0-(xr.getD ((i+j)/2).toNat []).getD (0:af).toNat 0)<0) (λq7=>?_) λq7=>?_
   .refine jY (pr:=(jX .i64 (((i+j)/2)+1))) kC ?_;exact oa (wo (((i+j)/2)+1) j (k-1) (ir 1) ⟨by omega,by omega,by omega,by omega,by rw[<-iF,adU (by omega) q6 q7]⟩ (by omega))
   refine jQ ?_;exact oa (wo i ((i+j)/2) (k-1) (ir 1) ⟨by omega,by omega,by omega,by omega,by rw[<-iF,ahF (by omega) q6 q7]⟩ (by omega))
  have hr:Th (y-x).toNat xr y x y=i:=by rw[<-iF];exact adV q6
  refine jQ ?_;refine uf af oB (λu xl=>⟨[(0,eo 0),(14,en i),(17,en u)],[(0,az (.row 24 (.list .int) xl))],1⟩) (λu xl=>i<=u/\u<=y/\qd (aM xr:af) xl/\mvD (u-i).toNat xl u=mvD (y-i).toNat xr y) (λu xl=>(u-i).toNat) y xr (ir 1) ⟨by omega,by omega,hS,rfl⟩ λu xl _ HH hI=>?_;have⟨u0,u1,uS,uF⟩:=hI;have MC:=uS.len;refine jQ ?_;refine jR (p:=i<u) (λq8=>?_) λq8=>?_
  .have Kt:=Lz (l:=xl) (i:=u) (j:=u-1) (by omega) (by omega) (by omega) (by omega);refine jY (pr:=(jX .i64 (u-1))/\(jX .i64 (u-1))/\(j8 (u-1) xl.length)/\(j8 u xl.length)/\(j8 u xl.length)/\(j8 u xl.length)/\(j8 (u-1) (xl.set u.toNat (xl.getD (u-1).toNat [])).length)/\(j8 (u-1) (xl.set u.toNat (xl.getD (u-1).toNat [])).length)/\(jX .i64 (u-1))) ⟨kC,kC,bx,bx,bx,bx,bx,bx,kC⟩ ?_;exact oa (HH (u-1) ((xl.set u.toNat (xl.getD (u-1).toNat [])).set (u-1).toNat (xl.getD u.toNat [])) (ir 1) ⟨by omega,by omega,Kt▸uS.swp _ _,by rw[<-Kt,<-uF];exact(aaA q8).symm⟩ (by omega))
  refine jQ ?_;intro _ _ h;exact mA ((xl,()),(())) (ir 1) h (by rw[aaC q1 q5,hr,<-uF,adX q8])
 refine jY (pr:=(jX .i64 (x+z))/\(jX .u64 (x+z))/\(jX .i64 ((x+z)/2))/\(jX .i64 (((x+z)/2)+y))) ⟨kC,⟨by omega,by omega⟩,kC,kC⟩ ?_;refine jR (p:=(x+z)/2<y) (λq9=>?_) λq9=>?_
 .refine jY (pr:=(jX .i64 ((((x+z)/2)+y)-z))/\(jX .i64 ((((x+z)/2)+y)-1))) ⟨kC,kC⟩ ?_;refine vW af af ah (λu r k=>⟨[(0,eo 0),(1,en x),(2,en y),(3,en z),(4,az ⟨[],.one (.sR 71 [])⟩),(18,en ((x+z)/2)),(19,en (((x+z)/2)+y)),(20,en u),(21,en r),(22,en ((((x+z)/2)+y)-1))],[(0,az (.row 24 (.list .int) xr))],1⟩) (λu r k=>((x+z)/2+y-z)<=u/\u<=r/\r<=((x+z)/2)/\r-u<=(k:af)/\Oo k xr ((x+z)/2+y-1) u r=Oo (z-x).toNat xr ((x+z)/2+y-1) ((x+z)/2+y-z) ((x+z)/2)) (λu r k=>k) ((x+z)/2+y-z) ((x+z)/2) ((z-x).toNat) (ir 1) ⟨bM _,by omega,bM _,by omega,rfl⟩ λu r k _ ZO hI=>?_;have⟨u0,u1,u2,k0,uF⟩:=hI;refine jQ ?_;refine jR (p:=u<r) (λHJ=>?_) λHJ=>?_
  .have Af:=hS.nei (i:=((x+z)/2+y-1)-((u+r)/2)) (by omega) (by omega);have NO:=hS.nei (i:=((u+r)/2)) (by omega) (by omega);refine jY (pr:=(jX .i64 (u+r))/\(jX .u64 (u+r))/\(jX .i64 ((u+r)/2))/\(jX .i64 (((((x+z)/2)+y)-1)-((u+r)/2)))/\(j8 (((((x+z)/2)+y)-1)-((u+r)/2)) xr.length)/\(j8 ((u+r)/2) xr.length)/\((0<((xr.getD (((((x+z)/2)+y)-1)-((u+r)/2)).toNat []).length:af)/\-10000000<=(xr.getD (((((x+z)/2)+y)-1)-((u+r)/2)).toNat []).getD (0:af).toNat 0/\(xr.getD (((((x+z)/2)+y)-1)-((u+r)/2)).toNat []).getD (0:af).toNat 0<=10000000)/\(0<((xr.getD ((u+r)/2).toNat []).length:af)/\-10000000<=(xr.getD ((u+r)/2).toNat []).getD (0:af).toNat 0/\(xr.getD ((u+r)/2).toNat []).getD (0:af).toNat 0<=10000000))) ⟨kC,⟨by omega,by omega⟩,kC,kC,bx,bx,(by first|exact⟨Af,NO⟩|exact⟨NO,Af⟩)⟩ ?_;refine pY (p:=((xr.getD (((((x+z)/2)+y)-1)-((u+r)/2)).toNat []).getD (0:af).toNat 0-(xr.getD ((u+r)/2).toNat []).getD (0:af).toNat 0)<0) (λOj=>?_) λOj=>?_
   .refine jY (pr:=(jX .i64 (((u+r)/2)+1))) kC ?_;exact oa (ZO (((u+r)/2)+1) r (k-1) (ir 1) ⟨by omega,by omega,by omega,by omega,by rw[<-uF,Ts (by omega) HJ Oj]⟩ (by omega))
   refine jQ ?_;exact oa (ZO u ((u+r)/2) (k-1) (ir 1) ⟨by omega,by omega,by omega,by omega,by rw[<-uF,aay (by omega) HJ Oj]⟩ (by omega))
  have hs:u=Lv xr x y z:=by rw[<-afE q9,<-uF];exact(Tt HJ).symm
  refine jY (pr:=(jX .i64 ((((x+z)/2)+y)-u))) kC ?_;refine jZ (λ(Ol:(u<y)/\(y<(((x+z)/2)+y)-u))=>?_) (λ(Ol:(¬(u<y))\/(¬(y<(((x+z)/2)+y)-u)))=>?_)
  .have ok1:qd (aM xr:af) (od ((y-u)+((x+z)/2+y-u-y)).toNat xr y (y-u) ((x+z)/2+y-u-y)):=by rw[rz hs Ol];exact hS.akR _ _ _
   refine jY (pr:=(qd (aM xr:af) xr/\(aM xr:af)<=1000000/\0<=u/\u<y/\y<((((x+z)/2)+y)-u)/\((((x+z)/2)+y)-u)<=(aM xr:af))) (⟨hS,hN,by omega,by omega,by omega,by omega⟩) ?_;refine jZ (λ(q13:(x<u)/\(u<(x+z)/2))=>?_) (λ(q13:(¬(x<u))\/(¬(u<(x+z)/2)))=>?_)
   .refine jY (pr:=(qd ((od ((y-u)+(((((x+z)/2)+y)-u)-y)).toNat xr y (y-u) (((((x+z)/2)+y)-u)-y)).length:af) (od ((y-u)+(((((x+z)/2)+y)-u)-y)).toNat xr y (y-u) (((((x+z)/2)+y)-u)-y))/\((od ((y-u)+(((((x+z)/2)+y)-u)-y)).toNat xr y (y-u) (((((x+z)/2)+y)-u)-y)).length:af)<=1000000/\(0<=x/\x<u/\u<(x+z)/2/\(x+z)/2<=((od ((y-u)+(((((x+z)/2)+y)-u)-y)).toNat xr y (y-u) (((((x+z)/2)+y)-u)-y)).length:af))/\((x+z)/2-x).toNat<=k_)) ((Ci (ok1) hN (by omega) (by omega) (by omega) (by omega) (by omega))) ?_;refine jZ (λ(q14:((x+z)/2<(((x+z)/2)+y)-u)/\((((x+z)/2)+y)-u<z))=>?_) (λ(q14:(¬((x+z)/2<(((x+z)/2)+y)-u))\/(¬((((x+z)/2)+y)-u<z)))=>?_)
    .refine jY (pr:=(qd ((nB k_ (od ((y-u)+(((((x+z)/2)+y)-u)-y)).toNat xr y (y-u) (((((x+z)/2)+y)-u)-y)) x u ((x+z)/2)).length:af) (nB k_ (od ((y-u)+(((((x+z)/2)+y)-u)-y)).toNat xr y (y-u) (((((x+z)/2)+y)-u)-y)) x u ((x+z)/2))/\((nB k_ (od ((y-u)+(((((x+z)/2)+y)-u)-y)).toNat xr y (y-u) (((((x+z)/2)+y)-u)-y)) x u ((x+z)/2)).length:af)<=1000000/\(0<=(x+z)/2/\(x+z)/2<(((x+z)/2)+y)-u/\(((x+z)/2)+y)-u<z/\z<=((nB k_ (od ((y-u)+(((((x+z)/2)+y)-u)-y)).toNat xr y (y-u) (((((x+z)/2)+y)-u)-y)) x u ((x+z)/2)).length:af))/\(z-(x+z)/2).toNat<=k_)) ((Ci (ok1.sym _ _ _ _) hN (by omega) (by omega) (by omega) (by omega) (by omega))) ?_;intro _ _ h;exact mA (((nB k_ (nB k_ (od ((y-u)+(((((x+z)/2)+y)-u)-y)).toNat xr y (y-u) (((((x+z)/2)+y)-u)-y)) x u ((x+z)/2)) ((x+z)/2) ((((x+z)/2)+y)-u) z),()),(())) (ir 1) h (by rw[qz q1 q5 hs,<-rz hs Ol,x6,aQ q13,x7,aQ q14])
    refine jQ ?_;intro _ _ h;exact mA (((nB k_ (od ((y-u)+(((((x+z)/2)+y)-u)-y)).toNat xr y (y-u) (((((x+z)/2)+y)-u)-y)) x u ((x+z)/2)),()),(())) (ir 1) h (by rw[qz q1 q5 hs,<-rz hs Ol,x6,aQ q13,x7,aP (EL q14)])
   refine jQ ?_;refine jZ (λ(q15:((x+z)/2<(((x+z)/2)+y)-u)/\((((x+z)/2)+y)-u<z))=>?_) (λ(q15:(¬((x+z)/2<(((x+z)/2)+y)-u))\/(¬((((x+z)/2)+y)-u<z)))=>?_)
   .refine jY (pr:=(qd ((od ((y-u)+(((((x+z)/2)+y)-u)-y)).toNat xr y (y-u) (((((x+z)/2)+y)-u)-y)).length:af) (od ((y-u)+(((((x+z)/2)+y)-u)-y)).toNat xr y (y-u) (((((x+z)/2)+y)-u)-y))/\((od ((y-u)+(((((x+z)/2)+y)-u)-y)).toNat xr y (y-u) (((((x+z)/2)+y)-u)-y)).length:af)<=1000000/\(0<=(x+z)/2/\(x+z)/2<(((x+z)/2)+y)-u/\(((x+z)/2)+y)-u<z/\z<=((od ((y-u)+(((((x+z)/2)+y)-u)-y)).toNat xr y (y-u) (((((x+z)/2)+y)-u)-y)).length:af))/\(z-(x+z)/2).toNat<=k_)) ((Ci (ok1) hN (by omega) (by omega) (by omega) (by omega) (by omega))) ?_;intro _ _ h;exact mA (((nB k_ (od ((y-u)+(((((x+z)/2)+y)-u)-y)).toNat xr y (y-u) (((((x+z)/2)+y)-u)-y)) ((x+z)/2) ((((x+z)/2)+y)-u) z),()),(())) (ir 1) h (by rw[qz q1 q5 hs,<-rz hs Ol,x6,aP (EL q13),x7,aQ q15])
   refine jQ ?_;intro _ _ h;exact mA (((od ((y-u)+(((((x+z)/2)+y)-u)-y)).toNat xr y (y-u) (((((x+z)/2)+y)-u)-y)),()),(())) (ir 1) h (by rw[qz q1 q5 hs,<-rz hs Ol,x6,aP (EL q13),x7,aP (EL q15)])
  refine jQ ?_;refine jZ (λ(q16:(x<u)/\(u<(x+z)/2))=>?_) (λ(q16:(¬(x<u))\/(¬(u<(x+z)/2)))=>?_)
  .refine jY (pr:=(qd (aM xr:af) xr/\(aM xr:af)<=1000000/\(0<=x/\x<u/\u<(x+z)/2/\(x+z)/2<=(aM xr:af))/\((x+z)/2-x).toNat<=k_)) ((Ci (hS) hN (by omega) (by omega) (by omega) (by omega) (by omega))) ?_;refine jZ (λ(q17:((x+z)/2<(((x+z)/2)+y)-u)/\((((x+z)/2)+y)-u<z))=>?_) (λ(q17:(¬((x+z)/2<(((x+z)/2)+y)-u))\/(¬((((x+z)/2)+y)-u<z)))=>?_)
   .refine jY (pr:=(qd ((nB k_ xr x u ((x+z)/2)).length:af) (nB k_ xr x u ((x+z)/2))/\((nB k_ xr x u ((x+z)/2)).length:af)<=1000000/\(0<=(x+z)/2/\(x+z)/2<(((x+z)/2)+y)-u/\(((x+z)/2)+y)-u<z/\z<=((nB k_ xr x u ((x+z)/2)).length:af))/\(z-(x+z)/2).toNat<=k_)) ((Ci (hS.sym _ _ _ _) hN (by omega) (by omega) (by omega) (by omega) (by omega))) ?_;intro _ _ h;exact mA (((nB k_ (nB k_ xr x u ((x+z)/2)) ((x+z)/2) ((((x+z)/2)+y)-u) z),()),(())) (ir 1) h (by rw[qz q1 q5 hs,<-tD hs (EL Ol),x6,aQ q16,x7,aQ q17])
   refine jQ ?_;intro _ _ h;exact mA (((nB k_ xr x u ((x+z)/2)),()),(())) (ir 1) h (by rw[qz q1 q5 hs,<-tD hs (EL Ol),x6,aQ q16,x7,aP (EL q17)])
  refine jQ ?_;refine jZ (λ(q18:((x+z)/2<(((x+z)/2)+y)-u)/\((((x+z)/2)+y)-u<z))=>?_) (λ(q18:(¬((x+z)/2<(((x+z)/2)+y)-u))\/(¬((((x+z)/2)+y)-u<z)))=>?_)
  .refine jY (pr:=(qd (aM xr:af) xr/\(aM xr:af)<=1000000/\(0<=(x+z)/2/\(x+z)/2<(((x+z)/2)+y)-u/\(((x+z)/2)+y)-u<z/\z<=(aM xr:af))/\(z-(x+z)/2).toNat<=k_)) ((Ci (hS) hN (by omega) (by omega) (by omega) (by omega) (by omega))) ?_;intro _ _ h;exact mA (((nB k_ xr ((x+z)/2) ((((x+z)/2)+y)-u) z),()),(())) (ir 1) h (by rw[qz q1 q5 hs,<-tD hs (EL Ol),x6,aP (EL q16),x7,aQ q18])
  refine jQ ?_;intro _ _ h;exact mA ((xr,()),(())) (ir 1) h (by rw[qz q1 q5 hs,<-tD hs (EL Ol),x6,aP (EL q16),x7,aP (EL q18)])
 refine jY (pr:=(jX .i64 ((((x+z)/2)+y)-1))) kC ?_;refine vW af af ah (λu r k=>⟨[(0,eo 0),(1,en x),(2,en y),(3,en z),(4,az ⟨[],.one (.sR 71 [])⟩),(18,en ((x+z)/2)),(19,en (((x+z)/2)+y)),(20,en u),(21,en r),(22,en ((((x+z)/2)+y)-1))],[(0,az (.row 24 (.list .int) xr))],1⟩) (λu r k=>x<=u/\u<=r/\r<=y/\r-u<=(k:af)/\Oo k xr ((x+z)/2+y-1) u r=Oo (z-x).toNat xr ((x+z)/2+y-1) x y) (λu r k=>k) x y ((z-x).toNat) (ir 1) ⟨bM _,by omega,bM _,by omega,rfl⟩ λu r k _ hK6 hI=>?_;have⟨u0,u1,u2,k0,uF⟩:=hI;refine jQ ?_;refine jR (p:=u<r) (λq19=>?_) λq19=>?_
 .have Af:=hS.nei (i:=((x+z)/2+y-1)-((u+r)/2)) (by omega) (by omega);have NO:=hS.nei (i:=((u+r)/2)) (by omega) (by omega);refine jY (pr:=(jX .i64 (u+r))/\(jX .u64 (u+r))/\(jX .i64 ((u+r)/2))/\(jX .i64 (((((x+z)/2)+y)-1)-((u+r)/2)))/\(j8 (((((x+z)/2)+y)-1)-((u+r)/2)) xr.length)/\(j8 ((u+r)/2) xr.length)/\((0<((xr.getD (((((x+z)/2)+y)-1)-((u+r)/2)).toNat []).length:af)/\-10000000<=(xr.getD (((((x+z)/2)+y)-1)-((u+r)/2)).toNat []).getD (0:af).toNat 0/\(xr.getD (((((x+z)/2)+y)-1)-((u+r)/2)).toNat []).getD (0:af).toNat 0<=10000000)/\(0<((xr.getD ((u+r)/2).toNat []).length:af)/\-10000000<=(xr.getD ((u+r)/2).toNat []).getD (0:af).toNat 0/\(xr.getD ((u+r)/2).toNat []).getD (0:af).toNat 0<=10000000))) ⟨kC,⟨by omega,by omega⟩,kC,kC,bx,bx,(by first|exact⟨Af,NO⟩|exact⟨NO,Af⟩)⟩ ?_;refine pY (p:=((xr.getD (((((x+z)/2)+y)-1)-((u+r)/2)).toNat []).getD (0:af).toNat 0-(xr.getD ((u+r)/2).toNat []).getD (0:af).toNat 0)<0) (λq20=>?_) λq20=>?_
  .refine jY (pr:=(jX .i64 (((u+r)/2)+1))) kC ?_;exact oa (hK6 (((u+r)/2)+1) r (k-1) (ir 1) ⟨by omega,by omega,by omega,by omega,by rw[<-uF,Ts (by omega) q19 q20]⟩ (by omega))
  refine jQ ?_;exact oa (hK6 u ((u+r)/2) (k-1) (ir 1) ⟨by omega,by omega,by omega,by omega,by rw[<-uF,aay (by omega) q19 q20]⟩ (by omega))
 have hs:u=Lv xr x y z:=by rw[<-afF q9,<-uF];exact(Tt q19).symm
 refine jY (pr:=(jX .i64 ((((x+z)/2)+y)-u))) kC ?_;refine jZ (λ(q21:(u<y)/\(y<(((x+z)/2)+y)-u))=>?_) (λ(q21:(¬(u<y))\/(¬(y<(((x+z)/2)+y)-u)))=>?_)
 .have ok1:qd (aM xr:af) (od ((y-u)+((x+z)/2+y-u-y)).toNat xr y (y-u) ((x+z)/2+y-u-y)):=by rw[rz hs q21];exact hS.akR _ _ _
  refine jY (pr:=(qd (aM xr:af) xr/\(aM xr:af)<=1000000/\0<=u/\u<y/\y<((((x+z)/2)+y)-u)/\((((x+z)/2)+y)-u)<=(aM xr:af))) (⟨hS,hN,by omega,by omega,by omega,by omega⟩) ?_;refine jZ (λ(q22:(x<u)/\(u<(x+z)/2))=>?_) (λ(q22:(¬(x<u))\/(¬(u<(x+z)/2)))=>?_)
  .refine jY (pr:=(qd ((od ((y-u)+(((((x+z)/2)+y)-u)-y)).toNat xr y (y-u) (((((x+z)/2)+y)-u)-y)).length:af) (od ((y-u)+(((((x+z)/2)+y)-u)-y)).toNat xr y (y-u) (((((x+z)/2)+y)-u)-y))/\((od ((y-u)+(((((x+z)/2)+y)-u)-y)).toNat xr y (y-u) (((((x+z)/2)+y)-u)-y)).length:af)<=1000000/\(0<=x/\x<u/\u<(x+z)/2/\(x+z)/2<=((od ((y-u)+(((((x+z)/2)+y)-u)-y)).toNat xr y (y-u) (((((x+z)/2)+y)-u)-y)).length:af))/\((x+z)/2-x).toNat<=k_)) ((Ci (ok1) hN (by omega) (by omega) (by omega) (by omega) (by omega))) ?_;refine jZ (λ(q23:((x+z)/2<(((x+z)/2)+y)-u)/\((((x+z)/2)+y)-u<z))=>?_) (λ(q23:(¬((x+z)/2<(((x+z)/2)+y)-u))\/(¬((((x+z)/2)+y)-u<z)))=>?_)
   .refine jY (pr:=(qd ((nB k_ (od ((y-u)+(((((x+z)/2)+y)-u)-y)).toNat xr y (y-u) (((((x+z)/2)+y)-u)-y)) x u ((x+z)/2)).length:af) (nB k_ (od ((y-u)+(((((x+z)/2)+y)-u)-y)).toNat xr y (y-u) (((((x+z)/2)+y)-u)-y)) x u ((x+z)/2))/\((nB k_ (od ((y-u)+(((((x+z)/2)+y)-u)-y)).toNat xr y (y-u) (((((x+z)/2)+y)-u)-y)) x u ((x+z)/2)).length:af)<=1000000/\(0<=(x+z)/2/\(x+z)/2<(((x+z)/2)+y)-u/\(((x+z)/2)+y)-u<z/\z<=((nB k_ (od ((y-u)+(((((x+z)/2)+y)-u)-y)).toNat xr y (y-u) (((((x+z)/2)+y)-u)-y)) x u ((x+z)/2)).length:af))/\(z-(x+z)/2).toNat<=k_)) ((Ci (ok1.sym _ _ _ _) hN (by omega) (by omega) (by omega) (by omega) (by omega))) ?_;intro _ _ h;exact mA (((nB k_ (nB k_ (od ((y-u)+(((((x+z)/2)+y)-u)-y)).toNat xr y (y-u) (((((x+z)/2)+y)-u)-y)) x u ((x+z)/2)) ((x+z)/2) ((((x+z)/2)+y)-u) z),()),(())) (ir 1) h (by rw[qz q1 q5 hs,<-rz hs q21,x6,aQ q22,x7,aQ q23])
   refine jQ ?_;intro _ _ h;exact mA (((nB k_ (od ((y-u)+(((((x+z)/2)+y)-u)-y)).toNat xr y (y-u) (((((x+z)/2)+y)-u)-y)) x u ((x+z)/2)),()),(())) (ir 1) h (by rw[qz q1 q5 hs,<-rz hs q21,x6,aQ q22,x7,aP (EL q23)])
  refine jQ ?_;refine jZ (λ(q24:((x+z)/2<(((x+z)/2)+y)-u)/\((((x+z)/2)+y)-u<z))=>?_) (λ(q24:(¬((x+z)/2<(((x+z)/2)+y)-u))\/(¬((((x+z)/2)+y)-u<z)))=>?_)
  .refine jY (pr:=(qd ((od ((y-u)+(((((x+z)/2)+y)-u)-y)).toNat xr y (y-u) (((((x+z)/2)+y)-u)-y)).length:af) (od ((y-u)+(((((x+z)/2)+y)-u)-y)).toNat xr y (y-u) (((((x+z)/2)+y)-u)-y))/\((od ((y-u)+(((((x+z)/2)+y)-u)-y)).toNat xr y (y-u) (((((x+z)/2)+y)-u)-y)).length:af)<=1000000/\(0<=(x+z)/2/\(x+z)/2<(((x+z)/2)+y)-u/\(((x+z)/2)+y)-u<z/\z<=((od ((y-u)+(((((x+z)/2)+y)-u)-y)).toNat xr y (y-u) (((((x+z)/2)+y)-u)-y)).length:af))/\(z-(x+z)/2).toNat<=k_)) ((Ci (ok1) hN (by omega) (by omega) (by omega) (by omega) (by omega))) ?_;intro _ _ h;exact mA (((nB k_ (od ((y-u)+(((((x+z)/2)+y)-u)-y)).toNat xr y (y-u) (((((x+z)/2)+y)-u)-y)) ((x+z)/2) ((((x+z)/2)+y)-u) z),()),(())) (ir 1) h (by rw[qz q1 q5 hs,<-rz hs q21,x6,aP (EL q22),x7,aQ q24])
  refine jQ ?_;intro _ _ h;exact mA (((od ((y-u)+(((((x+z)/2)+y)-u)-y)).toNat xr y (y-u) (((((x+z)/2)+y)-u)-y)),()),(())) (ir 1) h (by rw[qz q1 q5 hs,<-rz hs q21,x6,aP (EL q22),x7,aP (EL q24)])
 refine jQ ?_;refine jZ (λ(q25:(x<u)/\(u<(x+z)/2))=>?_) (λ(q25:(¬(x<u))\/(¬(u<(x+z)/2)))=>?_)
 .refine jY (pr:=(qd (aM xr:af) xr/\(aM xr:af)<=1000000/\(0<=x/\x<u/\u<(x+z)/2/\(x+z)/2<=(aM xr:af))/\((x+z)/2-x).toNat<=k_)) ((Ci (hS) hN (by omega) (by omega) (by omega) (by omega) (by omega))) ?_;refine jZ (λ(q26:((x+z)/2<(((x+z)/2)+y)-u)/\((((x+z)/2)+y)-u<z))=>?_) (λ(q26:(¬((x+z)/2<(((x+z)/2)+y)-u))\/(¬((((x+z)/2)+y)-u<z)))=>?_)
  .refine jY (pr:=(qd ((nB k_ xr x u ((x+z)/2)).length:af) (nB k_ xr x u ((x+z)/2))/\((nB k_ xr x u ((x+z)/2)).length:af)<=1000000/\(0<=(x+z)/2/\(x+z)/2<(((x+z)/2)+y)-u/\(((x+z)/2)+y)-u<z/\z<=((nB k_ xr x u ((x+z)/2)).length:af))/\(z-(x+z)/2).toNat<=k_)) ((Ci (hS.sym _ _ _ _) hN (by omega) (by omega) (by omega) (by omega) (by omega))) ?_;intro _ _ h;exact mA (((nB k_ (nB k_ xr x u ((x+z)/2)) ((x+z)/2) ((((x+z)/2)+y)-u) z),()),(())) (ir 1) h (by rw[qz q1 q5 hs,<-tD hs (EL q21),x6,aQ q25,x7,aQ q26])
  refine jQ ?_;intro _ _ h;exact mA (((nB k_ xr x u ((x+z)/2)),()),(())) (ir 1) h (by rw[qz q1 q5 hs,<-tD hs (EL q21),x6,aQ q25,x7,aP (EL q26)])
 refine jQ ?_;refine jZ (λ(q27:((x+z)/2<(((x+z)/2)+y)-u)/\((((x+z)/2)+y)-u<z))=>?_) (λ(q27:(¬((x+z)/2<(((x+z)/2)+y)-u))\/(¬((((x+z)/2)+y)-u<z)))=>?_)
 .refine jY (pr:=(qd (aM xr:af) xr/\(aM xr:af)<=1000000/\(0<=(x+z)/2/\(x+z)/2<(((x+z)/2)+y)-u/\(((x+z)/2)+y)-u<z/\z<=(aM xr:af))/\(z-(x+z)/2).toNat<=k_)) ((Ci (hS) hN (by omega) (by omega) (by omega) (by omega) (by omega))) ?_;intro _ _ h;exact mA (((nB k_ xr ((x+z)/2) ((((x+z)/2)+y)-u) z),()),(())) (ir 1) h (by rw[qz q1 q5 hs,<-tD hs (EL q21),x6,aP (EL q25),x7,aQ q27])
 refine jQ ?_;intro _ _ h;exact mA ((xr,()),(())) (ir 1) h (by rw[qz q1 q5 hs,<-tD hs (EL q21),x6,aP (EL q25),x7,aP (EL q27)])
theorem ahQ (k_:ah):nX aR 133 zg (λx=>qd ((K_ x.1.1).length:af) (K_ x.1.1)/\((K_ x.1.1).length:af)<=1000000/\(0<=(I_ x.2.2.1)/\(I_ x.2.2.1)<(I_ x.2.2.2.1)/\(I_ x.2.2.2.1)<(I_ x.2.2.2.2.1)/\(I_ x.2.2.2.2.1)<=((K_ x.1.1).length:af))/\((I_ x.2.2.2.2.1)-(I_ x.2.2.1)).toNat<=k_) (λx=>(((nB k_ (K_ x.1.1) (I_ x.2.2.1) (I_ x.2.2.2.1) (I_ x.2.2.2.2.1)),()),(()))):=by
 induction k_ with
 |zero=>
  intro o A x _ _ hd;have⟨_,_,⟨_,h1,h2,_⟩,h3⟩:=hd;exact ay h3 (by omega)
 |succ k_ ih=>exact ahP k_ ih
def ahR:lM aR:=r8 (ahQ 1000000)
abbrev aaE:sM:=⟨[.row 24 (.list .int)],[.own 0,.int,.sR 71 []],[.row 24 (.list .int)],[],1,aD,[]⟩
theorem ahS:nX aR 94 aaE (λx=>qd ((K_ x.1.1).length:af) (K_ x.1.1)/\((K_ x.1.1).length:af)<=1000000/\(I_ x.2.2.1)=((K_ x.1.1).length:af)) (λx=>(((GR (K_ x.1.1)),()),(()))):=by
 refine oA f94 63 [ahK,ahR] aaE func94 λo A x hd _ _ h=>?_;obtain⟨⟨(xr:aa (aa af)),_⟩,⟨_,(x:af),_,_⟩⟩:=x;have vC:=vK h 0 xr;change qd (aM xr:af) xr/\(aM xr:af)<=1000000/\x=(aM xr:af) at hd;have⟨hS,hN,hx⟩:=hd;refine tY [] h ?_;refine vW af oB ah (λa_ xl k=>⟨[(0,eo 0),(1,en x),(2,az ⟨[],.one (.sR 71 [])⟩),(6,en 20),(7,en a_),(8,en (a_+20))],[(0,az (.row 24 (.list .int) xl))],1⟩) (λa_ xl k=>0<=a_/\a_<=x/\x-a_<(k:af)/\qd (aM xr:af) xl/\GQ k xl a_ x=GQ (xr.length+1) xr 0 x) (λa_ xl k=>k) 0 xr (xr.length+1) (ir 1) ⟨by omega,by omega,by omega,hS,rfl⟩ λa_ xl k _ mR hI=>?_;have⟨a0,a1,k0,aS,aF⟩:=hI;have MC:=aS.len;have p9:qd (aM xl:af) xl:=by rw[aS.len];exact aS
 have hnk:(aM xl:af)<=1000000:=by rw[aS.len];exact hN
 refine jQ ?_;refine jR (p:=a_+20<=x) (λq1=>?_) λq1=>?_
 .refine jY (pr:=(qd (aM xl:af) xl/\(aM xl:af)<=1000000/\0<=a_/\a_<=a_+20/\a_+20<=(aM xl:af))/\(jX .i64 ((a_+20)+20))) ⟨⟨p9,by omega,by omega,by omega,by omega⟩,kC⟩ ?_;exact oa (mR (a_+20) (GO xl a_ (a_+20)) (k-1) (ir 1) ⟨by omega,by omega,by omega,aS.ins _ _,by rw[<-aF,adY (k:=k) (l:=xl) (a:=a_) (n:=x) (by omega) (by omega)]⟩ (by omega))
 refine jY (pr:=(qd (aM xl:af) xl/\(aM xl:af)<=1000000/\0<=a_/\a_<=x/\x<=(aM xl:af))) (⟨p9,by omega,by omega,by omega,by omega⟩) ?_;refine vW af oB ah (λs xm k=>⟨[(0,eo 0),(1,en x),(2,az ⟨[],.one (.sR 71 [])⟩),(6,en s)],[(0,az (.row 24 (.list .int) xm))],1⟩) (λs xm k=>20<=s/\s<=2000000/\x-s<(k:af)/\qd (aM xr:af) xm/\HK k xm s x=GR xr) (λs xm k=>k) 20 (GO xl a_ x) (xr.length+1) (ir 1) ⟨by omega,by omega,by omega,aS.ins _ _,by rw[<-ahG (k:=k) (l:=xl) (a:=a_) (n:=x) (by omega) (by omega),aF,hx];rfl⟩ λs xm k _ zf hI=>?_;have⟨s0,s1,k0,sS,sF⟩:=hI;have MC:=sS.len;refine jQ ?_;refine jR (p:=s<x) (λq2=>?_) λq2=>?_
 .refine jY (pr:=(jX .i64 (2*s))) kC ?_;refine CR af af oB ah (λe f xl kj=>⟨[(0,eo 0),(1,en x),(2,az ⟨[],.one (.sR 71 [])⟩),(6,en s),(7,en e),(8,en f)],[(0,az (.row 24 (.list .int) xl))],1⟩) (λe f xl kj=>f=e+2*s/\0<=e/\e<=x/\x-e<(kj:af)/\qd (aM xr:af) xl/\Dp kj xl s e x=Dp (x.toNat+1) xm s 0 x) (λe f xl kj=>kj) 0 (2*s) xm (x.toNat+1) (ir 1) ⟨by omega,by omega,by omega,by omega,sS,rfl⟩ λe f xl kj _ wo hI=>?_;have⟨f0,e0,e1,ke,eS,eF⟩:=hI;have MC:=eS.len;refine jQ ?_;refine jR (p:=f<=x) (λq3=>?_) λq3=>?_
  .refine jY (pr:=(jX .i64 (e+s))/\(qd (aM xl:af) xl/\(aM xl:af)<=1000000/\(0<=e/\e<e+s/\e+s<f/\f<=(aM xl:af))/\(f-e).toNat<=1000000)/\(jX .i64 (2*s))/\(jX .i64 (f+(2*s)))) ⟨kC,(Ci (eS) hN (by omega) (by omega) (by omega) (by omega) (by omega)),kC,kC⟩ ?_;exact oa (wo f (f+2*s) (nB 1000000 xl e (e+s) f) (kj-1) (ir 1) ⟨by omega,by omega,by omega,by omega,eS.sym _ _ _ _,by rw[<-eF,adZ (k:=kj) (l:=xl) (s:=s) (a:=e) (n:=x) (by omega) (by omega),<-f0]⟩ (by omega))
  refine jY (pr:=(jX .i64 (e+s))) kC ?_;refine jR (p:=e+s<x) (λq4=>?_) λq4=>?_
  .refine jY (pr:=(qd (aM xl:af) xl/\(aM xl:af)<=1000000/\(0<=e/\e<e+s/\e+s<x/\x<=(aM xl:af))/\(x-e).toNat<=1000000)/\(jX .i64 (s*2))) ⟨(Ci (eS) hN (by omega) (by omega) (by omega) (by omega) (by omega)),kC⟩ ?_;exact oa (zf (s*2) (nB 1000000 xl e (e+s) x) (k-1) (ir 1) ⟨by omega,by omega,by omega,eS.sym _ _ _ _,by rw[<-sF,Tu (k:=k) (l:=xm) (s:=s) (n:=x) (by omega) (by omega),<-eF,ad0 (k:=kj) (l:=xl) (s:=s) (a:=e) (n:=x) (by omega) (by omega) (by omega)]⟩ (by omega))
  refine jY (pr:=(jX .i64 (s*2))) kC ?_;exact oa (zf (s*2) xl (k-1) (ir 1) ⟨by omega,by omega,by omega,eS,by rw[<-sF,Tu (k:=k) (l:=xm) (s:=s) (n:=x) (by omega) (by omega),<-eF,ahH (k:=kj) (l:=xl) (s:=s) (a:=e) (n:=x) (by omega) (by omega) (by omega)]⟩ (by omega))
 refine jQ ?_;intro _ _ h;exact mA ((xm,()),(())) (ir 1) h (by rw[<-sF,ahI q2])
def ahT:lM aR:=r8 ahS
theorem ad1:kr aR 49 [(aD,(.list (.list .int)))] [(.list (.list .int))] (λx=>kK (K_ x.1)) (λx=>((K_ x.1),())):=by
 refine kJ f49 23 [Sb] func49 λo x hd _ _ h=>?_;obtain⟨(l:aa (aa af)),_⟩:=x;have vC:=vK h 0 l;change kK l at hd;have oC:=hd;have adJ:=oC.1;refine go (pr:=(0<=(aM l:af)/\(aM l:af)<=(aM l:af)/\(aM l:af)<=2147483647)) [] h (⟨by omega,by omega,by omega⟩) ?_;refine oJ (aa (aa af)) l (λi oo=>⟨[(3,eo 0),(9,eo 1),(10,en (aM l:af)),(11,en i)],[(0,az (.row 24 (.list .int) oo)),(1,az (.ar (.list .int) l))],2⟩) (λi oo=>oo=HA l i.toNat) (dA (aM l:af).toNat []) (rk [12289,0]) (agE l) λi oo _ mR h0 h1 h2=>?_;refine jQ ?_;refine jR (p:=i<(aM l:af)) (λq1=>?_) λq1=>?_
 .have QL:=oC.2 _ (jz (l:=l) (i:=i.toNat) (d:=([]:aa af)) (by omega));have OZ:oo.length=l.length:=by rw[h2];exact YY h0 (by omega)
  refine jY (pr:=(j8 i l.length)/\((l.getD i.toNat []).length<=1000000)/\(j8 i oo.length)/\(j8 i oo.length)/\(jX .i64 (i+1))) ⟨bx,by omega,bx,bx,kC⟩ ?_;exact oa (mR (oo.set i.toNat (l.getD i.toNat [])) (ir 2) (by rw[h2];exact YZ h0 (by omega)))
 refine jQ ?_;exact jW ((oo:aa (aa af)),()) (by rw[h2,Y0 q1])
def ad2:lM aR:=plain ad1
theorem aaF:kr aR 20 [(aD,CQ)] [(.pair D9 (.pair CP plT)),.int] (λx=>(N_ x.1.2.2.1).length<=1000000/\(J_ x.1.2.2.2.1.1).length<=1000000/\(J_ x.1.2.2.2.1.2).length<=1000000/\kK (K_ x.1.2.2.2.2.1)/\kK (K_ x.1.2.2.2.2.2)) (λx=>((kX (I_ x.1.1) (B_ x.1.2.1) (N_ x.1.2.2.1) (J_ x.1.2.2.2.1.1) (J_ x.1.2.2.2.1.2) (K_ x.1.2.2.2.2.1) (K_ x.1.2.2.2.2.2)).1,(kX (I_ x.1.1) (B_ x.1.2.1) (N_ x.1.2.2.1) (J_ x.1.2.2.2.1.1) (J_ x.1.2.2.2.1.2) (K_ x.1.2.2.2.2.1) (K_ x.1.2.2.2.2.2)).2,())):=by
 refine kJ f20 61 [Sb,ad2] func20 λo x hd _ _ h=>?_;obtain⟨⟨(K:af),⟨(W:aa aj),⟨(E:aa mS),⟨⟨(V:aa af),(L:aa af)⟩,⟨(T:aa (aa af)),(S:aa (aa af))⟩⟩⟩⟩⟩,_⟩:=x;have vC:=LU h 0 W;have uB:=OW h 1 E;have rI:=pP h 2 V;have Az:=pP h 3 L;have Te:=vK h 4 T;have hl5:=vK h 5 S;change E.length<=1000000/\V.length<=1000000/\L.length<=1000000/\kK T/\kK S at hd;have⟨hE,hV,hL,hT,hS⟩:=hd;refine tY [] h ?_;refine pY (p:=K=0) (λq1=>?_) λq1=>?_
 .refine jQ ?_;exact jW (((((0:af),[]),(([],[]),([],[]))):(af×aa (af×af))×((aa af)×aa af)×(aa (aa af))×aa (aa af)),((16:af):af),()) (by rw[Gc q1]<;>rfl)
 refine jQ ?_;refine oJ (aa (af×af)) E (λi ge=>⟨[(1,ep 0),(2,ep 1),(4,ep 2),(17,eo 3),(18,en (aM E:af)),(19,en i)],[(0,az (.box 39 [.v (.int .i64 K),.own 4,.own 3,.own 5,.own 6,.own 7,.own 8])),(1,az (.box 57 [.v (.int .i64 0),.v (.slice aA 0 0),.v (.slice aA 0 0),.v (.slice aA 0 0),.v (.slice aA 0 0),.v (.slice aA 0 0)])),(2,az (.box 57 [.v (.int .i64 (aM W:af)),.own 9,.v (.slice aA 0 0),.v (.slice aA 0 0),.v (.slice aA 0 0),.v (.slice aA 0 0)])),(3,az (.ar yx E)),(4,az (.ar .str W)),(5,az (.ar .int V)),(6,az (.ar .int L)),(7,az (.ar (.list .int) T)),(8,az (.ar (.list .int) S)),(9,az (.row 70 CO ge))],10⟩) (λi ge=>ge=DQ (E.take i.toNat)/\∀j:ah,(j:af)<i->(E.getD j mK).2.2.2=0) [] [(0,az 6),(1,az 4102),(2,az 45062),(3,az 1),(4,az 0),(5,az 2),(6,az 3),(7,az 4),(8,az 5),(9,aA)] (⟨rfl,λj hj=>by omega⟩) λi ge _ mR h0 h1 hI=>?_;have⟨h2,h3⟩:=hI;refine jQ ?_;refine jR (p:=i<(aM E:af)) (λq2=>?_) λq2=>?_
 .have OZ:ge.length<=E.length:=by rw[h2];unfold DQ;rw[bH,bJ];omega
  refine jY (pr:=(j8 i E.length)) bx ?_;refine pY (p:=(((E.getD i.toNat fe).2).2).2=0) (λq3=>?_) λq3=>?_
  .refine jQ ?_;exact jW (((((0:af),[]),(([],[]),([],[]))):(af×aa (af×af))×((aa af)×aa af)×(aa (aa af))×aa (aa af)),((1:af):af),()) (by rw[ND q1 h0 q2 q3]<;>rfl)
  refine jY (pr:=(ge.length+([(((E.getD i.toNat fe).2).1,(((E.getD i.toNat fe).2).2).1)]:aa (af×af)).length<=2147483647)/\(jX .i64 (i+1))) ⟨ln,kC⟩ ?_;exact oa (mR (ge++([(((E.getD i.toNat fe).2).1,(((E.getD i.toNat fe).2).2).1)]:aa (af×af))) (rk [0,1,2,3,4,5,6,7,8,69642]) ⟨by rw[NC h0 (by omega),h2],λj hj=>if z:(j:af)<i then h3 j z else by rw[show j=i.toNat by omega];exact q3⟩)
 refine jY (pr:=(V.length<=1000000)/\(L.length<=1000000)/\(kK T)/\(kK S)) ⟨by omega,by omega,by assumption,by assumption⟩ ?_;exact jW (((((aM W:af),ge),((V,L),(T,S))):(af×aa (af×af))×((aa af)×aa af)×(aa (aa af))×aa (aa af)),((0:af):af),()) (by rw[NF q1 q2 h3,h2,xV q2]<;>rfl)
noncomputable def ahU:lM aR:=plain aaF
theorem ad3:kr aR 21 [(aC,CQ)] [(.pair D9 (.pair CP plT)),.int] (λx=>(N_ x.1.2.2.1).length<=1000000/\(J_ x.1.2.2.2.1.1).length<=1000000/\(J_ x.1.2.2.2.1.2).length<=1000000/\kK (K_ x.1.2.2.2.2.1)/\kK (K_ x.1.2.2.2.2.2)) (λx=>((kX (I_ x.1.1) (B_ x.1.2.1) (N_ x.1.2.2.1) (J_ x.1.2.2.2.1.1) (J_ x.1.2.2.2.1.2) (K_ x.1.2.2.2.2.1) (K_ x.1.2.2.2.2.2)).1,(kX (I_ x.1.1) (B_ x.1.2.1) (N_ x.1.2.2.1) (J_ x.1.2.2.2.1.1) (J_ x.1.2.2.2.1.2) (K_ x.1.2.2.2.2.1) (K_ x.1.2.2.2.2.2)).2,())):=by
 refine kJ f21 55 [] func21 λo x hd _ _ h=>?_;obtain⟨⟨(K:af),⟨(W:aa aj),⟨(E:aa mS),⟨⟨(V:aa af),(L:aa af)⟩,⟨(T:aa (aa af)),(S:aa (aa af))⟩⟩⟩⟩⟩,_⟩:=x;have vC:=LU h 0 W;have uB:=OW h 1 E;have rI:=pP h 2 V;have Az:=pP h 3 L;have Te:=vK h 4 T;have hl5:=vK h 5 S;change E.length<=1000000/\V.length<=1000000/\L.length<=1000000/\kK T/\kK S at hd;have⟨hE,hV,hL,hT,hS⟩:=hd;refine tY [] h ?_;refine pY (p:=K=0) (λq1=>?_) λq1=>?_
 .refine jQ ?_;exact jW (((((0:af),[]),(([],[]),([],[]))):(af×aa (af×af))×((aa af)×aa af)×(aa (aa af))×aa (aa af)),((16:af):af),()) (by rw[Gc q1]<;>rfl)
 refine jQ ?_;refine oJ (aa (af×af)) E (λi ge=>⟨[(1,ep 0),(2,ep 1),(4,ep 2),(5,en i)],[(0,az (.box 31 [.v (.int .i64 K),.own 3,.own 4,.own 5,.own 6,.own 7,.own 8])),(1,az (.box 57 [.v (.int .i64 0),.v (.slice aA 0 0),.v (.slice aA 0 0),.v (.slice aA 0 0),.v (.slice aA 0 0),.v (.slice aA 0 0)])),(2,az (.box 57 [.v (.int .i64 (aM W:af)),.own 9,.own 5,.own 6,.own 7,.own 8])),(3,az (.ro .str W)),(4,az (.ro yx E)),(5,az (.ro .int V)),(6,az (.ro .int L)),(7,az (.ro (.list .int) T)),(8,az (.ro (.list .int) S)),(9,az (.row 70 CO ge))],10⟩) (λi ge=>ge=DQ (E.take i.toNat)/\∀j:ah,(j:af)<i->(E.getD j mK).2.2.2=0) [] [(0,az 6),(1,az 4102),(2,az 49158),(3,az 0),(4,az 1),(5,az 2),(6,az 3),(7,az 4),(8,az 5),(9,aA)] (⟨rfl,λj hj=>by omega⟩) λi ge _ mR h0 h1 hI=>?_;have⟨h2,h3⟩:=hI;refine jQ ?_;refine jR (p:=i<(aM E:af)) (λq2=>?_) λq2=>?_
 .have OZ:ge.length<=E.length:=by rw[h2];unfold DQ;rw[bH,bJ];omega
  refine jY (pr:=(j8 i E.length)) bx ?_;refine pY (p:=(((E.getD i.toNat fe).2).2).2=0) (λq3=>?_) λq3=>?_
  .refine jQ ?_;exact jW (((((0:af),[]),(([],[]),([],[]))):(af×aa (af×af))×((aa af)×aa af)×(aa (aa af))×aa (aa af)),((1:af):af),()) (by rw[ND q1 h0 q2 q3]<;>rfl)
  refine jY (pr:=(j8 i E.length)/\(j8 i E.length)/\(ge.length+([(((E.getD i.toNat fe).2).1,(((E.getD i.toNat fe).2).2).1)]:aa (af×af)).length<=2147483647)/\(jX .i64 (i+1))) ⟨bx,bx,ln,kC⟩ ?_;exact oa (mR (ge++([(((E.getD i.toNat fe).2).1,(((E.getD i.toNat fe).2).2).1)]:aa (af×af))) (rk [0,1,2,3,4,5,6,7,8,118794]) ⟨by rw[NC h0 (by omega),h2],λj hj=>if z:(j:af)<i then h3 j z else by rw[show j=i.toNat by omega];exact q3⟩)
 refine jQ ?_;exact jW (((((aM W:af),ge),((V,L),(T,S))):(af×aa (af×af))×((aa af)×aa af)×(aa (aa af))×aa (aa af)),((0:af):af),()) (by rw[NF q1 q2 h3,h2,xV q2]<;>rfl)
noncomputable def alo:lM aR:=plain ad3
theorem ahV:kr aR 22 [(aD,CQ)] [(.pair D9 (.pair D9 (.list .int))),.int] (λx=>(N_ x.1.2.2.1).length<=1000000/\(J_ x.1.2.2.2.1.1).length<=1000000/\(J_ x.1.2.2.2.1.2).length<=1000000/\kK (K_ x.1.2.2.2.2.1)/\kK (K_ x.1.2.2.2.2.2)) (λx=>((kS (I_ x.1.1) (B_ x.1.2.1) (N_ x.1.2.2.1) (J_ x.1.2.2.2.1.1) (J_ x.1.2.2.2.1.2) (K_ x.1.2.2.2.2.1) (K_ x.1.2.2.2.2.2)).1,(kS (I_ x.1.1) (B_ x.1.2.1) (N_ x.1.2.2.1) (J_ x.1.2.2.2.1.1) (J_ x.1.2.2.2.1.2) (K_ x.1.2.2.2.2.1) (K_ x.1.2.2.2.2.2)).2,())):=by
 refine kJ f22 111 [] func22 λo x hd _ _ h=>?_;obtain⟨⟨(K:af),⟨(W:aa aj),⟨(E:aa mS),⟨⟨(V:aa af),(L:aa af)⟩,⟨(T:aa (aa af)),(S:aa (aa af))⟩⟩⟩⟩⟩,_⟩:=x;have vC:=LU h 0 W;have uB:=OW h 1 E;have rI:=pP h 2 V;have Az:=pP h 3 L;have Te:=vK h 4 T;have hl5:=vK h 5 S;change E.length<=1000000/\V.length<=1000000/\L.length<=1000000/\kK T/\kK S at hd;have⟨hE,hV,hL,hT,hS⟩:=hd;have hT1:=hT.1;have hS1:=hS.1;refine tY [] h ?_;refine pY (p:=K=1) (λq1=>?_) λq1=>?_
 .refine jQ ?_;exact jW (((((0:af),[]),(((0:af),[]),[])):(af×aa (af×af))×(af×aa (af×af))×aa af),((16:af):af),()) (by rw[Ge q1]<;>rfl)
 refine jY (pr:=(jX .i64 ((aM V:af)+(aM L:af)))/\(jX .i64 (((aM V:af)+(aM L:af))+(aM T:af)))/\(jX .i64 ((((aM V:af)+(aM L:af))+(aM T:af))+(aM S:af)))) ⟨kC,kC,kC⟩ ?_;refine jR (p:=(0:af)<(((aM V:af)+(aM L:af))+(aM T:af))+(aM S:af)) (λq2=>?_) λq2=>?_
 .refine jQ ?_;exact jW (((((0:af),[]),(((0:af),[]),[])):(af×aa (af×af))×(af×aa (af×af))×aa af),((1:af):af),()) (by rw[Gf q1 q2]<;>rfl)
 refine jQ ?_;refine aeV (aa (af×af)) (aa (af×af)) (aa af) E (λi pa pb ps=>⟨[(2,ep 0),(4,ep 1),(43,eo 2),(44,en (aM E:af)),(45,en i)],[(0,az (.box 63 [.v (.int .i64 0),.v (.slice aA 0 0),.v (.int .i64 0),.v (.slice aA 0 0),.v (.slice aA 0 0)])),(1,az (.box 63 [.v (.int .i64 (aM W:af)),.own 3,.v (.int .i64 (aM W:af)),.own 4,.own 5])),(2,az (.ar yx E)),(3,az (.row 70 CO pa)),(4,az (.row 70 CO pb)),(5,az (.row 3 .int ps))],6⟩) (λi pa pb ps=>pa=(B3 (E.take i.toNat)).1/\pb=(B3 (E.take i.toNat)).2.1/\ps=(B3 (E.take i.toNat)).2.2/\∀j:ah,(j:af)<i->YW (E.getD j mK).2.2.2) [] [] [] [(0,az 4102),(1,az 143366),(2,az 1),(3,aA),(4,aA),(5,aA)] (⟨rfl,rfl,rfl,λj hj=>by omega⟩) λi pa pb ps _ mR h0 h1 hI=>?_;have⟨h2,h3,h4,h5⟩:=hI;refine jQ ?_;refine jR (p:=i<(aM E:af)) (λq3=>?_) λq3=>?_
 .have OZ:=NG E i;rw[<-h2,<-h3,<-h4] at OZ;have⟨hoa,hob,hos⟩:=OZ;refine jY (pr:=(j8 i E.length)) bx ?_;refine jR (p:=(((E.getD i.toNat fe).2).2).2=0) (λq4=>?_) λq4=>?_
  .refine jY (pr:=(pa.length+([(((E.getD i.toNat fe).2).1,(((E.getD i.toNat fe).2).2).1)]:aa (af×af)).length<=2147483647)/\(ps.length+([(aM pb:af)]:aa af).length<=2147483647)/\(pb.length+([(((E.getD i.toNat fe).2).1,(((E.getD i.toNat fe).2).2).1)]:aa (af×af)).length<=2147483647)/\(jX .i64 (i+1))) ⟨ln,ln,ln,kC⟩ ?_;exact oa (mR (pa++([(((E.getD i.toNat fe).2).1,(((E.getD i.toNat fe).2).2).1)]:aa (af×af))) (pb++([(((E.getD i.toNat fe).2).1,(((E.getD i.toNat fe).2).2).1)]:aa (af×af))) (ps++([(aM pb:af)]:aa af)) (rk [0,1,2,86022,163846,131078]) ⟨by rw[nh h0 (by omega),zS q4,h2],by rw[nh h0 (by omega),zS q4,h3],by rw[nh h0 (by omega),zS q4,h4,h3],λj hj=>if z:(j:af)<i then h5 j z else by rw[show j=i.toNat by omega];exact⟨by rw[q4];decide,by rw[q4];decide⟩⟩)
  refine jQ ?_;refine jR (p:=(((E.getD i.toNat fe).2).2).2=1) (λq5=>?_) λq5=>?_
  .refine jY (pr:=(pa.length+([(((E.getD i.toNat fe).2).1,(((E.getD i.toNat fe).2).2).1)]:aa (af×af)).length<=2147483647)/\(ps.length+([(-1:af)]:aa af).length<=2147483647)/\(jX .i64 (i+1))) ⟨ln,ln,kC⟩ ?_;exact oa (mR (pa++([(((E.getD i.toNat fe).2).1,(((E.getD i.toNat fe).2).2).1)]:aa (af×af))) pb (ps++([(-1:af)]:aa af)) (rk [0,1,2,94214,4,122886]) ⟨by rw[nh h0 (by omega),zT q5,h2],by rw[nh h0 (by omega),zT q5,h3],by rw[nh h0 (by omega),zT q5,h4],λj hj=>if z:(j:af)<i then h5 j z else by rw[show j=i.toNat by omega];exact⟨by rw[q5];decide,by rw[q5];decide⟩⟩)
  refine jQ ?_;refine jR (p:=(((E.getD i.toNat fe).2).2).2=2) (λq6=>?_) λq6=>?_
  .refine jY (pr:=(pb.length+([(((E.getD i.toNat fe).2).1,(((E.getD i.toNat fe).2).2).1)]:aa (af×af)).length<=2147483647)/\(jX .i64 (i+1))) ⟨ln,kC⟩ ?_;exact oa (mR pa (pb++([(((E.getD i.toNat fe).2).1,(((E.getD i.toNat fe).2).2).1)]:aa (af×af))) ps (rk [0,1,2,3,102406,5]) ⟨by rw[nh h0 (by omega),zU q4 q5,h2],by rw[nh h0 (by omega),zU q4 q5,h3],by rw[nh h0 (by omega),zU q4 q5,h4],λj hj=>if z:(j:af)<i then h5 j z else by rw[show j=i.toNat by omega];exact⟨by rw[q6];decide,by rw[q6];decide⟩⟩)
  refine jQ ?_;exact jW (((((0:af),[]),(((0:af),[]),[])):(af×aa (af×af))×(af×aa (af×af))×aa af),((1:af):af),()) (by rw[NH q1 h0 q3 (λz=>by have z1:0<=(E.getD i.toNat fe).2.2.2/\(E.getD i.toNat fe).2.2.2<=2:=z;omega)]<;>rfl)
 refine jQ ?_;exact jW (((((aM W:af),pa),(((aM W:af),pb),ps)):(af×aa (af×af))×(af×aa (af×af))×aa af),((0:af):af),()) (by rw[NI q1 q2 q3 h5,h2,h3,h4,xV q3]<;>rfl)
noncomputable def ahW:lM aR:=plain ahV
theorem Cj {P:Program}{f:FuncId}{lS:aa (ak×Ty)}{rs:aa Ty}{rF aaG:pW lS->Prop}{fx fx':pW lS->pq rs}(ok:kr P f lS rs rF fx)(h:∀x,aaG x->rF x/\fx x=fx' x):kr P f lS rs aaG fx':=λo vs x hx hd=>by
 have:=ok o vs x hx (h x hd).1;rw[(h x hd).2] at this;exact this
theorem ad4:kr aR 20 [(aD,CQ)] [(.pair D9 (.pair CP plT)),.int]
  (λx=>(I_ x.1.1=0/\Gb (N_ x.1.2.2.1))/\(N_ x.1.2.2.1).length<=1000000/\(J_ x.1.2.2.2.1.1).length<=1000000/\(J_ x.1.2.2.2.1.2).length<=1000000/\kK (K_ x.1.2.2.2.2.1)/\kK (K_ x.1.2.2.2.2.2))
  (λx=>(((((B_ x.1.2.1).length:af),DQ (N_ x.1.2.2.1)),(((J_ x.1.2.2.2.1.1),(J_ x.1.2.2.2.1.2)),((K_ x.1.2.2.2.2.1),(K_ x.1.2.2.2.2.2)))),((0:af),()))):=
 Cj aaF λx hd=>⟨hd.2,by
  have e:kX (I_ x.1.1) (B_ x.1.2.1) (N_ x.1.2.2.1) (J_ x.1.2.2.2.1.1) (J_ x.1.2.2.2.1.2) (K_ x.1.2.2.2.2.1) (K_ x.1.2.2.2.2.2)=(((((B_ x.1.2.1).length:af),DQ (N_ x.1.2.2.1)),(((J_ x.1.2.2.2.1.1),(J_ x.1.2.2.2.1.2)),((K_ x.1.2.2.2.2.1),(K_ x.1.2.2.2.2.2)))),0):=by
   unfold kX;rw[aQ hd.1.1,aQ hd.1.2]
  rw[e];rfl⟩
def ad5:lM aR:=plain ad4
abbrev k1 (m:aa (af×Unit)):aa af:=m.map (·.1)
noncomputable abbrev vw (vv:aa aj) (ee:aa mS) (ha hb:aa (af×Unit)) (tu:aa (af×aa af)):aa (af×aa af):=(jm (aM vv:af) (DQ ee) (k1 ha) (k1 hb) (GM vv.length tu)).1
def zh (k:af)(hv:aa af)(ha:aa (af×Unit)):aa af:=if k=1 then hv else ha.map (·.1)
def HM (k:af)(tt:aa (aa af))(n:ah)(tu:aa (af×aa af)):aa (aa af):=if k=1 then tt else GM n tu
theorem Tv:∀(l:aa (af×aa af)) (m:aa (af×af)),(VX l m).length<=m.length+(l.flatMap (·.2)).length
 |[],m=>aW _
 |w::l,m=>by
  have a:=Tv l (w.2.foldl (λm d=>kZ m d w.1) m);have b:=GN (k:=w.1) w.2 m;have c:((w::l).flatMap (·.2)).length=w.2.length+(l.flatMap (·.2)).length:=by rw[dc,bA]
  have e:VX (w::l) m=VX l (w.2.foldl (λm d=>kZ m d w.1) m):=rfl;rw[e];omega
theorem Oq:∀ {l:aa (af×aa af)} {w:af×aa af},w∈l->w.2.length<=(l.flatMap (·.2)).length
 |[],_,h=>by cases h
 |v::l,w,h=>by
  rw[dc,bA];rcases bg.1 h with rfl|h
  .omega
  have:=Oq h;omega
theorem aaH {l:aa (af×aa af)}{i:ah}{d:af×aa af}(h:i<l.length):((l.take i).flatMap (·.2)).length+(l.getD i d).2.length<=(l.flatMap (·.2)).length:=by
 have e:l=l.take i++l.drop i:=(eW i l).symm;have e2:l.drop i=l.getD i d::l.drop (i+1):=by
  rw[eE h,bD,bN h];rfl
 have e3:(l.flatMap (·.2)).length=((l.take i).flatMap (·.2)).length+((l.getD i d).2.length+((l.drop (i+1)).flatMap (·.2)).length):=by
  rw[<-bA,<-dc,<-e2,<-bA,<-List.flatMap_append,<-e]
 omega
section
variable {vv:aa aj}{ee:aa mS}{ha hb:aa (af×Unit)}{tu:aa (af×aa af)}{xr:aa (aa af)}
end
def Tw (m:aa (af×af))(x:af):af:=(jr m x).getD x
def Tx (m:aa (af×af))(l:aa af)(j:af):aa af:=(l.take j.toNat).map (Tw m)++l.drop j.toNat
theorem aaI (m:aa (af×af))(l:aa af):l=Tx m l 0:=rfl
theorem Tz (m:aa (af×af))(l:aa af)(j:af):(Tx m l j).length=l.length:=by
 unfold Tx;rw[bA,bH,<-bA,eW]
theorem LA {m:aa (af×af)}{l:aa af}{j:af}(h0:0<=j)(h1:j<(aM l:af)):(Tx m l j).getD j.toNat 0=l.getD j.toNat 0:=by
 unfold Tx;have e:((l.take j.toNat).map (Tw m)).length=j.toNat:=by rw[bH,bJ];omega
 rw[bD,bD,dP (by omega),e,cI,dx,eH]
theorem Ot {m:aa (af×af)}{l:aa af}{j:af}(h0:0<=j)(h1:j<(aM l:af)):(Tx m l j).set j.toNat (Tw m (l.getD j.toNat 0))=Tx m l (j+1):=by
 unfold Tx;have hj:j.toNat<l.length:=by omega
 have e:((l.take j.toNat).map (Tw m)).length=j.toNat:=by rw[bH,bJ];omega
 have e1:(j+1).toNat=j.toNat+1:=by omega
 rw[apo _ _ (by omega),e,dx,eE hj,aqg,e1,dV hj,cA,cx,bD,bN hj];rfl
theorem aaJ {m:aa (af×af)}{l:aa af}{j:af}(h0:0<=j)(h1:j<(aM l:af))(h:(jr m (l.getD j.toNat 0)).isSome=aD):Tx m l j=Tx m l (j+1):=by
 rw[<-Ot h0 h1];have e:Tw m (l.getD j.toNat 0)=(Tx m l j).getD j.toNat 0:=by
  rw[LA h0 h1];unfold Tw;cases q:jr m (l.getD j.toNat 0) with
  |none=>rfl
  |some c=>rw[q] at h;cases h
 rw[e];exact(aaq rfl).symm
theorem aaK {m:aa (af×af)}{x:af}(h:(jr m x).isSome=aC):(jr m x).getD 0=Tw m x:=by
 unfold Tw;cases q:jr m x with
 |none=>rw[q] at h;cases h
 |some c=>rfl
theorem ad6 {m:aa (af×af)}{l:aa af}{j:af}(h:¬j<(aM l:af)):Tx m l j=l.map (Tw m):=by
 unfold Tx;rw[dI (by omega),an8 (by omega),bW]
def QO (m:aa (af×af))(l:aa af):aa af:=x5 (l.map (Tw m))
def VZ (m:aa (af×af))(xr:oB)(s:af):oB:=(xr.take s.toNat).map (QO m)++xr.drop s.toNat
theorem ad7 (m:aa (af×af))(xr:oB)(s:af):(VZ m xr s).length=xr.length:=by
 unfold VZ;rw[bA,bH,<-bA,eW]
theorem ahX {m:aa (af×af)}{xr:oB}{s:af}(h0:0<=s)(h1:s<(aM xr:af)):(VZ m xr s).getD s.toNat []=xr.getD s.toNat []:=by
 unfold VZ;have e:((xr.take s.toNat).map (QO m)).length=s.toNat:=by rw[bH,bJ];omega
 rw[bD,bD,dP (by omega),e,cI,dx,eH]
theorem aaL {m:aa (af×af)}{xr:oB}{s:af}(h0:0<=s)(h1:s<(aM xr:af)):(VZ m xr s).set s.toNat (QO m (xr.getD s.toNat []))=VZ m xr (s+1):=by
 unfold VZ;have hj:s.toNat<xr.length:=by omega
 have e:((xr.take s.toNat).map (QO m)).length=s.toNat:=by rw[bH,bJ];omega
 have e1:(s+1).toNat=s.toNat+1:=by omega
 rw[apo _ _ (by omega),e,dx,eE hj,aqg,e1,dV hj,cA,cx,bD,bN hj];rfl
theorem ad8 {m:aa (af×af)}{xr:oB}{s:af}(h:¬s<(aM xr:af)):VZ m xr s=xr.map (QO m):=by
 unfold VZ;rw[dI (by omega),an8 (by omega),bW]
noncomputable abbrev V0 (vv:aa aj) (ee:aa mS) (ha hb:aa (af×Unit)) (tu:aa (af×aa af)):aa (af×af):=VX (vw vv ee ha hb tu) []
structure vr (vv:aa aj)(ee:aa mS)(ha hb:aa (af×Unit))(tu:aa (af×aa af))(xr:oB):Prop where
 W:vv.length<=10000
 E:ee.length<=1000000
 V:ha.length<=1000000
 L:hb.length<=1000000
 rV:v7 ha
 rL:v7 hb
 cs:Gb ee
 tu1:∀k l,jr tu k=az l->(0<=k/\k<(aM vv:af))/\l.length<=1000000
 sT:kK (GM vv.length tu)
 iT:ng (GM vv.length tu)
 S:kK xr
 iS:ng xr
 wN:(vw vv ee ha hb tu).length<=1000000
 wz:((vw vv ee ha hb tu).flatMap (·.2)).length<=1000000
 wI:∀w∈vw vv ee ha hb tu,∀d∈w.2,-9223372036854775808<=d/\d<=9223372036854775807
 gs:qd (aM xr:af) (xr.map (QO (V0 vv ee ha hb tu)))
noncomputable def HN (k:af) (ss:oB) (vv:aa aj) (ee:aa mS) (ha hb:aa (af×Unit)) (tu:aa (af×aa af)) (xr:oB):oB:=if k=1 then ss else GR (xr.map (QO (V0 vv ee ha hb tu)))
section
variable {vv:aa aj}{ee:aa mS}{ha hb:aa (af×Unit)}{tu:aa (af×aa af)}{xr:oB}
theorem vr.Vl (h:vr vv ee ha hb tu xr):(ha.map (·.1)).length<=1000000:=by rw[bH];exact h.V
theorem vr.Ll (h:vr vv ee ha hb tu xr):(hb.map (·.1)).length<=1000000:=by rw[bH];exact h.L
theorem vr.ln (h:vr vv ee ha hb tu xr){i:af}(h0:0<=i)(h1:i<(aM xr:af)):(xr.getD i.toNat []).length<=10000:=h.S.2 _ (jz (by omega))
theorem vr.sb (h:vr vv ee ha hb tu xr){i j:af}(h0:0<=i)(h1:i<(aM xr:af))(h2:0<=j)(h3:j<((xr.getD i.toNat []).length:af)): -9223372036854775808<=(xr.getD i.toNat []).getD j.toNat 0/\(xr.getD i.toNat []).getD j.toNat 0<=9223372036854775807:=
 h.iS _ (jz (by omega)) _ (jz (by omega))
theorem vr.wd (h:vr vv ee ha hb tu xr){i:af}(h0:0<=i)(h1:i<((vw vv ee ha hb tu).length:af)):((vw vv ee ha hb tu).getD i.toNat (0,[])).2.length<=1000000:=bC (Oq (jz (by omega))) h.wz
theorem vr.wb (h:vr vv ee ha hb tu xr){i j:af}(h0:0<=i)(h1:i<((vw vv ee ha hb tu).length:af))(h2:0<=j)(h3:j<(((vw vv ee ha hb tu).getD i.toNat (0,[])).2.length:af)): -9223372036854775808<=((vw vv ee ha hb tu).getD i.toNat (0,[])).2.getD j.toNat 0/\((vw vv ee ha hb tu).getD i.toNat (0,[])).2.getD j.toNat 0<=9223372036854775807:=
 h.wI _ (jz (by omega)) _ (jz (by omega))
theorem vr.wl (h:vr vv ee ha hb tu xr){i j k:af}{m l:aa (af×af)}(h0:0<=i)(h1:i<((vw vv ee ha hb tu).length:af))(hm:m=VX ((vw vv ee ha hb tu).take i.toNat) [])(hl:l=kyD k m ((vw vv ee ha hb tu).getD i.toNat (0,[])).2 j):l.length<=1000000:=by
 have a:=Tv ((vw vv ee ha hb tu).take i.toNat) [];have b:=adQ (k:=k) (m:=m) (l:=((vw vv ee ha hb tu).getD i.toNat (0,[])).2) (j:=j);rw[<-hl] at b;rw[<-hm] at a;have c:=aaH (l:=vw vv ee ha hb tu) (i:=i.toNat) (d:=(0,[])) (by omega);have e:=h.wz;have f:([]:aa (af×af)).length=0:=rfl;omega
end
end Go.Proofs.YtnfdimfepbbbpaaGreatDoor
namespace Go.Proofs.YtnfdimfepbbbpaaGreatDoor
open Go.RowKit Go.Sort Go.Lib
theorem Tryz.ahY (m:ah):AnyZI.SortsIn aR Tryz.DS bK m:=
 ⟨λoN off cap ss W hH W4 oC=>callsIn_wide.2 (Tryz.slices_Sort_int oN off cap ss W hH W4 oC),λp cap W=>callsIn_wide.2 (Tryz.slices_Sort_int_none p cap W)⟩
def anc (b:ah)(kH:aa (ah×ah))(ys:aa Sy):Tr Out:=match kH,ys with
 |[],[.one (.sR f [(q,0)])]=>jK (bp f 88) (.res q λx=>match x with
  | .box _ [.mp j]=>.res j λy=>match y with
   | .map .int t m=>.ret ⟨[(show aa (af×El t) from m)=[]],[],.one (.v (.slice aA 0 0)),[]⟩
   |_=>.fail
  |_=>.fail)
 |_,_=>.fail
theorem aaM {S:jv}{w:aN}(l:aa aj):kR S w (l.map ao1) l:=by
 refine⟨by show _=l.length*1;simp,λi hi=>?_⟩;show((l.map ao1).drop (i*1)).take 1=[.string l[i]];rw[dy,eE (by simpa using hi),aoC,dJ];simp
def akT (b:ah)(kH:aa (ah×ah))(ys:aa Sy):Tr Out:=match kH,ys with
 |[],[y]=>rZ (.list .str) y λl=>.ret ⟨[(show aa aj from l).length<=1000000],[],.one (.own b),[(b,az (.row 9 .str (show aa aj from l)))]⟩
 |_,_=>.fail
theorem ahZ:yM aR 39 akT:=by
 intro o n A S F s r a w b B kH ys out H hF Pn yc h kO qG hB;unfold akT at h;split at h
 .rename_i y;obtain⟨l,hl,h⟩:=qp (T:=(· <w.heap.size)) (w:=w) (A:=A) (λc _ j _=>CB H j) h;have e:=jH h;subst e;have hlen:(show aa aj from l).length<=1000000:=kO _ (aU.2 rfl);have hb:¬F b:=hF b (aW _) (hB _ (aU.2 rfl));have hl:Rd (· <w.heap.size) w (y.den A) (show aa aj from l):=hl;generalize hzs:(show aa aj from l)=zs at*
  obtain⟨p,c,hv,h1,h2,h3⟩:=lz hl;have fin:∀v' w',w'.ownsRow w.heap.size 9 1 v' zs.length (zs.map ao1)->Below w.heap.size w w'->nI o n F s r a ⟨[zs.length<=1000000],[],.one (.own b),[(b,az (.row 9 .str zs))]⟩ v' w':=λv' w' pX M5=>by
   obtain⟨A',k1,k2⟩:=kW.Ip H hb (e:=9) (ty:=.str) (m:=zs) (v:=.slice aA 0 0) (v':=v') (xs:=zs.map ao1) (old:=aA) rfl ⟨M5.os,M5.tape,M5.output,M5.size,λk hk _=>M5.block k hk⟩ (oM.of pX) (λ_=>aaM zs) (λk hk=>.inr (pX.lt k hk));exact⟨A',S,k1,k2,.inr ⟨_,aU.2 rfl⟩,tv⟩
  show Calls aR 39 #[y.den A] w _;rw[hv];rcases h3 with rfl|⟨g,off,cur,t,fz,rfl,hg,hw,hc⟩
  .cases p with
   |none=>exact(Tryz.slices_Clone_string_nil 0 c w).mono λe w' ⟨he,hw⟩=>⟨_,he,fin _ _ (by subst hw;exact World.ownsRow_nil _ _ _ _) (by subst hw;exact Below.refl _ _)⟩
   |some ad=>exact(Tryz.slices_Clone_string_zero ad c w).mono λe w' ⟨v',he,pX,_,M5⟩=>⟨v',he,fin v' w' pX M5⟩
  refine(Tryz.slices_Clone_string g off zs.length c zs w (aW _) (by omega) λj hj=>?_).mono λe w' ⟨v',he,pX,_,M5⟩=>⟨v',he,fin v' w' (by rw[cg] at pX;exact pX) M5⟩;obtain⟨cs,hr,hq⟩:=hc j hj;have hr:cs=[.string zs[j]]:=hr;have:=hq 0 (show 0<1 by decide);rw[hr] at this;rw[aK w g _ cur t fz hw];have e:off+j*Data.size aj+0=off+j:=by show off+j*1+0=_;omega
  rw[e] at this;rw[this];simp[bD,bN hj]
 cases h
def afH:lM aR:=⟨_,_,ahZ⟩
theorem aaN {l ss:aa af}(hl:IV l)(hp:ss.Perm l):ss.mergeSort (λx y=>aE (x<=y))=l:=by
 have p:=(List.mergeSort_perm ss (λx y=>aE (x<=y))).trans hp;refine RL ?_ hl λx=>p.mem_iff;have h1:(ss.mergeSort (λx y=>aE (x<=y))).Pairwise (λa b=>aE (a<=b)=aC):=List.pairwise_mergeSort (le:=λx y:af=>aE (x<=y)) (λa b c h1 h2=>cT (Int.le_trans (bq h1) (bq h2))) (λa b=>by simp only[e7,decide_eq_true_eq];omega) ss;have h2:(ss.mergeSort (λx y=>aE (x<=y))).Nodup:=p.nodup_iff.2 (mw hl);exact(h1.and h2).imp λ⟨a,b⟩=>by have:=bq a;omega
theorem Vs {S:jv}{w:aN}(l:aa af):kR S w (l.map encZ) l:=by
 refine⟨by show _=l.length*1;simp,λi hi=>?_⟩;show((l.map encZ).drop (i*1)).take 1=[.int .i64 l[i]];rw[dy,eE (by simpa using hi),aoC,dJ];simp[encZ]
def afI (b:ah)(kH:aa (ah×ah))(ys:aa Sy):Tr Out:=match kH,ys with
 |[],[.one (.sR f [(q,0)])]=>jK (bp f 88) (.res q λx=>match x with
  | .box _ [.mp j]=>.res j λy=>match y with
   | .map .int t m=>.ret ⟨[(show aa (af×El t) from m).length<=1000000/\v7 (show aa (af×El t) from m)],[],.one (.own b),[(b,az (.row 3 .int ((show aa (af×El t) from m).map (·.1))))]⟩
   |_=>.fail
  |_=>.fail)
 |_,_=>.fail
theorem Ou:∀zs:aa (ko .int×aO),intKeys (rX (k:=.int) zs)=zs.map (λq=>(q.1:af))
 |[]=>rfl
 |z::zs=>bh (λl:aa af=>(z.1:af)::l) (Ou zs)
theorem ah0 (zs:aa (ko .int×aO)):dO (rX (k:=.int) zs)=zs.length:=by
 show(zs.map _).length=_
 grind
theorem ad9:yM aR 66 afI:=by
 intro o n A S F s r a w b B kH ys out H hF Pn yc h kO qG hB;unfold afI at h;split at h
 .rename_i f q;obtain⟨hg,h1⟩:=jt h;clear h;have g1:=j9 hg;subst g1;obtain⟨x,hx,h⟩:=jI h1;split at h
  .rename_i bt j;obtain⟨y,hy,h⟩:=jI h;split at h
   .rename_i t m;have e:=jH h;subst e;obtain⟨hlen,amT⟩:(show aa (af×El t) from m).length<=1000000/\v7 (show aa (af×El t) from m):=kO _ (aU.2 rfl);have hb:¬F b:=hF b (aW _) (hB _ (aU.2 rfl));have Bo:w.heap[A.b q]?=az (.cells #[.map (A.m j)] bt (0,0)):=H.jM.ok q _ (show jL A r q=az _ by simp[jL,hx];rfl);obtain⟨mb,e1,zs,lU,e2,_⟩:∃mb,A.m j=az mb/\rO S w mb m:=H.jM.ok j _ (show jL A r j=az _ by simp[jL,hy];rfl);rw[e1] at Bo;have akU:=lU.to (P:=aR) (kt:=3) Tryz.underlying3;have uk:w.cell? ⟨A.b q,0,aA⟩=az (.map (az mb)):=by rw[aK w (A.b q) 0 _ _ _ Bo];rfl
    have VM:A.b q<w.heap.size:=(Array.getElem?_eq_some_iff.1 Bo).1;have e2:(show aa (ko .int×El t) from m)=zs.map (λq=>(q.1,q.2.2)):=e2;have akV:(zs.map λq=>(show af from q.1))=(show aa (af×El t) from m).map (·.1):=
     ((bh (List.map λp:ko .int×El t=>(show af from p.1)) e2).trans cz).symm
    have hint:intKeys (rX (k:=.int) (zs.map λq=>(q.1,q.2.1)))=(show aa (af×El t) from m).map (·.1):=
     ((Ou _).trans cz).trans akV
    have oC:dO (rX (k:=.int) (zs.map λq=>(q.1,q.2.1)))<=1000000:=by
     rw[ah0,bH];have:=bh e8 akV;rw[bH,bH] at this;rw[this];exact hlen
    have D4:SeqGives bK 2 aR 88 #[.pointer (az ⟨A.b q,0,aA⟩)] encZ (λss=>ss.Perm (intKeys (rX (k:=.int) (zs.map λq=>(q.1,q.2.1))))) (dO (rX (k:=.int) (zs.map λq=>(q.1,q.2.1)))) w:=
     AnyZI.keys_gives (ρ:=Tryz.Je) {Tryz.ajK with} bK 2 tv rfl (by omega) (A.b q) mb _ _ w VM uk akU
    have cS:=AnyZI.sorted_in Tryz.acJ bK 5 tv tv tv tv rfl (by omega) (Tryz.ahY _) (enters_of func69 (by kernel_rfl) rfl) 88 #[.pointer (az ⟨A.b q,0,aA⟩)] tv (enters_of func88 (by kernel_rfl) rfl) _ (dO (rX (k:=.int) (zs.map λq=>(q.1,q.2.1)))) (bC oC (by decide)) (bC (cm 8 oC) (by decide)) w D4;have cS':=(callsIn_wide (n:=5)).1 cS;refine cS'.mono λe w' ⟨v,ss,he,aaO,pX,yp,M5⟩=>?_;rw[hint] at aaO;rw[aaN amT aaO] at pX;have QL:ss.length=((show aa (af×El t) from m).map (·.1)).length:=aaO.length_eq;rw[QL] at pX;obtain⟨A',k1,k2⟩:=kW.Ip H hb (e:=3) (ty:=.int) (m:=(show aa (af×El t) from m).map (·.1)) (v:=.slice aA 0 0) (v':=v) (xs:=((show aa (af×El t) from m).map (·.1)).map encZ) (old:=aA) rfl ⟨M5.os,M5.tape,M5.output,M5.size,λk hk _=>M5.block k hk⟩ (oM.of pX) (λ_=>Vs _) (λk hk=>.inr (pX.lt k hk));exact⟨v,he,A',S,k1,k2,.inr ⟨_,aU.2 rfl⟩,tv⟩
   cases h
  cases h
 cases h
def ah1:lM aR:=⟨_,_,ad9⟩
theorem aaP:kr aR 82 [(aD,(.list .int)),(aD,.int)] [(.list .int)] (λx=>0<=(I_ x.2.1)/\(I_ x.2.1)<=((J_ x.1).length:af)/\(J_ x.1).length<=1000000) (λx=>(ur (J_ x.1) (I_ x.2.1),())):=by
 refine kJ f82 20 [] func82 λo x hd _ _ h=>?_;obtain⟨(l:aa af),(i:af),_⟩:=x;have vC:=pP h 0 l;change 0<=i/\i<=(aM l:af)/\l.length<=1000000 at hd;have⟨i0,i1,hl⟩:=hd;refine go (pr:=(0<=(0:af)/\(0:af)<=(aM l:af)/\(aM l:af)<=2147483647)/\(0<=i/\i<=(aM l:af))/\((dA (0:af).toNat 0).length+(l.drop i.toNat).length<=2147483647)/\(0<=i/\i<=i/\i<=(aM l:af))/\(((dA (0:af).toNat 0)++(l.drop i.toNat)).length+(l.take i.toNat).length<=2147483647)) [] h ⟨⟨by omega,by omega,by omega⟩,ct,ln,⟨by omega,by omega,by omega⟩,ln⟩ ?_;exact jW (((((dA (0:af).toNat 0)++(l.drop i.toNat))++(l.take i.toNat)):aa af),()) rfl
def aaQ:lM aR:=plain aaP
theorem aea:kr aR 54 [(aD,(.list .int))] [(.list .int)] (λx=>(J_ x.1).length<=1000000) (λx=>(ju (J_ x.1),())):=by
 refine kJ f54 24 [aaQ] func54 λo x hd _ _ h=>?_;obtain⟨(l:aa af),_⟩:=x;have vC:=pP h 0 l;change l.length<=1000000 at hd;have hb:=wR l l.length;refine tY [] h ?_;refine oJ af l (λi b=>⟨[(0,eo 0),(3,en b),(6,eo 0),(7,en (aM l:af)),(8,en i)],[(0,az (.ar .int l))],1⟩) (λi b=>b=o8 l i.toNat) 0 (ir 1) rfl λi b _ mR h0 h1 h2=>?_;refine jQ ?_;refine jR (p:=i<(aM l:af)) (λq1=>?_) λq1=>?_
 .obtain⟨b0,b1⟩:=wR l i.toNat;rw[<-h2] at b0 b1;refine jY (pr:=(j8 i l.length)/\(j8 b l.length)) ⟨bx,bx⟩ ?_;refine jR (p:=(l.getD i.toNat 0)<(l.getD b.toNat 0)) (λq2=>?_) λq2=>?_
  .refine jY (pr:=(jX .i64 (i+1))) kC ?_;exact oa (mR i (ir 1) (by rw[DK l h0,<-h2,aQ q2]))
  refine jY (pr:=(jX .i64 (i+1))) kC ?_;exact oa (mR b (ir 1) (by rw[DK l h0,<-h2,aP q2]))
 obtain⟨b0,b1⟩:=wR l i.toNat;rw[<-h2] at b0 b1;have he:i.toNat=l.length:=by omega
 rw[he] at h2;refine jY (pr:=(0<=b/\b<=(aM l:af)/\l.length<=1000000)) (⟨by omega,by omega,by omega⟩) ?_;exact jW ((ur l b:aa af),()) (by rw[h2];rfl)
def LB:lM aR:=plain aea
theorem ah2:kr aR 118 [(aD,(.list (.list .int))),(aC,(.map .int .int)),(aC,(.list .int))] [(.ptr (.pair (.list (.list .int)) (.pair (.map .int .int) (.pair (.map .int .int) (.list .int)))))] (λx=>ng (K_ x.1)/\kK (K_ x.1)) (λx=>(az ((K_ x.1).map ju,(show jw .int af from x.2.1),tR (K_ x.1) (K_ x.1).length,(J_ x.2.2.1)),())):=by
 refine kJ f118 54 [LB] func118 λo x hd _ _ h=>?_;obtain⟨(rA:aa (aa af)),(lv:jw .int af),(ds:aa af),_⟩:=x;have vC:=vK h 0 rA;have rI:=pP h 2 ds;change ng rA/\kK rA at hd;have⟨yd,oC⟩:=hd;have adJ:=oC.1;refine tY [] h ?_;refine X4 (aa (aa af)) (aa (af×af)) rA (λi ts pl=>⟨[(7,ep 0),(20,eo 1),(21,en (aM rA:af)),(22,en i)],[(0,az (.box 196 [.own 2,.mp 3,.mp 4,.own 5])),(1,az (.ar (.list .int) rA)),(2,az (.row 24 (.list .int) ts)),(3,az (.yq .int .int lv)),(4,az (.map .int .int pl)),(5,az (.ro .int ds))],6⟩) (λi ts pl=>ts=(rA.take i.toNat).map ju/\pl=tR rA i.toNat) [] [] [(0,az 28675),(1,az 0),(2,aA),(3,az 1),(4,az 16387),(5,az 2)] (⟨rfl,rfl⟩) λi ts pl _ mR h0 h1 hI=>?_;have⟨h2,h3⟩:=hI;refine jQ ?_;refine jR (p:=i<(aM rA:af)) (λq1=>?_) λq1=>?_
 .have hm:(rA.getD i.toNat [])∈rA:=jz (by omega);have hs2:=oC.2 _ hm;have FH:=Nc oC i.toNat;have Ri:=mG (rA.getD i.toNat []);have hts:ts.length=i.toNat:=by rw[h2,bH,bJ];omega
  have hpc:=FQ (tR rA i.toNat) (ju (rA.getD i.toNat []));refine jY (pr:=(j8 i rA.length)/\((rA.getD i.toNat []).length<=1000000)) ⟨bx,by omega⟩ ?_;refine oJ (aa (af×af)) (ju (rA.getD i.toNat [])) (λj pm=>⟨[(7,ep 0),(10,eo 1),(20,eo 2),(21,en (aM rA:af)),(22,en i),(28,eo 1),(29,en ((ju (rA.getD i.toNat [])).length:af)),(30,en j)],[(0,az (.box 196 [.own 3,.mp 4,.mp 5,.own 6])),(1,az (.ro .int (ju (rA.getD i.toNat [])))),(2,az (.ar (.list .int) rA)),(3,az (.row 24 (.list .int) ts)),(4,az (.yq .int .int lv)),(5,az (.map .int .int pm)),(6,az (.ro .int ds))],7⟩) (λj pm=>pm=C0 (tR rA i.toNat) (ju (rA.getD i.toNat [])) j.toNat) pl (rk [0,20486,1,2,3,4,5]) h3 λj pm _ zf j0 j1 j2=>?_;refine jQ ?_;refine jR (p:=j<((ju (rA.getD i.toNat [])).length:af)) (λq2=>?_) λq2=>?_
  .have hk:=yd _ hm _ (vf (jz (l:=ju (rA.getD i.toNat [])) (i:=j.toNat) (d:=0) (by omega)));have hpj:=hpc j.toNat;rw[<-j2] at hpj;refine jY (pr:=(j8 j (ju (rA.getD i.toNat [])).length)/\(nv .int ((ju (rA.getD i.toNat [])).getD j.toNat 0))/\(pm.length<=2147483647)/\(jX .i64 (j+1))) ⟨bx,wk,ln,kC⟩ ?_;exact oa (zf (kZ pm ((ju (rA.getD i.toNat [])).getD j.toNat 0) j) (ir 7) (by rw[UF j0,<-j2]))
  have hj:j.toNat=(ju (rA.getD i.toNat [])).length:=by omega
  have hpm:=j2;rw[hj] at hpm;refine jY (pr:=(ts.length+([ju (rA.getD i.toNat [])]:aa (aa af)).length<=2147483647)/\(jX .i64 (i+1))) ⟨ln,kC⟩ ?_;exact oa (mR (ts++([ju (rA.getD i.toNat [])]:aa (aa af))) pm (rk [0,2,32775,4,5,6]) ⟨by rw[UH [] h0 q1,<-h2],by rw[UG h0];exact hpm⟩)
 have he:i.toNat=rA.length:=by omega
 rw[he] at h2 h3;rw[cg] at h2;refine jQ ?_;exact jW (((az (ts,(lv,(pl,ds)))):ai ((aa (aa af))×(jw .int af)×(jw .int af)×aa af)),()) (by rw[h2,h3];rfl)
def ah3:lM aR:=plain ah2
theorem ah4:kr aR 89 [(aD,D9),(aD,CP),(aD,(.list (.list .int)))] [(.ptr (.pair (.list (.list .int)) (.pair (.map .int .int) (.pair (.map .int .int) (.list .int))))),.int] (λx=>tU (I_ x.1.1)/\ng (K_ x.2.2.1)/\kK (K_ x.2.2.1)) (λx=>((nR (I_ x.1.1) (E_ x.1.2) (J_ x.2.1.1) (J_ x.2.1.2) (K_ x.2.2.1)).1,(nR (I_ x.1.1) (E_ x.1.2) (J_ x.2.1.1) (J_ x.2.1.2) (K_ x.2.2.1)).2,())):=by
 refine kJ f89 135 [KQ,ah3] func89 λo x hd _ _ h=>?_;obtain⟨⟨(n:af),(E:aa (af×af))⟩,⟨(V:aa af),(L:aa af)⟩,(T:aa (aa af)),_⟩:=x;have vC:=LS h 0 E;have uB:=pP h 1 V;have rI:=pP h 2 L;have Az:=vK h 3 T;change tU n/\ng T/\kK T at hd;have⟨hn,yd,oC⟩:=hd;have adJ:=oC.1;refine go (pr:=(tU n)) [] h hn ?_;refine pY (p:=j6 n E V L=0) (λq1=>?_) λq1=>?_
 .refine jQ ?_;exact jW ((aA:ai ((aa (aa af))×(jw .int af)×(jw .int af)×aa af)),(j6 n E V L:af),()) (by simp only[nR,aQ q1];rfl)
 have wS:=q1;obtain⟨hr,_,hL,_⟩:=kA wS;obtain⟨r1,r2,r3,_⟩:=l6 hr;have hLl:=nk hL (by omega);refine jQ ?_;refine pY (p:=(aM T:af)=n) (λq2=>?_) λq2=>?_
 .refine jQ ?_;exact jW ((aA:ai ((aa (aa af))×(jw .int af)×(jw .int af)×aa af)),((5:af):af),()) (by rw[Yx wS q2];rfl)
 have hT:=q2;refine jY (pr:=(jX .i64 (2*(aM L:af)))/\(jX .i64 (2*(aM L:af)))/\(0<=(0:af)/\(0:af)<=2*(aM L:af)/\2*(aM L:af)<=2147483647)) ⟨kC,kC,⟨by omega,by omega,by omega⟩⟩ ?_;refine X4 (aa (af×af)) (aa af) L (λi lv ds=>⟨[(2,eo 0),(3,ep 1),(9,em 2),(10,eo 3),(44,eo 4),(45,en (aM L:af)),(46,en i)],[(0,az (.ar (.list .int) T)),(1,az (.box 55 [.v (.int .i64 n),.own 5])),(2,az (.map .int .int lv)),(3,az (.row 3 .int ds)),(4,az (.ar .int L)),(5,az (.ar CO E))],6⟩) (λi lv ds=>lv=Cq E L i.toNat/\ds=oO L i.toNat) [] [] (rk [3,4,77828,102404,2,0]) (⟨rfl,rfl⟩) λi lv ds _ mR i0 i1 hI=>?_;have⟨i2,i3⟩:=hI;refine jQ ?_;refine jR (p:=i<(aM L:af)) (λq3=>?_) λq3=>?_
 .obtain⟨k1,k2,_⟩:=hL i.toNat (by omega);have Ug:=RO E L i.toNat;rw[<-i2] at Ug;have Ig:=BQ L i.toNat;rw[<-i3] at Ig;have hs1:=FT lv (2*(L.getD i.toNat 0)) (E.getD (L.getD i.toNat 0).toNat (0,0)).1;have hs4:=qF (Ea lv (2*(L.getD i.toNat 0)) (E.getD (L.getD i.toNat 0).toNat (0,0)).1) (2*(L.getD i.toNat 0)+1) ((jr (Ea lv (2*(L.getD i.toNat 0)) (E.getD (L.getD i.toNat 0).toNat (0,0)).1) (2*(L.getD i.toNat 0)+1)).getD 0);unfold Ea at hs1 hs4;have hs2:=qF lv (2*(L.getD i.toNat 0)) ((jr lv (2*(L.getD i.toNat 0))).getD 0);refine jY (pr:=(j8 i L.length)/\(jX .i64 (2*(L.getD i.toNat 0)))/\(jX .i64 (2*(L.getD i.toNat 0)))/\(jX .i64 ((2*(L.getD i.toNat 0))+1))/\(j8 (L.getD i.toNat 0) E.length)/\(j8 (L.getD i.toNat 0) E.length)/\(nv .int (2*(L.getD i.toNat 0)))/\(lv.length<=2147483647)/\(mD .int (2*(L.getD i.toNat 0))=mD .int (2*(L.getD i.toNat 0)))/\(nv .int (2*(L.getD i.toNat 0)))/\((kZ lv (2*(L.getD i.toNat 0)) ((jr lv (2*(L.getD i.toNat 0))).getD 0)).length<=2147483647)/\(nv .int ((2*(L.getD i.toNat 0))+1))/\((kZ (kZ lv (2*(L.getD i.toNat 0)) ((jr lv (2*(L.getD i.toNat 0))).getD 0)) (2*(L.getD i.toNat 0)) ((E.getD (L.getD i.toNat 0).toNat (0,0)).1)).length<=2147483647)/\(mD .int ((2*(L.getD i.toNat 0))+1)=mD .int ((2*(L.getD i.toNat 0))+1))/\(nv .int ((2*(L.getD i.toNat 0))+1))/\((kZ (kZ (kZ lv (2*(L.getD i.toNat 0)) ((jr lv (2*(L.getD i.toNat 0))).getD 0)) (2*(L.getD i.toNat 0)) ((E.getD (L.getD i.toNat 0).toNat (0,0)).1)) ((2*(L.getD i.toNat 0))+1) ((jr (kZ (kZ lv (2*(L.getD i.toNat 0)) ((jr lv (2*(L.getD i.toNat 0))).getD 0)) (2*(L.getD i.toNat 0)) ((E.getD (L.getD i.toNat 0).toNat (0,0)).1)) ((2*(L.getD i.toNat 0))+1)).getD 0)).length<=2147483647)/\(jX .i64 (2*(L.getD i.toNat 0)))/\(jX .i64 (2*(L.getD i.toNat 0)))/\(jX .i64 ((2*(L.getD i.toNat 0))+1))/\(ds.length+([2*(L.getD i.toNat 0),(2*(L.getD i.toNat 0))+1]:aa af).length<=2147483647)/\(jX .i64 (i+1))) ⟨bx,kC,kC,kC,bx,bx,wk,ln,rfl,wk,ln,wk,ln,rfl,wk,ln,kC,kC,kC,ln,kC⟩ ?_;exact oa (mR (kZ (kZ (kZ (kZ lv (2*(L.getD i.toNat 0)) ((jr lv (2*(L.getD i.toNat 0))).getD 0)) (2*(L.getD i.toNat 0)) ((E.getD (L.getD i.toNat 0).toNat (0,0)).1)) ((2*(L.getD i.toNat 0))+1) ((jr (kZ (kZ lv (2*(L.getD i.toNat 0)) ((jr lv (2*(L.getD i.toNat 0))).getD 0)) (2*(L.getD i.toNat 0)) ((E.getD (L.getD i.toNat 0).toNat (0,0)).1)) ((2*(L.getD i.toNat 0))+1)).getD 0)) ((2*(L.getD i.toNat 0))+1) ((E.getD (L.getD i.toNat 0).toNat (0,0)).2)) (ds++([2*(L.getD i.toNat 0),(2*(L.getD i.toNat 0))+1]:aa af)) (rk [0,1,2,147462,4,5]) ⟨by rw[Yu i0,<-i2];rfl,by rw[Yv i0,<-i3]⟩)
 have he:i.toNat=L.length:=by omega
 rw[he] at i2 i3;have hlv:=i2;have hds:=i3;refine jQ ?_;refine oJ (aa (af×af)) T (λv P=>⟨[(2,eo 0),(9,em 1),(10,eo 2),(13,em 3),(85,eo 0),(86,en (aM T:af)),(87,en v)],[(0,az (.ar (.list .int) T)),(1,az (.map .int .int lv)),(2,az (.row 3 .int ds)),(3,az (.map .int .int P))],4⟩) (λv P=>Ky lv T v.toNat=az P) [] (rk [0,2,3,12294]) rfl λv P _ zf v0 v1 v2=>?_;refine jQ ?_;refine jR (p:=v<(aM T:af)) (λq4=>?_) λq4=>?_
 .have hm:(T.getD v.toNat [])∈T:=jz (by omega);have hs3:=oC.2 _ hm;have hPl:=KA oC v2;refine jY (pr:=(j8 v T.length)) bx ?_;refine oJ (aa (af×af)) (T.getD v.toNat []) (λj Q=>⟨[(2,eo 0),(9,em 1),(10,eo 2),(13,em 3),(14,en v),(85,eo 0),(86,en (aM T:af)),(87,en v),(92,eo 4),(93,en ((T.getD v.toNat []).length:af)),(94,en j)],[(0,az (.ar (.list .int) T)),(1,az (.map .int .int lv)),(2,az (.row 3 .int ds)),(3,az (.map .int .int Q)),(4,az (.ar .int (T.getD v.toNat [])))],5⟩) (λj Q=>Nd lv v (T.getD v.toNat []) P j.toNat=az Q) P (rk [0,1,2,3,12292]) rfl λj Q _ wo j0 j1 j2=>?_;refine jQ ?_;refine jR (p:=j<((T.getD v.toNat []).length:af)) (λq5=>?_) λq5=>?_
  .have hk:=yd _ hm _ (jz (l:=(T.getD v.toNat [])) (i:=j.toNat) (d:=0) (by omega));have hQl:=Kz j2;refine jY (pr:=(j8 j (T.getD v.toNat []).length)/\(nv .int ((T.getD v.toNat []).getD j.toNat 0))/\(nv .int ((T.getD v.toNat []).getD j.toNat 0))) ⟨bx,wk,wk⟩ ?_;refine jZ (λ(q6:((((jr lv ((T.getD v.toNat []).getD j.toNat 0)).isSome)=aD)\/(¬(((jr lv ((T.getD v.toNat []).getD j.toNat 0)).getD 0)=v)))\/(((jr Q ((T.getD v.toNat []).getD j.toNat 0)).isSome)=aC))=>?_) (λ(q6:((((jr lv ((T.getD v.toNat []).getD j.toNat 0)).isSome)=aC)/\(((jr lv ((T.getD v.toNat []).getD j.toNat 0)).getD 0)=v))/\(((jr Q ((T.getD v.toNat []).getD j.toNat 0)).isSome)=aD))=>?_)
   .have hnk:¬((jr lv ((T.getD v.toNat []).getD j.toNat 0)).isSome=aC/\(jr lv ((T.getD v.toNat []).getD j.toNat 0)).getD 0=v/\(jr Q ((T.getD v.toNat []).getD j.toNat 0)).isSome=aD):=λhc=>by have⟨y1,y2,y3⟩:=hc;rcases q6 with(z|z)|z<;>first|exact z y2|(rw[y1] at z;cases z)|(rw[y3] at z;cases z)
    have LY:Nd lv v (T.getD v.toNat []) P (j+1).toNat=aA:=by rw[Nh j0 j2,aP hnk]
    have G3:=Nf LY (m:=(T.getD v.toNat []).length) (by omega);have hb3:Ky lv T (v+1).toNat=aA:=by rw[Ni v0 v2];exact G3
    have amU:=Ng hb3 (m:=T.length) (by omega);refine jQ ?_;exact jW ((aA:ai ((aa (aa af))×(jw .int af)×(jw .int af)×aa af)),((5:af):af),()) (by rw[Yw wS hT (by rw[<-hlv];exact amU)];rfl)
   have hck:(jr lv ((T.getD v.toNat []).getD j.toNat 0)).isSome=aC/\(jr lv ((T.getD v.toNat []).getD j.toNat 0)).getD 0=v/\(jr Q ((T.getD v.toNat []).getD j.toNat 0)).isSome=aD:=by obtain⟨⟨z1,z2⟩,z3⟩:=q6;exact⟨z1,z2,z3⟩
   refine jY (pr:=(nv .int ((T.getD v.toNat []).getD j.toNat 0))/\(Q.length<=2147483647)/\(jX .i64 (j+1))) ⟨wk,ln,kC⟩ ?_;exact oa (wo (kZ Q ((T.getD v.toNat []).getD j.toNat 0) j) (ir 5) (by rw[Nh j0 j2,aQ hck]))
  have hje:j.toNat=(T.getD v.toNat []).length:=by omega
  have Kf:=j2;rw[hje] at Kf;refine jY (pr:=(jX .i64 (v+1))) kC ?_;exact oa (zf Q (ir 4) (by rw[Ni v0 v2];exact Kf))
 have hve:v.toNat=T.length:=by omega
 have aaR:=v2;rw[hve] at aaR;have hPl:=KA oC v2;refine jQ ?_;refine pY (p:=(aM P:af)=(aM lv:af)) (λq7=>?_) λq7=>?_
 .refine jQ ?_;exact jW ((aA:ai ((aa (aa af))×(jw .int af)×(jw .int af)×aa af)),((5:af):af),()) (by rw[hlv] at aaR q7;rw[Yy wS hT aaR q7];rfl)
 refine jY (pr:=(ng T/\kK T)) (⟨yd,oC⟩) ?_;exact jW ((az (T.map ju,lv,tR T T.length,ds):ai ((aa (aa af))×(jw .int af)×(jw .int af)×aa af)),((0:af):af),()) (by rw[hlv] at aaR q7;rw[RP wS hT aaR q7,hlv,hds];rfl)
def ah5:lM aR:=plain ah4
theorem aaS:kr aR 120 [(aD,(.ptr (.pair (.list (.list .int)) (.pair (.map .int .int) (.pair (.map .int .int) (.list .int)))))),(aD,.int),(aD,.int)] [.int,.bool] (λx=>FR (show ai ((aa (aa af))×(jw .int af)×(jw .int af)×aa af) from x.1) (I_ x.2.1)/\-1<=(I_ x.2.2.1)/\(I_ x.2.2.1)<=1/\-9223372036854775808<=(I_ x.2.1)/\(I_ x.2.1)<=9223372036854775807) (λx=>((mM (show ai ((aa (aa af))×(jw .int af)×(jw .int af)×aa af) from x.1) (I_ x.2.1) (I_ x.2.2.1)).1,(mM (show ai ((aa (aa af))×(jw .int af)×(jw .int af)×aa af) from x.1) (I_ x.2.1) (I_ x.2.2.1)).2,())):=by
 refine kJ f120 48 [] func120 λo x hd _ _ h=>?_;obtain⟨(r:ai ((aa (aa af))×(jw .int af)×(jw .int af)×aa af)),(d:af),(s:af),_⟩:=x;change FR r d/\-1<=s/\s<=1/\-9223372036854775808<=d/\d<=9223372036854775807 at hd;have⟨hr,s0,s1,d0,d1⟩:=hd;obtain⟨⟨T,lv,pl,ds⟩,rfl⟩:=FR.some hr;change ∀v,jr lv d=az v->_ at hr;refine tY [] h ?_;refine jZ (λ(q1:((az (T,lv,pl,ds)).isNone)=aC)=>?_) (λ(q1:((az (T,lv,pl,ds)).isNone)=aD)=>?_)
 .cases q1
 refine jY (pr:=((az (T,lv,pl,ds)).isSome=aC)/\(nv .int d)) ⟨rfl,wk⟩ ?_;refine jZ (λ(q2:((jr lv d).isSome)=aD)=>?_) (λ(q2:((jr lv d).isSome)=aC)=>?_)
 .have hv:jr lv d=aA:=by cases hq:jr lv d with|none=>rfl|some _=>rw[hq] at q2;simp at q2
  refine jQ ?_;exact jW (((0:af):af),(aD:ak),()) (by simp only[mM,hv];rfl)
 obtain⟨v,hv⟩:∃v,jr lv d=az v:=bS.1 (by simpa using q2);have hg:(jr lv d).getD 0=v:=by rw[hv];rfl
 obtain⟨v0,v1,v2,v3,v4⟩:=hr v hv;rw[<-hg] at v0 v1 v2 v4;have hmd:=Int.emod_nonneg ((jr pl d).getD 0+s+(T.getD ((jr lv d).getD 0).toNat []).length) (show((T.getD ((jr lv d).getD 0).toNat []).length:af)≠0 by omega);have hme:=Int.emod_lt_of_pos ((jr pl d).getD 0+s+(T.getD ((jr lv d).getD 0).toNat []).length) (show 0<((T.getD ((jr lv d).getD 0).toNat []).length:af) by omega);refine jY (pr:=((az (T,lv,pl,ds)).isSome=aC)/\(j8 ((jr lv d).getD 0) T.length)/\((az (T,lv,pl,ds)).isSome=aC)/\(nv .int d)/\(jX .i64 (((jr pl d).getD 0)+s))/\(jX .i64 ((((jr pl d).getD 0)+s)+((T.getD ((jr lv d).getD 0).toNat []).length:af)))/\(0<=(((jr pl d).getD 0)+s)+((T.getD ((jr lv d).getD 0).toNat []).length:af)/\0<((T.getD ((jr lv d).getD 0).toNat []).length:af))/\(j8 (((((jr pl d).getD 0)+s)+((T.getD ((jr lv d).getD 0).toNat []).length:af))%((T.getD ((jr lv d).getD 0).toNat []).length:af)) (T.getD ((jr lv d).getD 0).toNat []).length)) ⟨rfl,bx,rfl,wk,kC,kC,⟨by omega,by omega⟩,bx⟩ ?_;exact jW ((((T.getD ((jr lv d).getD 0).toNat []).getD (((((jr pl d).getD 0)+s)+((T.getD ((jr lv d).getD 0).toNat []).length:af))%((T.getD ((jr lv d).getD 0).toNat []).length:af)).toNat 0):af),(aC:ak),()) (by simp only[mM,hv];rfl)
def aaT:lM aR:=plain aaS
theorem aeb:kr aR 91 [(aD,(.ptr (.pair (.list (.list .int)) (.pair (.map .int .int) (.pair (.map .int .int) (.list .int)))))),(aD,.int)] [.int,.bool] (λx=>FR (show ai ((aa (aa af))×(jw .int af)×(jw .int af)×aa af) from x.1) (lX (I_ x.2.1))/\0<=(I_ x.2.1)/\(I_ x.2.1)<=1000000) (λx=>((mM (show ai ((aa (aa af))×(jw .int af)×(jw .int af)×aa af) from x.1) (lX (I_ x.2.1)) (-1)).1,(mM (show ai ((aa (aa af))×(jw .int af)×(jw .int af)×aa af) from x.1) (lX (I_ x.2.1)) (-1)).2,())):=by
 refine kJ f91 12 [aaT] func91 λo x hd _ _ h=>?_;obtain⟨(r:ai ((aa (aa af))×(jw .int af)×(jw .int af)×aa af)),(d:af),_⟩:=x;change FR r (lX d)/\0<=d/\d<=1000000 at hd;have⟨hr,d0,d1⟩:=hd;obtain⟨t0,t1⟩:0<=(if d%2=0 then d+1 else d-1)/\(if d%2=0 then d+1 else d-1)<=1000001:=by split<;>omega
 refine go (pr:=(0<=d/\d<=9223372036854775807)/\(FR r (if d%2=0 then d+1 else d-1)/\-1<=(-1:af)/\(-1:af)<=1/\-9223372036854775808<=(if d%2=0 then d+1 else d-1)/\(if d%2=0 then d+1 else d-1)<=9223372036854775807)) [] h ⟨⟨by omega,by omega⟩,⟨hr,by omega,by omega,by omega,by omega⟩⟩ ?_;exact jW (((mM r (if d%2=0 then d+1 else d-1) (-1:af)).1:af),((mM r (if d%2=0 then d+1 else d-1) (-1:af)).2:ak),()) rfl
def aec:lM aR:=plain aeb
theorem aed:kr aR 68 [(aD,D9),(aD,CP),(aD,(.list (.list .int)))] [(.list VR),.int] (λx=>tU (I_ x.1.1)/\ng (K_ x.2.2.1)/\kK (K_ x.2.2.1)) (λx=>((jm (I_ x.1.1) (E_ x.1.2) (J_ x.2.1.1) (J_ x.2.1.2) (K_ x.2.2.1)).1,(jm (I_ x.1.1) (E_ x.1.2) (J_ x.2.1.1) (J_ x.2.1.2) (K_ x.2.2.1)).2,())):=by
 refine adG f68 103 [ah5,aec,inl [] [] func90] func68 λo x hd _ _ h=>?_;obtain⟨⟨(n:af),(E:aa (af×af))⟩,⟨(V:aa af),(L:aa af)⟩,(T:aa (aa af)),_⟩:=x;have vC:=LS h 0 E;have uB:=pP h 1 V;have rI:=pP h 2 L;have Az:=vK h 3 T;change tU n/\ng T/\kK T at hd;have⟨hn,yd,oC⟩:=hd;have adJ:=oC.1;refine go (pr:=(tU n/\ng T/\kK T)) [] h (⟨hn,yd,oC⟩) ?_;refine pY (p:=(nR n E V L T).2=0) (λq1=>?_) λq1=>?_
 .refine jQ ?_;intro _ _ h;exact akm [] [] (([]:aa (af×aa af)),((nR n E V L T).2:af),()) h (by simp only[jm,aQ q1];rfl)
 obtain⟨wS,hT,hr⟩:=C1 q1;obtain⟨hrt,hV,hL,_⟩:=kA wS;obtain⟨r1,r2,r3,_⟩:=l6 hrt;have hVl:=nk hV r1;have hLl:=nk hL (by omega);have hTl:=hT.len;have Ig:=BQ L L.length;refine jY (pr:=(jX .i64 ((aM V:af)-1))) kC ?_;refine uf af (aa (af×aa af)) (λi out=>⟨[(2,eo 0),(4,ep 1),(8,ep 2),(10,ep 3),(11,en i)],[(0,az (.ar (.list .int) T)),(1,az (.box 26 [.own 4,.own 5])),(2,az (.box 163 [.pd 6])),(3,az (.box 141 [.own 7])),(4,az (.ar .int V)),(5,az (.ar .int L)),(6,az (.ext (.Br (.pair (.list (.list .int)) (.pair (.map .int .int) (.pair (.map .int .int) (.list .int)))) ((nR n E V L T).1)))),(7,az (.row 145 VR out))],8⟩) (λi out=> -1<=i/\i<(aM V:af)/\out=DP V T (V.length-(i+1).toNat)) (λi out=>(i+1).toNat) ((aM V:af)-1) [] [(0,az 3),(1,az 4100),(2,az 45060),(3,az 65540),(4,az 1),(5,az 2),(6,az 28676),(7,aA)] ⟨by omega,by omega,by rw[show V.length-((aM V:af)-1+1).toNat=0 by omega];rfl⟩ λi out _ mR hI=>?_;have⟨h0,h1,h2⟩:=hI;refine jQ ?_;refine jR (p:=(0:af)<=i) (λq2=>?_) λq2=>?_
 .have i0:0<=i:=q2;have i1:=h1;obtain⟨v0,v1,_⟩:=hV i.toNat (by omega);have OZ:=Ew V T (V.length-(i+1).toNat);rw[<-h2] at OZ;refine jY (pr:=(j8 i V.length)/\(j8 (V.getD i.toNat 0) T.length)) ⟨bx,bx⟩ ?_;refine jR (p:=((T.getD (V.getD i.toNat 0).toNat []).length:af)=0) (λq3=>?_) λq3=>?_
  .refine jY (pr:=(jX .i64 ((-1)-(V.getD i.toNat 0)))/\(out.length+([((-1)-(V.getD i.toNat 0),[])]:aa (af×aa af)).length<=2147483647)/\(jX .i64 (i-1))) ⟨kC,ln,kC⟩ ?_;exact oa (mR (i-1) (out++([((-1)-(V.getD i.toNat 0),[])]:aa (af×aa af))) (rk [0,1,2,3,4,5,6,77832]) ⟨by omega,by omega,by rw[Nr i0 i1,aQ (by omega),<-h2]⟩ (by omega))
  refine jY (pr:=(jX .i64 (i-1))) kC ?_;exact oa (mR (i-1) out (ir 8) ⟨by omega,by omega,by rw[Nr i0 i1,aP (by omega),<-h2]⟩ (by omega))
 have hi:V.length-(i+1).toNat=V.length:=by omega
 rw[hi] at h2;have OZ:=Ew V T V.length;rw[<-h2] at OZ;refine jQ ?_;intro _ _ h;refine Ob (Y:=(aa (af×af))) N9 (λm=>⟨[(8,ep 0),(10,ep 1),(13,ep 2),(58,az ⟨[],.one (.sR 119 [(3,0)])⟩)],[(0,az (.box 163 [.pd 4])),(1,az (.box 141 [.own 5])),(2,az (.box 140 [.mp 6])),(3,az (.box 163 [.pd 4])),(4,az (.ext (.Br (.pair (.list (.list .int)) (.pair (.map .int .int) (.pair (.map .int .int) (.list .int)))) ((nR n E V L T).1)))),(5,az (.row 145 VR out)),(6,az (.map .int .int m))],7⟩) 5 (λk=>λm=>m=YN (oO L L.length) k/\av) ([]) (rk [2,3,12296,24584,6,7,8200]) (show vz (El Ec) from(nR n E V L T).1) (T.map ju,(Cq E L L.length,(tR T T.length,oO L L.length))) h hr ⟨rfl,tv⟩ (λk m _ _ _ _ _ _ _ _ _ zf hk_ hI h=>?_) (λm D1 _ _ hI h=>?_)
 .obtain⟨h4,_⟩:=hI;change k<(oO L L.length).length at hk_;have hxd:ku L ((oO L L.length).getD k 0):=(nY _).1 (jJ.2 ⟨k,hk_,rfl⟩);obtain⟨_,x0,x1⟩:=BW wS hT oC hxd;have OU:=KD (oO L L.length) k;rw[<-h4] at OU;refine go (pr:=(nv .int ((oO L L.length).getD k 0))/\(m.length<=2147483647)) [] h ⟨wk,ln⟩ ?_;intro _ _ h;exact rg_ (zf (kZ m ((oO L L.length).getD k 0) ((oO L L.length).getD k 0)) (ir 7) h ⟨by rw[h4];rfl,tv⟩)
 have⟨h4,_⟩:=hI;change m=YN (oO L L.length) (oO L L.length).length at h4;have hmd:∀y,(jr m y).isSome=aC->ku L y:=λy hy=>(nY y).1 (by rw[h4] at hy;have:=(Ex (aW _) y).1 hy;rwa[cg] at this);have OU:=KD (oO L L.length) (oO L L.length).length;rw[<-h4] at OU;refine tY [] h ?_;intro _ _ h;refine Ob (Y:=(aa (af×af))×(aa (af×aa af))) N9 (λx_=>(λ(m2:aa (af×af)) (o2:aa (af×aa af))=>⟨[(8,ep 0),(10,ep 1),(13,ep 2),(64,az ⟨[],.one (.sR 119 [(3,0)])⟩)],[(0,az (.box 163 [.pd 4])),(1,az (.box 141 [.own 6])),(2,az (.box 140 [.mp 7])),(3,az (.box 163 [.pd 4])),(4,az (.ext (.Br (.pair (.list (.list .int)) (.pair (.map .int .int) (.pair (.map .int .int) (.list .int)))) ((nR n E V L T).1)))),(5,az (.ext (.Ia D1))),(6,az (.row 145 VR o2)),(7,az (.map .int .int m2))],8⟩) x_.1 x_.2) 5 (λk=>λx_=>(λ(m2:aa (af×af)) (o2:aa (af×aa af))=>F5 L (nR n E V L T).1 (oO L L.length) out k m2 o2) x_.1 x_.2) (m,out) (rk [0,1,2,4104,4,7,5,6]) (show vz (El Ec) from(nR n E V L T).1) (T.map ju,(Cq E L L.length,(tR T T.length,oO L L.length))) h hr ⟨by rw[h4];rfl,rfl,by rw[h4];exact ae7 _ _,hmd,aW _⟩ (λk x_ _ _ _ _ _ _ _ _ _ wo hk_ hI h=>?_) (λx_ D2 _ _ hI h=>?_)
 .obtain⟨m2,o2⟩:=x_;have⟨k1,k2,k3,k4,k5⟩:=hI;dsimp only at k1 k2 k3 k4 k5;change k<(oO L L.length).length at hk_;have hxd:ku L ((oO L L.length).getD k 0):=(nY _).1 (jJ.2 ⟨k,hk_,rfl⟩);obtain⟨_,x0,x1⟩:=BW wS hT oC hxd;have OT:m2.length<=(oO L L.length).length:=YP k3 k4;refine go (pr:=(nv .int ((oO L L.length).getD k 0))) [] h wk ?_;refine jZ (λ(q4:((jr m2 ((oO L L.length).getD k 0)).isSome)=aD)=>?_) (λ(q4:((jr m2 ((oO L L.length).getD k 0)).isSome)=aC)=>?_)
  .refine jQ ?_;intro _ _ h;exact rg_ (wo (m2,o2) (ir 8) h (acv (by rw[<-k1];exact q4) ⟨k1,k2,k3,k4,k5⟩))
  have akW:(jr m2 ((oO L L.length).getD k 0)).isSome=aC:=q4;refine jQ ?_;refine CR af ak (aa (af×af)) (aa af) (λx ok mm acc=>⟨[(8,ep 0),(10,ep 1),(13,ep 2),(15,en ((oO L L.length).getD k 0)),(18,ep 5),(19,en x),(20,az ⟨[],.one (.b (.raw ok))⟩),(65,en ((oO L L.length).getD k 0))],[(0,az (.box 163 [.pd 4])),(1,az (.box 141 [.own 7])),(2,az (.box 140 [.mp 8])),(3,az (.box 163 [.pd 4])),(4,az (.ext (.Br (.pair (.list (.list .int)) (.pair (.map .int .int) (.pair (.map .int .int) (.list .int)))) ((nR n E V L T).1)))),(5,az (.box 145 [.v (.int .i64 ((oO L L.length).getD k 0)),.own 9])),(6,az (.ext (.Ia D1))),(7,az (.row 145 VR o2)),(8,az (.map .int .int mm)),(9,az (.row 3 .int acc))],10⟩) (λx ok mm acc=>(ok=aC/\(jr mm x).isSome=aC/\r9 (nR n E V L T).1 mm.length mm x acc=r9 (nR n E V L T).1 m2.length m2 ((oO L L.length).getD k 0) []\/ok=aD/\(mm,acc)=r9 (nR n E V L T).1 m2.length m2 ((oO L L.length).getD k 0) [])/\KN mm/\(∀y,(jr mm y).isSome=aC->ku L y)/\acc.length+mm.length<=10000) (λx ok mm acc=>mm.length) ((oO L L.length).getD k 0) aC m2 [] [(0,az 0),(1,az 1),(2,az 2),(3,az 3),(4,az 4),(5,az 53256),(6,az 5),(7,az 6),(8,az 7),(9,aA)] ⟨.inl ⟨rfl,akW,rfl⟩,k3,k4,by simp only[cK];omega⟩ λx ok mm acc _ HH hI=>?_;have⟨hor,kk,kd,kl⟩:=hI;refine jQ ?_;refine jZ (λ(q5:ok=aC)=>?_) (λ(q5:ok=aD)=>?_)
  .obtain⟨_,hs,ho⟩:=hor.resolve_right λz=>by rw[q5] at z;cases z.1
   have hxn:=kd x hs;obtain⟨hnr,y0,y1⟩:=BW wS hT oC hxn;have hnr:FR (nR n E V L T).1 (lX x):=by rw[hr];exact hnr
   have anq:=IX kk hs;have hnn:ku L (mM (nR n E V L T).1 (lX x) (-1)).1:=by rw[hr];exact(wT wS hT hxn).1
   obtain⟨_,z0,z1⟩:=BW wS hT oC hnn;refine jY (pr:=(nv .int x)/\(acc.length+([x]:aa af).length<=2147483647)/\(FR ((nR n E V L T).1) (lX x)/\0<=x/\x<=1000000)/\(nv .int ((mM ((nR n E V L T).1) (lX x) (-1)).1))) ⟨wk,ln,⟨hnr,by omega,by omega⟩,wk⟩ ?_;exact oa (HH ((mM ((nR n E V L T).1) (lX x) (-1)).1) ((jr (EZ mm x) ((mM ((nR n E V L T).1) (lX x) (-1)).1)).isSome) (EZ mm x) (acc++([x]:aa af)) (rk [0,1,2,3,4,5,6,7,8,32778]) ⟨acu kk hs ho,YA kk x,Ey kd x,by rw[bA];simp only[b7,cK];omega⟩ (by omega))
  obtain⟨_,hR⟩:=hor.resolve_left λz=>by rw[q5] at z;cases z.1
  refine jY (pr:=(o2.length+([(((oO L L.length).getD k 0),acc)]:aa (af×aa af)).length<=2147483647)) ln ?_;intro _ _ h;exact rg_ (wo (mm,(o2++([(((oO L L.length).getD k 0),acc)]:aa (af×aa af)))) (rk [0,1,2,3,4,6,16394,8]) h (YO hk_ (by rw[<-k1];exact akW) (by rw[<-k1];exact hR) kk kd ⟨k1,k2,k3,k4,k5⟩))
 obtain⟨m2,o2⟩:=x_;have⟨k1,k2,k3,k4,k5⟩:=hI;dsimp only at k1 k2 k3 k4 k5;change o2=(nt (nR n E V L T).1 (oO L L.length) out (oO L L.length).length).2 at k2;refine tY [] h ?_;intro _ _ h;exact akm [8,5] [D2,D1] ((o2:aa (af×aa af)),((0:af):af),()) h (by rw[k2,h2,wU q1])
def LC:lM aR:=plain aed
theorem akX {o:jO}{n:ah}{σ:mX}{a:Act}{w:aN}(j q k i:ah)(e:TypeId)(ty:Ty)(ie:TypeId)(l:aa (aa (El ty)))(m:aa (El ty))(l':aa (aa (El ty)))(h:lH o n σ a w)(hi:i<l.length)(he:l.set i m=l')(hj:mH σ j=az (.ext (.nb q k i e ty ie l)):=by kernel_rfl)(hk:mH σ k=az (.row ie ty m):=by kernel_rfl)(hjk:bp j k=aD:=by rfl):
  lH o n ⟨σ.env,(j,az (.ext (.nest q aA e (.list ty) ie l')))::(k,aA)::σ.rs,σ.nx⟩ a w:=by
 subst he;exact amG j q k i e ty ie l m h hi hj hk hjk
abbrev aaU:sM:=⟨[.box 98 [.int,.own 1,.own 2,.own 3,.own 4,.own 5,.own 6,.bool,.int,.mp 7,.mp 8,.mp 9,.mp 10,.own 11],.row 9 .str,.row 84 yx,.row 3 .int,.row 3 .int,.row 24 (.list .int),.row 24 (.list .int),.map .str .int,.map .int .unit,.map .int .unit,.mj 12 .int .int 3,.nest 13 24 (.list .int) 3,.Er,.Er],[.ptr 0 0],[.box 39 [.int,.own 1,.own 2,.own 3,.own 4,.own 5,.own 6],.row 9 .str,.row 84 yx,.row 3 .int,.row 3 .int,.row 24 (.list .int),.row 24 (.list .int)],[.int,.own 1,.own 2,.own 3,.own 4,.own 5,.own 6],0,aC,[]⟩
theorem akY:nX aR 37 aaU (λx=>(I_ x.1.1.1)=1\/(I_ x.1.1.1)=0/\vr (B_ x.1.2.1) (N_ x.1.2.2.1) (show jw .int Unit from x.1.2.2.2.2.2.2.2.2.1) (show jw .int Unit from x.1.2.2.2.2.2.2.2.2.2.1) (show jw .int (aa af) from x.1.2.2.2.2.2.2.2.2.2.2.1) (K_ x.1.2.2.2.2.2.2.2.2.2.2.2.1)) (λx=>((((I_ x.1.1.1),(),(),(),(),(),(),()),(B_ x.1.2.1),(N_ x.1.2.2.1),(zh (I_ x.1.1.1) (J_ x.1.2.2.2.1) (show jw .int Unit from x.1.2.2.2.2.2.2.2.2.1)),(zh (I_ x.1.1.1) (J_ x.1.2.2.2.2.1) (show jw .int Unit from x.1.2.2.2.2.2.2.2.2.2.1)),(HM (I_ x.1.1.1) (K_ x.1.2.2.2.2.2.1) (B_ x.1.2.1).length (show jw .int (aa af) from x.1.2.2.2.2.2.2.2.2.2.2.1)),(HN (I_ x.1.1.1) (K_ x.1.2.2.2.2.2.2.1) (B_ x.1.2.1) (N_ x.1.2.2.1) (show jw .int Unit from x.1.2.2.2.2.2.2.2.2.1) (show jw .int Unit from x.1.2.2.2.2.2.2.2.2.2.1) (show jw .int (aa af) from x.1.2.2.2.2.2.2.2.2.2.2.1) (K_ x.1.2.2.2.2.2.2.2.2.2.2.2.1)),()),((I_ x.1.1.1),(),(),(),(),(),(),()))):=by
 refine oA f37 146 [ad5,LB,ah1,ahp,LC,inl [ahT] [] func70,inl [] [] func67] aaU func37 λo A x hd _ _ h=>?_;obtain⟨⟨⟨(xk:af),_,_,_,_,_,_,(xb:ak),(xt:af),_,_,_,_,_,_⟩,(vv:aa aj),(ee:aa mS),(hv:aa af),(he:aa af),(tt:aa (aa af)),(ss:aa (aa af)),(nm:jw .str af),(ha:jw .int Unit),(hb:jw .int Unit),(tu:jw .int (aa af)),(xr:aa (aa af)),_,_,_⟩,⟨_,_⟩⟩:=x;have uB:=LU h 1 vv;have rI:=OW h 2 ee;have Az:=pP h 3 hv;have Te:=pP h 4 he;have hl5:=vK h 5 tt;have hl6:=vK h 6 ss;change xk=1\/xk=0/\vr vv ee ha hb tu xr at hd;refine tY [] h ?_;refine jR (p:=xk=1) (λq1=>?_) λq1=>?_
 .refine jQ ?_;intro _ _ h;exact mA (((xk,(),(),(),(),(),(),()),vv,ee,hv,he,tt,ss,()),(xk,(),(),(),(),(),(),())) (rk [14,1,2,3,4,5,6]) h (by show _=((_,_,_,zh xk hv ha,zh xk he hb,HM xk tt vv.length tu,HN xk ss vv ee ha hb tu xr,_),_);rw[show zh xk hv ha=hv from aQ q1,show zh xk he hb=he from aQ q1,show HM xk tt vv.length tu=tt from aQ q1,show HN xk ss vv ee ha hb tu xr=ss from aQ q1]<;>rfl)
 obtain⟨hk0,hD⟩:xk=0/\vr vv ee ha hb tu xr:=hd.resolve_left q1;have hW:=hD.W;refine jY (pr:=(e8 (α:=af×Unit) ha<=1000000/\v7 (α:=Unit) ha)/\(e8 (α:=af×Unit) hb<=1000000/\v7 (α:=Unit) hb)/\(0<=(aM vv:af)/\(aM vv:af)<=(aM vv:af)/\(aM vv:af)<=2147483647)) ⟨⟨hD.V,hD.rV⟩,⟨hD.L,hD.rL⟩,⟨by omega,by omega,by omega⟩⟩ ?_;refine CR (af->ak) ah (ai (af×aa af)) (aa (aa af)) (λlf cnt cur tq=>⟨[(0,ep 0),(2,ep 1),(3,ep 2),(53,ep 3)],[(0,az (.box 98 [.v (.int .i64 xk),.own 4,.own 5,.own 6,.own 7,.own 8,.own 9,.b (.raw xb),.v (.int .i64 xt),.mp 10,.mp 11,.mp 12,.mp 13,.own 14])),(1,az (.box 39 [.v (.int .i64 0),.v (.slice aA 0 0),.v (.slice aA 0 0),.v (.slice aA 0 0),.v (.slice aA 0 0),.v (.slice aA 0 0),.v (.slice aA 0 0)])),(2,az (.box 39 [.v (.int .i64 xk),.own 4,.own 5,.own 15,.own 16,.own 17,.own 9])),(3,az (.iter .int (.list .int) tu lf cnt cur)),(4,az (.row 9 .str vv)),(5,az (.row 84 yx ee)),(6,az (.row 3 .int hv)),(7,az (.row 3 .int he)),(8,az (.row 24 (.list .int) tt)),(9,az (.row 24 (.list .int) ss)),(10,az (.map .str .int nm)),(11,az (.map .int .unit ha)),(12,az (.map .int .unit hb)),(13,az (.yq .int (.list .int) tu)),(14,az (.ext (.nest 18 aA 24 (.list .int) 3 xr))),(15,az (.row 3 .int (k1 ha))),(16,az (.row 3 .int (k1 hb))),(17,az (.row 24 (.list .int) tq))],19⟩) (λlf cnt cur tq=>TuI vv.length tu lf tq/\av) (λlf cnt cur tq=>cnt) (λz=>(jr tu z).isSome) tu.length aA (dA vv.length []) (rk [0,14,20494,147470,1,2,3,4,5,6,7,8,9,10,11,61454,86030,114702,13]) ⟨TuI.start _ _,tv⟩ λlf cnt cur tq _ mR hI=>?_;have⟨hT,_⟩:=hI;refine jQ ?_;intro _ _ h;refine RD ⟨.int,(.list .int),tu,lf,cnt,cur,3,54⟩ h (λ(uB:∀x:af,lf x=aD) _ _ h=>?_) (λ(k1:af) (v1:aa af) (c1:ah) (uB:lf k1=aC) (hw1: -9223372036854775808<=k1/\k1<=9223372036854775807) (hk1:jr tu k1=az v1) (Ho:c1<cnt) _ _ h=>?_)
 .have htv:=hT.fin uB;subst htv;have hwn:(vw vv ee ha hb tu).length<=1000000:=hD.wN;have MC:=hD.S.1;have yd:tU (aM vv:af):=⟨by omega,by omega⟩;refine go (pr:=((xk=0/\Gb ee)/\ee.length<=1000000/\(k1 ha).length<=1000000/\(k1 hb).length<=1000000/\kK (GM vv.length tu)/\kK xr)/\((0:af)=0)/\(tU (aM vv:af)/\ng (GM vv.length tu)/\kK (GM vv.length tu))) [(78,aD)] h ⟨⟨⟨hk0,hD.cs⟩,hD.E,hD.Vl,hD.Ll,hD.sT,hD.S⟩,by decide,⟨yd,hD.iT,hD.sT⟩⟩ ?_;refine oJ (aa (af×af)) (vw vv ee ha hb tu) (λi mk=>⟨[(2,ep 0),(3,ep 1),(8,em 2),(92,eo 3),(93,en ((vw vv ee ha hb tu).length:af)),(94,en i)],[(0,az (.box 39 [.v (.int .i64 0),.v (.slice aA 0 0),.v (.slice aA 0 0),.v (.slice aA 0 0),.v (.slice aA 0 0),.v (.slice aA 0 0),.v (.slice aA 0 0)])),(1,az (.box 39 [.v (.int .i64 xk),.own 4,.own 5,.own 6,.own 7,.own 8,.own 9])),(2,az (.map .int .int mk)),(3,az (.ro VR (vw vv ee ha hb tu))),(4,az (.row 9 .str vv)),(5,az (.row 84 yx ee)),(6,az (.row 3 .int (k1 ha))),(7,az (.row 3 .int (k1 hb))),(8,az (.row 24 (.list .int) (GM vv.length tu))),(9,az (.ext (.nest 10 aA 24 (.list .int) 3 xr)))],11⟩) (λi mk=>mk=VX ((vw vv ee ha hb tu).take i.toNat) []) [] (rk [1,2,77843,114707,4,5,15,16,17,14,18]) rfl λi mk _ zf i0 i1 i2=>?_;refine jQ ?_;refine jR (p:=i<((vw vv ee ha hb tu).length:af)) (λq2=>?_) λq2=>?_
  .have hwd:((vw vv ee ha hb tu).getD i.toNat (0,[])).2.length<=1000000:=hD.wd i0 q2;refine jY (pr:=(j8 i (vw vv ee ha hb tu).length)) bx ?_;refine oJ (aa (af×af)) (((vw vv ee ha hb tu).getD i.toNat (0,[])).2) (λj ml=>⟨[(2,ep 0),(3,ep 1),(8,em 2),(12,ep 3),(92,eo 4),(93,en ((vw vv ee ha hb tu).length:af)),(94,en i),(99,eo 5),(100,en ((((vw vv ee ha hb tu).getD i.toNat (0,[])).2).length:af)),(101,en j)],[(0,az (.box 39 [.v (.int .i64 0),.v (.slice aA 0 0),.v (.slice aA 0 0),.v (.slice aA 0 0),.v (.slice aA 0 0),.v (.slice aA 0 0),.v (.slice aA 0 0)])),(1,az (.box 39 [.v (.int .i64 xk),.own 6,.own 7,.own 8,.own 9,.own 10,.own 11])),(2,az (.map .int .int ml)),(3,az (.box 145 [.v (.int .i64 (((vw vv ee ha hb tu).getD i.toNat (0,[])).1)),.own 5])),(4,az (.ro VR (vw vv ee ha hb tu))),(5,az (.ro .int (((vw vv ee ha hb tu).getD i.toNat (0,[])).2))),(6,az (.row 9 .str vv)),(7,az (.row 84 yx ee)),(8,az (.row 3 .int (k1 ha))),(9,az (.row 3 .int (k1 hb))),(10,az (.row 24 (.list .int) (GM vv.length tu))),(11,az (.ext (.nest 12 aA 24 (.list .int) 3 xr)))],13⟩) (λj ml=>ml=kyD ((vw vv ee ha hb tu).getD i.toNat (0,[])).1 mk ((vw vv ee ha hb tu).getD i.toNat (0,[])).2 j) mk (rk [0,1,2,12299,3,8203,4,5,6,7,8,9,10]) rfl λj ml _ wo j0 j1 j2=>?_;refine jQ ?_;refine jR (p:=j<((((vw vv ee ha hb tu).getD i.toNat (0,[])).2).length:af)) (λq3=>?_) λq3=>?_
   .have hwb: -9223372036854775808<=((vw vv ee ha hb tu).getD i.toNat (0,[])).2.getD j.toNat 0/\((vw vv ee ha hb tu).getD i.toNat (0,[])).2.getD j.toNat 0<=9223372036854775807:=hD.wb i0 q2 j0 q3;have hwl:=hD.wl i0 q2 i2 j2;refine jY (pr:=(j8 j (((vw vv ee ha hb tu).getD i.toNat (0,[])).2).length)/\(nv .int ((((vw vv ee ha hb tu).getD i.toNat (0,[])).2).getD j.toNat 0))/\(ml.length<=2147483647)/\(jX .i64 (j+1))) ⟨bx,wk,ln,kC⟩ ?_;exact oa (wo (kZ ml ((((vw vv ee ha hb tu).getD i.toNat (0,[])).2).getD j.toNat 0) (((vw vv ee ha hb tu).getD i.toNat (0,[])).1)) (ir 13) (by rw[j2];exact(aap j0 (by omega)).symm))
   refine jY (pr:=(jX .i64 (i+1))) kC ?_;exact oa (zf ml (rk [0,1,2,4,6,7,8,9,10,11,12]) (by rw[aao i0 (by omega),<-i2];exact j2.trans (adP q3 j1)))
  have hmk:mk=VX (vw vv ee ha hb tu) []:=by rw[i2,dI (by omega)]
  refine jQ ?_;refine oJ oB xr (λs xl=>⟨[(2,ep 0),(3,ep 1),(8,em 2),(113,eo 3),(114,en (aM xr:af)),(115,en s)],[(0,az (.box 39 [.v (.int .i64 0),.v (.slice aA 0 0),.v (.slice aA 0 0),.v (.slice aA 0 0),.v (.slice aA 0 0),.v (.slice aA 0 0),.v (.slice aA 0 0)])),(1,az (.box 39 [.v (.int .i64 xk),.own 4,.own 5,.own 6,.own 7,.own 8,.own 3])),(2,az (.map .int .int mk)),(3,az (.ext (.nest 9 aA 24 (.list .int) 3 xl))),(4,az (.row 9 .str vv)),(5,az (.row 84 yx ee)),(6,az (.row 3 .int (k1 ha))),(7,az (.row 3 .int (k1 hb))),(8,az (.row 24 (.list .int) (GM vv.length tu)))],10⟩) (λs xl=>xl=VZ mk xr s) xr (rk [0,1,2,9,4,5,6,7,8,10]) rfl λs xl _ HH s0 s1 s2=>?_;have hlx:xl.length=xr.length:=by rw[s2];exact ad7 _ _ _
  refine jQ ?_;refine jR (p:=s<(aM xr:af)) (λq4=>?_) λq4=>?_
  .have hxe:xl.getD s.toNat []=(xr.getD s.toNat []):=by rw[s2];exact ahX s0 (by omega)
   have hsn:(xl.getD s.toNat []).length<=10000:=by rw[hxe];exact hD.ln s0 (by omega)
   refine AP (pr:=(j8 s xl.length)) [(1000028,aC)] bx ?_;intro _ _ h;have h:=amF 3 9 s 24 .int 3 xl [16] h ⟨s0,(show s<(aM xl:af) by omega)⟩;refine tY [] h ?_;refine oJ (aa af) (xl.getD s.toNat []) (λj ld=>⟨[(2,ep 0),(3,ep 1),(8,em 2),(16,eo 3),(113,eo 4),(114,en (aM xr:af)),(115,en s),(119,eo 3),(120,en ((xl.getD s.toNat []).length:af)),(121,en j)],[(0,az (.box 39 [.v (.int .i64 0),.v (.slice aA 0 0),.v (.slice aA 0 0),.v (.slice aA 0 0),.v (.slice aA 0 0),.v (.slice aA 0 0),.v (.slice aA 0 0)])),(1,az (.box 39 [.v (.int .i64 xk),.own 5,.own 6,.own 7,.own 8,.own 9,.own 4])),(2,az (.map .int .int mk)),(3,az (.row 3 .int ld)),(4,az (.ext (.nb 10 3 s.toNat 24 .int 3 xl))),(5,az (.row 9 .str vv)),(6,az (.row 84 yx ee)),(7,az (.row 3 .int (k1 ha))),(8,az (.row 3 .int (k1 hb))),(9,az (.row 24 (.list .int) (GM vv.length tu)))],11⟩) (λj ld=>ld=Tx mk (xl.getD s.toNat []) j) (xl.getD s.toNat []) (rk [0,1,2,16394,3,4,5,6,7,8,9]) (aaI _ _) λj ld _ ZO l0 l1 l2=>?_;refine jQ ?_;refine jR (p:=j<((xl.getD s.toNat []).length:af)) (λq5=>?_) λq5=>?_
   .have hsb:=hD.sb s0 (by omega) l0 (by rw[<-hxe];exact q5);rw[<-hxe,<-LA (m:=mk) l0 q5,<-l2] at hsb;have hld:ld.length=(xl.getD s.toNat []).length:=by rw[l2,Tz]
    refine jY (pr:=(j8 j ld.length)/\(nv .int (ld.getD j.toNat 0))) ⟨bx,wk⟩ ?_;refine jZ (λ(q6:((jr mk (ld.getD j.toNat 0)).isSome)=aC)=>?_) (λ(q6:((jr mk (ld.getD j.toNat 0)).isSome)=aD)=>?_)
    .refine jY (pr:=(j8 j ld.length)/\(j8 j ld.length)/\(jX .i64 (j+1))) ⟨bx,bx,kC⟩ ?_;exact oa (ZO (ld.set j.toNat ((jr mk (ld.getD j.toNat 0)).getD 0)) (ir 11) (by rw[aaK q6,l2,LA l0 (by omega)];exact Ot l0 (by omega)))
    refine jY (pr:=(jX .i64 (j+1))) kC ?_;exact oa (ZO ld (ir 11) (by rw[l2,aaJ l0 (by omega) (by rw[<-LA (m:=mk) l0 (by omega),<-l2];exact q6)]))
   have hsl:ld.length<=1000000:=by rw[l2,Tz];omega
   refine jY (pr:=(ld.length<=1000000)/\(jX .i64 (s+1))) ⟨hsl,kC⟩ ?_;intro _ _ h;have h:=akX 4 10 3 s.toNat 24 .int 3 xl (x5 ld) (VZ mk xr (s+1)) h (show s.toNat<xl.length by omega) (by rw[l2,ad6 q5,hxe,s2];exact aaL s0 (by omega));exact(oa (HH (VZ mk xr (s+1)) (rk [0,1,2,4,5,6,7,8,9,10]) rfl)) _ _ h
  have hfs:xl=xr.map (QO mk):=by rw[s2,ad8 (by omega)]
  have hgs:qd (aM xl:af) xl:=by rw[hlx,hfs,hmk];exact hD.gs
  have hgn:(aM xl:af)<=1000000:=by omega
  refine FC [(1000037,aC)] ?_;intro _ _ h;have h:=amH 3 9 24 .int 3 xl h;refine go (pr:=(qd (aM xl:af) xl/\(aM xl:af)<=1000000/\(aM xl:af)=(aM xl:af))) [] h (⟨hgs,hgn,rfl⟩) ?_;intro _ _ h;exact mA (((xk,(),(),(),(),(),(),()),vv,ee,(k1 ha),(k1 hb),(GM vv.length tu),(GR xl),()),(xk,(),(),(),(),(),(),())) (rk [0,4,5,6,7,8,3]) h (by show _=((_,_,_,zh xk hv ha,zh xk he hb,HM xk tt vv.length tu,HN xk ss vv ee ha hb tu xr,_),_);rw[show zh xk hv ha=(k1 ha) from aP q1,show zh xk he hb=(k1 hb) from aP q1,show HM xk tt vv.length tu=(GM vv.length tu) from aP q1,show HN xk ss vv ee ha hb tu xr=(GR xl) from(aP q1).trans (by rw[hfs,hmk])]<;>rfl)
 obtain⟨⟨ht0,ht1⟩,ht2⟩:=hD.tu1 _ _ hk1;have MU:tq.length=vv.length:=by rw[hT.eq];exact Lt _ _ _
 refine go (pr:=(v1.length<=1000000)/\(j8 k1 tq.length)/\(j8 k1 tq.length)) [] h ⟨ht2,bx,bx⟩ ?_;exact oa (mR (λz=>lf z && !decide (z=k1)) c1 (az (k1,v1)) (tq.set k1.toNat (ju v1)) (ir 19) ⟨hT.step ht0 ht1 hk1,tv⟩ Ho)
noncomputable def aaV:lM aR:=r8 akY
def aee (bx:aa (ah×ai R2))(σ:mX):mX:=⟨σ.env,(bx.map λp=>(p.1,aA))++σ.rs,σ.nx⟩
def QS (P:Program)(T:aa (lM P))(hn:aa (ah×ak))(n:ah)(B:Code)(k:ah)(σ:mX)(st:aa It):ai (aa um×Out):=match upT P T hn n B k σ st with
 |some x=>match(acg x.op).run (mN (p7 σ) (sK x.us [])) (jB (mH σ) (sL x.us [])) with
  |some out=>az (x.us,out)
  |none=>aA
 |none=>aA
def fU:ai (aa um×Out)->aa um
 |some x=>x.1
 |none=>[]
def fO:ai (aa um×Out)->Sy
 |some x=>x.2.sy
 |none=>.one (.v .nilIface)
def amV (us:aa um)(k:ah)(σ:mX):mX:=⟨yR (sK us [])++σ.env,sL us []++σ.rs,σ.nx+4096*k⟩
def aef (σ:mX)(kp:ah):aa Operand->ai (aa Sc)
 |[]=>az []
 | .tmp t::l=>match p7 σ t,aef σ kp l with
  |some ⟨[],.one c⟩,az cs=>match scB kp c with
   |true=>az (c::cs)
   |false=>aA
  |_,_=>aA
 |_=>aA
def aeg (B:Code)(f kp n:ah)(σ:mX):aa It->ai (aa Sc×aa It)
 | .run p::r=>match sub B p with
  | .region _ ops aD=>match ops.toList with
   |[⟨az t,.makeFunc (.func f') fi ca,_,_,_,aA⟩,⟨aA,.defer ⟨.value (.tmp t'),ar,_⟩,_,_,_,aA⟩]=>
    match(bp f' f && bp t' t) && ((fi.toList.isEmpty && ar.toList.isEmpty) && (Nat.ble kp σ.nx && ((p7 σ t).isNone && (Nat.blt t n && ZZ r)))) with
    |true=>(aef σ kp ca.toList).map λcs=>(cs,r)
    |false=>aA
   |_=>aA
  |_=>aA
 |_=>aA
def tpC:ai (aa Sc×aa It)->aa Sc
 |some x=>x.1
 |none=>[]
def tpR:ai (aa Sc×aa It)->aa It
 |some x=>x.2
 |none=>[]
def rU:ai (aa um×mX)->aa um
 |some x=>x.1
 |none=>[]
def rS:ai (aa um×mX)->mX
 |some x=>x.2
 |none=>⟨[],[],0⟩
def dfC (f:FuncId)(cs:aa Sc)(A:jU):Deferred:={target:=.fn (.func f) (cs.map (Sc.den A)).toArray,args:= #[]}
section
variable {mo:Mode}{P:Program}{o:jO}{n:ah}{σ:mX}{a:Act}{w:aN}{T:aa (lM P)}{B:Code}{Q:oL}{st:aa It}
theorem go_keep (bx:aa (ah×ai R2))(h:lH o n σ a w)(k:∀o',(∀w',Left o' w'->Ta o bx w')->lH o' n (aee bx σ) a w->At mo P T B Q st a w)
  (yd:bx.map (λp=>mH σ p.1)=bx.map (·.2):=by kernel_rfl) (hn:Ay (aee bx σ).rs=aC:=by kernel_rfl):At mo P T B Q st a w:=by
 obtain⟨⟨A,S,H⟩,h0,np⟩:=h;have e1:∀j x,mH (aee bx σ) j=az x->mH σ j=az x/\¬ ∃y,(j,y)∈bx.map λp=>(p.1,(aA:ai R2)):=λj x hj=>by
  have hj:jB (λ_=>aA) ((bx.map λp=>(p.1,aA))++σ.rs) j=az x:=hj;rw[mh] at hj
  by_cases q:∃y,(j,y)∈bx.map λp=>(p.1,(aA:ai R2))
  .obtain⟨p,_,e⟩:=bz.1 (tO q hj);cases e
  rw[qt q] at hj;exact⟨hj,q⟩
 have e2:∀j r,jL A (jB (λ_=>aA) bx) j=az r->jL A (mH σ) j=az r/\∃y,(j,y)∈bx.map λp=>(p.1,(aA:ai R2)):=λj r hj=>by
  obtain⟨x,hx,e⟩:=bF.1 hj;have hm:=pK hx;have:mH σ j=az x:=oE yd hm;exact⟨by show(mH σ j).map _=_;rw[this];exact bh az e,aA,bz.2 ⟨_,hm,rfl⟩⟩
 have H':oz o w S (jL A (mH (aee bx σ))):=H.jM.sub λj r hj=>by
  obtain⟨x,hx,e⟩:=bF.1 hj;show(mH σ j).map _=_;rw[(e1 j x hx).1];exact bh az e
 refine k (H'.wh 0 A) (λw' ⟨S',HL⟩=>⟨A,S,H.wj.2,?_⟩) ⟨⟨A,S,H.size,H.lK,H.env,H.rH,λj x hj=>H.lq j x (e1 j x hj).1,H'.Z1 0 A,λj x hj=>oh (sw hn hj),⟨λj hj=>ay hj (aoE j),λj hj=>ay hj (aoE j)⟩⟩,h0,λj hj=>hj⟩;have hS:∀k,S k->w'.heap[k]?=w.heap[k]?:=λk hk=>HL.sJ.block k (H.jM.pT k hk) λ⟨j',r',q1,q2⟩=>(H'.own j' r' k q1 q2).2.2 hk;exact⟨(H'.back HL).sJ,H.jM.src,λk hk=>bR (H.jM.pT k hk) HL.sJ.size,
  λj r hj=>r.keep S w w' (H.jM.ok j r (e2 j r hj).1) hS λb hb=>HL.sJ.block b (H.jM.own j r b (e2 j r hj).1 hb).2.1 λ⟨j',r',q1,q2⟩=>by
   obtain⟨x,hx,e⟩:=bF.1 q1;have hm:jL A (mH σ) j'=az r':=by show(mH σ j').map _=_;rw[(e1 j' x hx).1];exact bh az e
   have:=H.jM.apart j j' r r' b (e2 j r hj).1 hm hb q2;subst this;exact(e1 j x hx).2 (e2 j r hj).2,
  λj r b hj hb=>let⟨x,y,z⟩:=H.jM.own j r b (e2 j r hj).1 hb;⟨x,bR y HL.sJ.size,z⟩,λi j ri rj b hi hj=>H.jM.apart i j ri rj b (e2 i ri hi).1 (e2 j rj hj).1⟩
theorem aaW {A:jU}{S:jv}{F:ah->Prop}{en:aa (ah×ai E2)}{re:aa (ah×ai R2)}{nx:ah}(h0:∀t e,p7 σ t=az e->e.ch=[])(np:∀j,o.pF j->j<o.kp)(H:kW o n A S F (mN (p7 σ) en) (jB (mH σ) re) a w)(hm:∀j,F j->j<nx):lH o n ⟨yR en++σ.env,re++σ.rs,nx⟩ a w:=by
 have he:∀t e,p7 ⟨yR en++σ.env,re++σ.rs,nx⟩ t=az e->mN (p7 σ) en t=az e/\e.ch=[]:=λt e ht=>zB h0 (by rw[<-vH];exact ht);refine⟨⟨A,S,H.size,H.lK,λt e ht=>H.env t e (he t e ht).1,λt e ht hc=>let q:=H.rH t e (he t e ht).1 hc;⟨Sy.mono hm q.1,q.2⟩,?_,?_,?_,λj hj=>hm j (H.wj.1 j hj),H.wj.2⟩,λt e ht=>(he t e ht).2,np⟩
 all_goals rw[show mH ⟨yR en++σ.env,re++σ.rs,nx⟩=jB (mH σ) re from Rz _ _ _ _]
 .exact λj x hj=>let q:=H.lq j x hj;⟨hm j q.1,R2.mono hm q.2.1,q.2.2⟩
 .exact H.jM
 exact H.args
theorem aaX {pr:Prop}(hn:aa (ah×ak))(k:ah)(u:aO)(h:lH o n σ a w)(hp:pr)(kk:∀a' w',lH o n (amV (fU (QS P T hn n B k σ st)) k σ) a' w'->Q (.panic [{v:=u,recovered:=aD}]) a' w')
  (hu:fO (QS P T hn n B k σ st)= .one (.v u):=by kernel_rfl)
  (h1:(QS P T hn n B k σ st).isSome=aC:=by kernel_rfl) (h2:Cm ((fU (QS P T hn n B k σ st)).flatMap (·.cs))=pr:=by kernel_rfl)
  (h3:∀A w,((fU (QS P T hn n B k σ st)).flatMap (·.hs)).map (λh=>h.lhs A w)=((fU (QS P T hn n B k σ st)).flatMap (·.hs)).map λh=>h.rhs A w:=by intro A w;kernel_rfl):At mo P T B Q st a w:=by
 obtain⟨x,hx⟩:=bS.1 h1;rw[hx] at h2 h3 kk hu;have kO:=vE.1 (show Cm ((fU (az x)).flatMap (·.cs)) by rw[h2];exact hp);have qG:∀y∈(fU (az x)).flatMap (·.hs),∀A w,y.lhs A w=y.rhs A w:=λy hy A w=>oE (h3 A w) hy;clear h1 h2 h3 hp;unfold QS at hx;split at hx
 .rename_i y hy;split at hx
  .rename_i out qH;cases hx;refine Yl h hy kO qG λA' S' F' a' w' H' LR=>?_;unfold acg at qH;split at qH
   .rename_i z nN;obtain⟨q,e1,e2,e3,qH⟩:=jE H' (λl q=>by cases q) qH;split at qH
    .rename_i t v;have e:=jH qH;subst e;have e4:(aG a'.eval y.op).run P w'= .halt (.panic (.iface t v)) w':=by
      simp only[aG,nN];rw[e1];rfl
     unfold Oper.wp;rw[e4];cases hu;exact vb (kk a' w' (aaW h.ch h.np H' λj hj=>Nat.lt_of_not_le λq=>LR j q hj))
    cases qH
   cases qH
  cases hx
 cases hx
theorem ah6 {id:ah}{ops:Array Oper}{d:ak}{pr:Prop}(hn:aa (ah×ak))(h:lH o n σ a w)(hp:pr)(k:∀a' w',lH o n (rS (Hs P T 4096 aC hn n ops d σ)) a' w'->Q .normal a' w')
  (h1:(Hs P T 4096 aC hn n ops d σ).isSome=aC:=by kernel_rfl) (h2:Cm ((rU (Hs P T 4096 aC hn n ops d σ)).flatMap (·.cs))=pr:=by kernel_rfl)
  (h3:∀A w,((rU (Hs P T 4096 aC hn n ops d σ)).flatMap (·.hs)).map (λh=>h.lhs A w)=((rU (Hs P T 4096 aC hn n ops d σ)).flatMap (·.hs)).map λh=>h.rhs A w:=by intro A w;kernel_rfl):(Code.region id ops d).wpIn mo.F 0 P (ye mo Q) (lG a mo.ds) w:=by
 obtain⟨x,hx⟩:=bS.1 h1;rw[hx] at h2 h3 k;exact XT (σ':=x.2) h.i hx (λ_ _=>trivial) (λ_=>⟨λ_=>trivial,λ_=>trivial,rfl⟩) (vE.1 (show Cm ((rU (az x)).flatMap (·.cs)) by rw[h2];exact hp)) (λy hy A w=>oE (h3 A w) hy) λa w h'=>k a w (h'.x h.np)
theorem TA {A:jU}{S:jv}{F:ah->Prop}{kp:ah}(H:kW o n A S F (p7 σ) (mH σ) a w):∀ {l:aa Operand} {cs:aa Sc},aef σ kp l=az cs->l.map a.eval=cs.map (Sc.den A)/\∀c∈cs,scB kp c=aC
 |[],cs,h=>by cases h;exact⟨rfl,λ_ q=>by cases q⟩
 | .tmp t::l,cs,h=>by
  unfold aef at h;split at h
  .rename_i c Ii ht hl;split at h
   .rename_i hc;cases h;obtain⟨i1,i2⟩:=TA H hl;have hv:=(H.env t _ ht).1 (λl hl=>by cases hl);refine⟨?_,λc' Ab=>?_⟩
    .rw[bO,bO,i1]
     congr 1
     show a.tmps.getD t undef=_;rw[cP,show a.tmps[t]?=az (Sc.den A c) from hv];rfl
    rcases bg.1 Ab with rfl|q
    .exact hc
    exact i2 c' q
   cases h
  cases h
 | .const _::_,_,h=>by cases h
 | .global _::_,_,h=>by cases h
 | .func _::_,_,h=>by cases h
theorem Vt (f:ah)(cs0:aa Sc)(kp:ah)(h:lH o n σ a w)
  (k:∀(A:jU) (a:Act) (w:aN),lH (o.AR A kp) n σ a w->At ⟨aA,dfC f cs0 A::mo.ds⟩ P T B (HI (dfC f cs0 A) Q) (tpR (aeg B f kp n σ st)) a w)
  (yJ:mo.ro=aA:=by rfl) (ht:(aeg B f kp n σ st).isSome=aC:=by kernel_rfl) (hc0:tpC (aeg B f kp n σ st)=cs0:=by kernel_rfl) (hna:Ay σ.rs=aC:=by kernel_rfl):At mo P T B Q st a w:=by
 obtain⟨r0,VU⟩:=bS.1 ht;subst hc0;rw[VU] at k;clear ht;unfold aeg at VU;split at VU
 .rename_i p r;split at VU
  .rename_i id ops pG;split at VU
   .rename_i t0 f' fi ca ty1 po1 af1 t ar LW ty2 po2 af2 D7;split at VU
    .rename_i hg;obtain⟨cs,kO,rfl⟩:=bF.1 VU;simp only[bB] at hg;obtain⟨⟨g1,g2⟩,⟨g3,g4⟩,g5,g6,g7,g8⟩:=hg;have g1:=j9 g1;have g2:=j9 g2;subst g1 g2;have g3:fi= #[]:=by rw[<-aoB];exact anF.1 g3
     have g4:ar= #[]:=by rw[<-aoB];exact anF.1 g4
     subst g3 g4;have akZ:ops= #[⟨az t,.makeFunc (.func f') #[] ca,ty1,po1,af1,aA⟩,⟨aA,.defer ⟨.value (.tmp t),#[],LW⟩,ty2,po2,af2,aA⟩]:=by rw[<-aoB,D7]
     subst akZ;have⟨ro,ds⟩:=mo;have yJ:ro=aA:=yJ;subst yJ;obtain⟨⟨A,S,H⟩,h0,np⟩:=h;have htn:t<n:=vq g7;have hse:p7 σ t=aA:=by cases hz:p7 σ t<;>rw[hz] at g6<;>first|rfl|cases g6
     obtain⟨cv,TB⟩:∃cv,ca.map a.eval=cv:=⟨_,rfl⟩;have kO:cv=(cs.map (Sc.den A)).toArray:=by rw[<-TB,<-(TA H kO).1];apply Array.ext';rw[Array.toList_map]
     obtain⟨v,hv⟩:∃v:aO,.func (.func f') #[] cv=v:=⟨_,rfl⟩;have hkp:=Nat.le_of_ble_eq_true g5;have acY:lH (o.AR A kp) n σ (a.put (az t) v) w:=by
      refine⟨⟨A,S,?_,?_,λq e he=>?_,λq e he _=>H.rH q e he (λl hl=>by rw[h0 q e he] at hl;cases hl),H.lq,⟨H.jM.sJ,H.jM.src,H.jM.pT,H.jM.ok,H.jM.own,H.jM.apart⟩,λj x hj=>oh (sw hna hj),λj hj=>bR hj hkp,lQ.refl _ _⟩,h0,λ_ hj=>hj⟩
      .show(a.tmps.setIfInBounds t v).size=n;rw[Array.size_setIfInBounds];exact H.size
      .exact H.lK
      have qD:t≠q:=λz=>by rw[<-z,hse] at he;cases he
      exact zm (by rw[h0 q e he];simpa using λz:q=t=>qD z.symm) (H.env q e he)
     have key:=(k A (a.put (az t) v) w acY).get;have hnd:=H.lK;refine⟨?_⟩;show(sub B p).qP ⟨aA,ds⟩ P (post ⟨aA,ds⟩ P B Q _) a w;rw[pG];refine AM (wpIn_region_list ?_);have e1:(aG (lG a ds).eval ⟨az t,.makeFunc (.func f') #[] ca,ty1,po1,af1,aA⟩).run P w= .ok (.value v) w:=by
      have:ca.map (lG a ds).eval=cv:=by rw[<-TB];congr 1
      simp[aG,this,hv,Instr.makeFunc,go_sem]
     have e2:(aG ((lG a ds).put (az t) v).eval ⟨aA,.defer ⟨.value (.tmp t),#[],LW⟩,ty2,po2,af2,aA⟩).run P w= .ok (.defer (dfC f' cs A)) w:=by
      have:((lG a ds).put (az t) v).eval (.tmp t)= .func (.func f') #[] (cs.map (Sc.den A)).toArray:=by
       show((lG a ds).put (az t) v).tmps.getD t undef=_;rw[cP];show((a.tmps.setIfInBounds t v)[t]?).getD undef=_;rw[Array.getElem?_setIfInBounds,aQ rfl,aQ (by rw[H.size];exact htn),<-hv,kO];rfl
      simp only[aG,resolve,this];simp[go_sem,dfC]
     show wpListIn bK 0 P _ _ [_,_] (lG a ds) w;simp only[wpListIn];rw[aQ (by simp[dh])];refine⟨λ_ _=>trivial,?_⟩;rw[show(bK).round=aA from rfl,arW,e1];simp only[Oper.uponIn_value];rw[aQ (by simp[dh])];refine⟨λ_ _=>trivial,?_⟩;rw[show(bK).round=aA from rfl,arW,e2];simp only[Oper.uponIn_defer];refine⟨lG (a.put (az t) v) [_],?_,xh _ _ _ _ g8 key⟩;simp[lG,Act.put,hnd,tpC]
    cases VU
   cases VU
  cases VU
 cases VU
theorem lH.free {A:jU}{kp:ah}{o:Orig}(h:lH ((jO.of o).AR A kp) n σ a w)(hna:Ay σ.rs=aC):lH (jO.of o) n σ a w:=
 let⟨⟨A,S,H⟩,h0,_⟩:=h
 ⟨⟨A,S,H.size,H.lK,H.env,H.rH,H.lq,⟨H.jM.sJ,H.jM.src,H.jM.pT,H.jM.ok,H.jM.own,H.jM.apart⟩,λj x hj=>oh (sw hna hj),λ_ q=>q.elim,λ_ q=>q.elim⟩,h0,λ_ q=>q.elim⟩
theorem amW {fn:Func}{R:Ending->aN->Prop}(js Ds:aa ah)(d:Deferred)(ch:aa PanicEntry)(h:lH o n σ a w)(hk:∀w',lH o n (js.foldl Ln σ) a w'->LeavesInM bK 2 P fn a.tmps R [d] (.panicking ch) w')
  (hl:lkD js Ds σ:=by first|exact tv|exact⟨by kernel_rfl,tv⟩):AA Ds (HI d (bodyPostM bK 2 P fn R)) (.panic ch) a w:=
 afn (.inr ⟨ch,rfl,rfl⟩) h.ok.choose_spec.choose_spec.lK (zZ (by simp) h hl hk)
theorem ak0 {o:Orig}{A:jU}{kp:ah}{fn:Func}{rs:aa Ty}{R:Ending->aN->Prop}(js Ds:aa ah)(d:Deferred)(hd:QH P d)(y:pq rs)(h:lH ((jO.of o).AR A kp) n σ a w)(hR:∀e w',He o (λS v w'=>qN S w' rs v y) e w'->R e w')
  (hl:lkD js Ds σ:=by first|exact tv|exact⟨by kernel_rfl,tv⟩) (ht:FA B st=aC:=by kernel_rfl) (hy:XY P fn rs (js.foldl Ln σ)=az ⟨y⟩:=by kernel_rfl) (hna:Ay (js.foldl Ln σ).rs=aC:=by kernel_rfl):
  At ⟨aA,Ds.map cD++[d]⟩ P T B (AA Ds (HI d (bodyPostM bK 2 P fn R))) st a w:=
 Oc (λe he=>afn (.inl ⟨he,rfl⟩) h.ok.choose_spec.choose_spec.lK (zZ (by simp) h hl λw' h'=>ahh hd (QG (h'.free hna) hR hy))) ht
end
abbrev Vu:Sc:=.v (.slice aA 0 0)
abbrev nV (x:af):Sc:=.v (.int .i64 x)
abbrev GV (x y:af):aO:=.iface 89 (.agg #[.int .i64 x,.int .i64 y])
abbrev QT (x y:af):aa (ah×ai R2):=[(0,az (.box 39 [nV 0,Vu,Vu,Vu,Vu,Vu,Vu])),(1,az (.box 3 [nV x])),(2,az (.box 34 [nV y]))]
theorem QU (v:aO)(W:aN):(Instr.typeAssert (.iface 89 v) 20 89 aC).run aR W= .ok (.tuple #[v,.bool aC]) W:=by kernel_rfl
theorem Ov {o:jO}{A0:jU}{n nx:ah}{a:Act}{w:aN}{env:aa (ah×ai E2)}(x y:af)(h:lH (o.AR A0 3) n ⟨env,QT 0 0,nx⟩ a w)(PI:Z0 3 env=aC):
  CallsDIn bK 1 aR 32 #[.pointer (az ⟨A0.b 0,0,aA⟩),.pointer (az ⟨A0.b 1,0,aA⟩),.pointer (az ⟨A0.b 2,0,aA⟩)] (.panicking [{v:=GV x y,recovered:=aD}]) w
   λe u w'=>(∃v,e= .returned v)/\settle u= .returning/\lH (o.AR A0 3) n ⟨env,QT x y,nx⟩ a w':=by
 have ef:Tryz.prog.funcs[32]?=az f32:=func32;refine callsDIn_of_wpSIn ef rfl tv λacj cs hu=>?_;apply wpSIn_seq;apply wpSIn_region;simp[wpOpsSIn,go_sem,recoverD,hu,Tryz.ntmps32,an4];apply wpSIn_seq;apply wpSIn_region;simp[wpOpsSIn,go_sem,an4];refine wpSIn_cond (t:=aC) (by simp[dH,eN]) ?_;simp only[if_true];apply wpSIn_seq;apply wpSIn_region;simp[wpOpsSIn,go_sem,an4,QU,GV];apply wpSIn_seq;apply wpSIn_seq;apply wpSIn_region;simp[wpOpsSIn,go_sem,an4];refine wpSIn_cond (t:=aD) (by simp[dH,eN]) ?_;refine wpSIn_of_wpIn rfl (wpIn_skip ?_);simp only[an4];generalize hT:(#[cO (az {block:=A0.b 0,off:=0}),cO (az {block:=A0.b 1,off:=0}),cO (az {block:=A0.b 2,off:=0})]++_:Array aO)=tm;have hts:tm.size=22:=by rw[<-hT];simp
 have g0:tm[0]?=az (.pointer (az ⟨A0.b 0,0,aA⟩)):=by rw[<-hT];simp
 have g1:tm[1]?=az (.pointer (az ⟨A0.b 1,0,aA⟩)):=by rw[<-hT];simp
 have g2:tm[2]?=az (.pointer (az ⟨A0.b 2,0,aA⟩)):=by rw[<-hT];simp
 have g4:tm[4]?=az (.pointer (az ⟨w.heap.size,0,aA⟩)):=by rw[<-hT];simp
 clear hT;obtain⟨⟨A,S,H⟩,h0,np⟩:=h;have hA:lQ (· <3) A0 A:=H.wj.2;have wg:=Cc (σ:=⟨env,QT 0 0,nx⟩) H rfl PI;have H1:kW (o.AR A0 3) 22 A S (· <3) (λ_=>aA) (jB (λ_=>aA) (QT 0 0)) {tmps:=tm,defers:=[]} w:=
  ⟨hts,rfl,λ_ _ q=>(by cases q),λ_ _ q=>(by cases q),Lo (env:=[]) (kp:=3) (nx:=3) rfl (λ_ q=>q) A,H.jM,λj x hj=>oh (sw (σ:=⟨[],QT 0 0,0⟩) rfl hj),λj hj=>hj,hA⟩
 have H2:=H1.new (b:=3) (p:=aA) (m:=0) (c:=0) (x:=.cells #[.int .i64 x,.int .i64 y] 89) (y:=.box 89 [nV x,nV y]) (Nat.lt_irrefl 3) (by
   show(w.alloc _).heap[(A.set 3 aA 0 0 w.heap.size).b 3]?=_;rw[jU.Al];exact heap_alloc_new w _) (λk hk=>by have hk:az ((A.set 3 aA 0 0 w.heap.size).b 3)=az k:=hk;rw[jU.Al] at hk;cases hk;rfl)
  (λc hc=>by simp only[bg,aod,or_false] at hc;rcases hc with rfl|rfl<;>trivial) rfl (λc hc=>by simp only[bg,aod,or_false] at hc;rcases hc with rfl|rfl<;>trivial)
 have hb3:∀j,j<3->(A.set 3 aA 0 0 w.heap.size).b j=A0.b j:=λj hj=>(H2.wj.2 j hj).2.1.symm;have hm:∀t e,p7 ⟨[(0,ep 0),(1,ep 1),(2,ep 2),(4,ep 3)],(3,az (.box 89 [nV x,nV y]))::QT 0 0,4⟩ t=az e->∃j,j<4/\e=⟨[],.one (.ptr j 0)⟩/\tm[t]?=az (.pointer (az ⟨(A.set 3 aA 0 0 w.heap.size).b j,0,aA⟩)):=λt e he=>by
  have hm:=(uJ he).resolve_left λq=>by cases q
  simp only[bg,aod,or_false,Prod.mk.injEq,cr] at hm;rcases hm with⟨rfl,rfl⟩|⟨rfl,rfl⟩|⟨rfl,rfl⟩|⟨rfl,rfl⟩
  .exact⟨0,by decide,rfl,by rw[hb3 0 (by decide)];exact g0⟩
  .exact⟨1,by decide,rfl,by rw[hb3 1 (by decide)];exact g1⟩
  .exact⟨2,by decide,rfl,by rw[hb3 2 (by decide)];exact g2⟩
  exact⟨3,by decide,rfl,by rw[jU.Al];exact g4⟩
 have O5:lH (o.AR A0 3) 22 ⟨[(0,ep 0),(1,ep 1),(2,ep 2),(4,ep 3)],(3,az (.box 89 [nV x,nV y]))::QT 0 0,4⟩ {tmps:=tm,defers:=[]} (w.alloc (.cells #[.int .i64 x,.int .i64 y] 89)):=
  ⟨⟨_,S,hts,rfl,λt e he=>by obtain⟨j,_,rfl,q⟩:=hm t e he;exact⟨λ_=>q,λhn=>(hn λl hl=>by cases hl).elim⟩,λt e he _=>by obtain⟨j,q,rfl,_⟩:=hm t e he;exact⟨q,tv⟩,
   Lo (kp:=4) rfl (λ_ q=>q) _,H2.jM,H2.args,λj hj=>Nat.lt_succ_of_lt hj,H2.wj.2⟩,λt e he=>by obtain⟨j,_,rfl,_⟩:=hm t e he;rfl,λ_ q=>q⟩
 refine wpSIn_of_wpIn rfl (wpIn_wide.2 ((wpIn_wide (n:=0)).1 (wpIn_mono (Q:=ye pl λe a' w'=>e= .normal/\a'.defers=[]/\lH (o.AR A0 3) n ⟨env,QT x y,nx⟩ a w') ?_ ?_)))
 .refine ah6 (mo:=pl) (T:=[]) [] O5 tv λa' w' h'=>?_;obtain⟨⟨A',S',K⟩,_,_⟩:=(ud (σ':=⟨[],QT x y,3⟩) [(0,az 0),(1,az 1),(2,az 2)] h' (by delta lN;kernel_rfl) (by delta mQ;kernel_rfl) (by kernel_rfl) (by kernel_rfl):lH (o.AR A0 3) 22 ⟨[],QT x y,3⟩ a' w');have hA':lQ (· <3) A A':=λj hj=>let p:=hA j hj;let q:=K.wj.2 j hj;⟨p.1.symm.trans q.1,p.2.1.symm.trans q.2.1,p.2.2.1.symm.trans q.2.2.1,p.2.2.2.symm.trans q.2.2.2⟩
  exact⟨rfl,K.lK,⟨A',S',H.size,H.lK,λt e he=>(wg t e he).2.2.2 A' hA',λt e he _=>⟨Sy.mono H.wj.1 (wg t e he).2.1,(wg t e he).2.2.1 A'⟩,Lo (kp:=3) rfl H.wj.1 A',K.jM,K.args,H.wj.1,K.wj.2⟩,λt e he=>(wg t e he).1,np⟩
 rintro e a' w' ⟨a0,ea,rfl,hd,hO⟩;have ea:a'=lG a0 []:=ea;rw[yS] at ea;subst ea;exact⟨hd,_,rfl,_,by simp[results,Tryz.results32];rfl,⟨_,rfl⟩,rfl,hO⟩
def Vv (ls:aa (af×aj)):RS:=ls.foldl (λs x=>mU s (mc x.2)) MV
theorem Ow (ls:aa (af×aj))(x:af×aj):Vv (ls++[x])=mU (Vv ls) (mc x.2):=by
 unfold Vv;rw[List.foldl_append];rfl
def sC (sx:aj):RS:=Vv (nu sx)
theorem uI {w:aj}(h:(aE (w.size≠0) && (kY w 0).all λx=>aE (cls x.2≠4) && aE (x.2≠10) && aE (x.2≠65533) && (!decide (cls x.2=0)||yh x.2))=aC):okW w:=by
 rw[bB,List.all_eq_true] at h;refine⟨bq h.1,λx hx=>?_⟩;have:=h.2 x hx;simp only[bB,e7,decide_eq_true_eq,Bool.not_eq_true',decide_eq_false_iff_not] at this;obtain⟨⟨⟨a,b⟩,c⟩,d⟩:=this;exact⟨a,b,c,λe=>d.elim (λz=>ay e z) id⟩
theorem aaY:okW wZ:=uI (by kernel_rfl)
theorem aaZ:okW uv:=uI (by kernel_rfl)
theorem aa0:okW yl:=uI (by kernel_rfl)
theorem aa1:okW R8:=uI (by kernel_rfl)
theorem aeh:okW Zd:=uI (by kernel_rfl)
theorem aei:okW Ze:=uI (by kernel_rfl)
theorem Ox:okW uw:=uI (by kernel_rfl)
theorem ah7:okW wAr:=uI (by kernel_rfl)
theorem ah8:okW wRg:=uI (by kernel_rfl)
theorem ah9 (x:af):okW (kE x):=by grind [kE,aeh,aei,aa1]
section
variable {K:af}{W:aa aj}{E:aa mS}{V L:aa af}{T S:aa (aa af)}
theorem aa2 (hw:∀j:ah,j<W.length->kN (W.getD j b0)=aC)(he:∀j:ah,j<E.length->kN (E.getD j mK).1=aC){d:af}(hd:Ag W E d):okW (sj W E d):=by
 unfold Ag at hd;unfold sj
 by_cases h0:d<0
 .rw[aQ h0,aQ (by omega)];exact ry (hw _ (by omega))
 grind [Zx,Va]
theorem aia (h:nS K W E V L T S=0):∀ws∈Db K W E V L T S (hE E L),∀w∈ws,okW w:=by
 have hw:=Lb h;have he:=Lc h;have A:∀ws∈kL K++W.flatMap fV++E.flatMap (fE W),∀w∈ws,okW w:=λws hs w hm=>by
  rw[bE,bE] at hs;rcases hs with(hs|hs)|hs
  .unfold kL at hs;rw[aU.1 hs] at hm;rw[aU.1 hm];split
   .exact aaY
   exact aaZ
  .obtain⟨v,hv,hs⟩:=cQ.1 hs;obtain⟨j,hj,rfl⟩:=jJ (z:=b0).1 hv;rw[aU.1 hs] at hm;rcases bg.1 hm with rfl|hm
   .exact aa0
   rw[aU.1 hm];exact ry (hw j hj)
  obtain⟨e,hv,hs⟩:=cQ.1 hs;obtain⟨j,hj,rfl⟩:=jJ (z:=mK).1 hv;obtain⟨⟨a0,a1⟩,⟨b0_,b1⟩,_⟩:=Df h j hj;rw[aU.1 hs] at hm;simp only[bg,aod,or_false] at hm;rcases hm with rfl|rfl|rfl|rfl
  .exact ah9 _
  .exact ry (he j hj)
  .exact ry (hw _ (by omega))
  exact ry (hw _ (by omega))
 rcases De h with hk|hk
 .rw[UZ hk];obtain⟨o1,o2⟩:=KT h hk;intro ws hs w hm;rcases bE.1 hs with hs|hs
  .exact A ws hs w hm
  unfold EE at hs;rw[bE,bE,bE] at hs;rcases hs with((hs|hs)|hs)|hs
  .obtain⟨e,hv,hs⟩:=cQ.1 hs;have:=o2 e hv;rw[aU.1 hs] at hm;rcases bg.1 hm with rfl|hm
   .exact Ox
   rw[aU.1 hm];exact ry (he _ (by omega))
  .obtain⟨v,hv,hs⟩:=cQ.1 hs;have:=o1 v hv;unfold fW at hs;split at hs
   .cases hs
   rw[aU.1 hs] at hm;rcases bg.1 hm with rfl|hm
   .exact Ox
   rw[aU.1 hm];exact ry (hw _ (by omega))
  .obtain⟨v,hv,hs⟩:=cQ.1 hs;have:=o1 v hv;unfold fA at hs;split at hs
   .rw[aU.1 hs] at hm;rcases bg.1 hm with rfl|hm
    .exact ah7
    rcases bg.1 hm with rfl|hm
    .exact ry (hw _ (by omega))
    obtain⟨d,hd,rfl⟩:=bz.1 hm;have:=ZH h hk v hv d (tf.1 hd);exact aa2 hw he (by unfold Ag;omega)
   cases hs
  obtain⟨l,hl,hs⟩:=cQ.1 hs;rw[aU.1 hs] at hm;rcases bg.1 hm with rfl|hm
  .exact ah8
  obtain⟨d,hd,rfl⟩:=bz.1 hm;exact aa2 hw he ((SL h hk l hl).2 d hd)
 rw[U0 (by omega)];exact A
end
theorem Le.mono {s:RS}{n m:ah}(h:Le s n)(hm:n<=m):Le s m:=
 ⟨h.nm,bC h.sz hm,bC h.hv (aoV _ hm),bC h.he hm,bC h.tu hm,bC h.S hm,h.ed⟩
def Vw (s:RS)(x:af×aj):RS:=mU s (mc x.2)
theorem aib {s t:RS}{ls:aa (aa aj)}(h:qK s ls t):∀(xs:aa (af×aj)) (n:ah),xs.map (λx=>(mc x.2).map (·.2))=ls->Le s n->n+xs.length<=100000->
  xs.foldl Vw s=t/\∀pre x rest,pre++x::rest=xs->Le (pre.foldl Vw s) 100000/\Ld (pre.foldl Vw s) (mc x.2):=by
 induction h with
 |nil s=>
  intro xs n e hR hn;cases xs with
  |nil=>exact⟨rfl,λpre x rest q=>by cases pre<;>cases q⟩
  |cons _ _=>cases e
 |cons G9 hr ih=>
  intro xs n e hR hn;cases xs with
  |nil=>cases e
  |cons x xs=>
   obtain⟨e1,e2⟩:=eZ e;obtain⟨ho,hx⟩:=Vm e1 G9;rw[b7] at hn;have hR2:=hR.next (by omega) ho;rw[hx] at hR2;obtain⟨k1,k2⟩:=ih xs (n+1) e2 hR2 (by omega);refine⟨by show xs.foldl Vw (mU _ (mc x.2))=_;rw[hx];exact k1,?_⟩;intro pre y rest q;cases pre with
   |nil=>cases q;exact⟨hR.mono (by omega),ho⟩
   |cons p pre=>
    obtain⟨q1,q2⟩:=eZ q;subst q1;show Le (pre.foldl Vw (mU _ (mc p.2))) _/\Ld (pre.foldl Vw (mU _ (mc p.2))) _;rw[hx];exact k2 pre y rest q2
theorem TC:∀(ls:aa (aa aj)) (p:ah),(poL p ls).length=ls.length
 |[],_=>rfl
 |ws::ls,p=>by show(poL _ ls).length+1=_;rw[TC ls];rfl
theorem TD:∀(ws:aa aj) (p:ah),(poW p ws).map (·.2)=ws
 |[],_=>rfl
 |w::ws,p=>by show w::(poW _ ws).map (·.2)=_;rw[TD ws]
theorem TE:∀(ls:aa (aa aj)) (p:ah),(∀ws∈ls,∀w∈ws,okW w)->(poL p ls).map (λx=>(mc x.2).map (·.2))=ls
 |[],_,_=>rfl
 |ws::ls,p,h=>by
  show(mc (jG ws vP)).map (·.2)::(poL _ ls).map (λx=>(mc x.2).map (·.2))=_;rw[Qs (h ws aZ),TD,TE ls _ λws hw=>h ws (bl _ hw)]
theorem aa3:∀ls:aa (aa aj),ls.length<=Cr ls
 |[]=>aW _
 |ws::ls=>by
  have e:Cr (ws::ls)=(jG ws vP).size+1+Cr ls:=rfl;have:=aa3 ls;rw[b7,e];omega
theorem QV {l:aa (af×aa af)}{N:ah}(h:∀w∈l,w.2.length<=N):(l.flatMap (·.2)).length<=l.length*N:=by
 induction l with
 |nil=>exact bQ _
 |cons w l ih=>
  rw[dc,bA,b7,Nat.add_mul,Nat.one_mul];have a:=ih λw hw=>h w (bl _ hw);have b:=h w aZ;omega
section
variable {K:af}{W:aa aj}{E:aa mS}{V L:aa af}{T S:aa (aa af)}{ha hb:aa (af×Unit)}{tu:aa (af×aa af)}
theorem aic (h:(kS K W E V L T S).2=0):T.length=0:=by
 unfold kS at h;split at h
 .split at h
  .cases h
  omega
 cases h
end
section
variable {K:af}{W:aa aj}{E:aa mS}{V L:aa af}{T S:aa (aa af)}
end
theorem zk (s:aj){a b:af}(h0:0<=a)(h1:a<=b)(h2:b<=(s.size:af)):((s.extract a.toNat b.toNat).size:af)=b-a:=by
 rw[ByteArray.size_extract];omega
def Jx (l:aa (af×aj)):ah:=(l.map λx=>x.2.size+1).sum
theorem xj (x:af×aj)(l:aa (af×aj)):Jx (x::l)=x.2.size+1+Jx l:=rfl
theorem TF (l m:aa (af×aj)):Jx (l++m)=Jx l+Jx m:=by unfold Jx;rw[cA,aoD]
theorem z8:∀l:aa (af×aj),l.length<=Jx l
 |[]=>aW _
 |x::l=>by have:=z8 l;rw[xj,b7];omega
theorem QW (s:aj):∀(f i:ah) (fr:af),0<=fr->fr<=(i:af)->i+f=s.size->(Jx ((DU s f i fr).map (A8 s)):af)<=s.size-fr+1
 |0,i,fr,h0,h1,h2=>by
  simp only[DU];split
  .have:=zk s h0 (b:=(s.size:af)) (by omega) (bM _);rw[bO,cC,xj];show(((s.extract fr.toNat (s.size:af).toNat).size+1+0:ah):af)<=_;omega
  show((0:ah):af)<=_;omega
 |f+1,i,fr,h0,h1,h2=>by
  simp only[DU];split
  .have:=QW s f (i+1) ((i:af)+1) (by omega) (by omega) (by omega);have e:=zk s h0 h1 (by omega);rw[bO,xj];show(((s.extract fr.toNat (i:af).toNat).size+1+Jx ((DU s f (i+1) ((i:af)+1)).map (A8 s)):ah):af)<=_;omega
  exact QW s f (i+1) fr h0 (by omega) (by omega)
theorem Oy (s:aj):Jx (nu s)<=s.size+1:=by
 have:=QW s s.size 0 0 (by omega) (by omega) (by omega);have e:nu s=(DU s s.size 0 0).map (A8 s):=rfl;rw[e];omega
theorem GX {s:aj}{x:af×aj}(h:x∈nu s):0<=x.1/\x.1+(x.2.size:af)<=s.size:=by
 obtain⟨c,hc,rfl⟩:=bz.1 h;obtain⟨h0,h1,h2⟩:=Qr s s.size 0 0 (by omega) (by omega) (by omega) c hc;have:=zk s h0 h1 h2;exact⟨h0,by show c.1+((s.extract c.1.toNat c.2.toNat).size:af)<=_;omega⟩
theorem Oz (s:aj):∀(f pos:ah) (b:af) (acc:aa (af×aj)),s.size-pos<=f->pos<=s.size->b<=(pos:af)->∃r,sI s (kY s pos) b acc=acc++r/\(∀x∈r,0<=x.1/\x.1+(x.2.size:af)<=s.size)/\(Jx r:af)<=s.size-(if 0<=b then b else pos)+1
 |f,pos,b,acc,hf,hp,hb=>by
  by_cases hq:pos<s.size
  .have hw:=oS s pos hq;have Et:=Jj hq;obtain⟨f,rfl⟩:∃g,f=g+1:=⟨f-1,by omega⟩;rw[jN s pos hq];simp only[sI];split
   .by_cases h0:0<=b
    .rw[aQ h0,aQ h0];obtain⟨r,e1,e2,e3⟩:=Oz s f (pos+(bn s pos).2) (-1) (acc++[(b,s.extract b.toNat ((pos:af)).toNat)]) (by omega) Et (by omega);have e:=zk s h0 hb (by omega);rw[aP (by omega)] at e3;refine⟨(b,s.extract b.toNat ((pos:af)).toNat)::r,by rw[e1,cx];rfl,λx hx=>?_,by rw[xj];show(((s.extract b.toNat (pos:af).toNat).size+1+Jx r:ah):af)<=_;omega⟩;rcases bg.1 hx with rfl|hx
     .exact⟨h0,by show b+((s.extract b.toNat (pos:af).toNat).size:af)<=_;omega⟩
     exact e2 x hx
    rw[aP h0,aP h0];obtain⟨r,e1,e2,e3⟩:=Oz s f (pos+(bn s pos).2) b acc (by omega) Et (by omega);rw[aP h0] at e3;exact⟨r,e1,e2,by omega⟩
   by_cases h0:b<0
   .rw[aQ h0,aP (by omega)];obtain⟨r,e1,e2,e3⟩:=Oz s f (pos+(bn s pos).2) (pos:af) acc (by omega) Et (by omega);rw[aQ (by omega)] at e3;exact⟨r,e1,e2,e3⟩
   rw[aP h0,aQ (by omega)];obtain⟨r,e1,e2,e3⟩:=Oz s f (pos+(bn s pos).2) b acc (by omega) Et (by omega);rw[aQ (by omega)] at e3;exact⟨r,e1,e2,e3⟩
  rw[lB s pos hq];simp only[sI]
  by_cases h0:0<=b
  .rw[aQ h0,aQ h0];have e:=zk s h0 (b:=(s.size:af)) (by omega) (bM _);rw[dw] at e;refine⟨[(b,s.extract b.toNat s.size)],rfl,λx hx=>?_,by show(((s.extract b.toNat s.size).size+1+0:ah):af)<=_;omega⟩;rw[aU.1 hx];exact⟨h0,by show b+((s.extract b.toNat s.size).size:af)<=_;omega⟩
  rw[aP h0,aP h0];exact⟨[],(bW _).symm,λx hx=>(by cases hx),by show((0:ah):af)<=_;omega⟩
theorem GY (s:aj):(∀x∈mc s,0<=x.1/\x.1+(x.2.size:af)<=s.size)/\Jx (mc s)<=s.size+1:=by
 obtain⟨r,e1,e2,e3⟩:=Oz s s.size 0 (-1) [] (by omega) (bQ _) (by omega);rw[aP (by omega)] at e3;have e:mc s=r:=by unfold mc;rw[e1];rfl
 rw[e];exact⟨e2,by omega⟩
theorem amX {s:aj}{x:af×aj}(hs:s.size<=65536)(h:x∈nu s):LnB x.1 (mc x.2):=by
 obtain⟨h0,h1⟩:=GX h;obtain⟨w1,w2⟩:=GY x.2;have:=z8 (mc x.2);refine⟨h0,by omega,by omega,λi hi=>?_⟩;have:=w1 _ (jz (d:=((0:af),(⟨#[]⟩:aj))) hi);omega
def Jy (W:aa aj):ah:=(W.map λv=>v.size+8).sum
def HO (W:aa aj)(E:aa mS):ah:=(E.map λe=>e.1.size+(W.getD e.2.1.toNat b0).size+(W.getD e.2.2.1.toNat b0).size+8).sum
def Dq (nW nE n:ah)(l:aa af):Prop:=l.length<=n/\∀d∈l,-(nW:af)<=d/\d<2*(nE:af)
theorem Dq.up {nW nE n mW mE m:ah}{l:aa af}(h:Dq nW nE n l)(h1:nW<=mW)(h2:nE<=mE)(h3:n<=m):Dq mW mE m l:=⟨bC h.1 h3,λd hd=>by have:=h.2 d hd;omega⟩
structure Jz (s:RS)(n:ah):Prop where
 wt:Jy s.W+HO s.W s.E<=n
 nm:∀x k,p6 s.m x=az k->(-(s.W.length:af)<=k/\k<(s.E.length:af))/\(k<0->s.W.getD (-1-k).toNat b0=x)
 nW:∀j:ah,j<s.W.length->kN (s.W.getD j b0)=aC
 nE:∀j:ah,j<s.E.length->kN (s.E.getD j mK).1=aC
 ed:∀e∈s.E,(0<=e.2.1/\e.2.1<(s.W.length:af))/\0<=e.2.2.1/\e.2.2.1<(s.W.length:af)
 kd:s.k=0\/s.k=1
 cs:s.k=0->∀e∈s.E,e.2.2.2=0
 rV:v7 s.hv
 rL:v7 s.he
 hv:∀x∈k1 s.hv,0<=x/\x<(s.W.length:af)
 he:∀x∈k1 s.he,0<=x/\x<(s.E.length:af)
 tu:∀v l,jr s.tu v=az l->(0<=v/\v<(s.W.length:af))/\Dq s.W.length s.E.length n l
 S:∀l∈s.S,2<=l.length/\Dq s.W.length s.E.length n l
theorem Jz.zero:Jz MV 0:=⟨aW _,λx k h=>(by cases h),λj h=>(by cases h),λj h=>(by cases h),λj h=>(by cases h),.inl rfl,λ_ j h=>(by cases h),EG,EG,λx h=>(by cases h),λx h=>(by cases h),λv l h=>(by cases h),λl h=>by cases h⟩
theorem Jz.up {s:RS}{n m:ah}(h:Jz s n)(hm:n<=m):Jz s m:=⟨bC h.wt hm,h.nm,h.nW,h.nE,h.ed,h.kd,h.cs,h.rV,h.rL,h.hv,h.he,λv l q=>⟨(h.tu v l q).1,(h.tu v l q).2.up (aW _) (aW _) hm⟩,λl q=>⟨(h.S l q).1,(h.S l q).2.up (aW _) (aW _) hm⟩⟩
theorem LD {α:Type}{l:aa α}{x d:α}{j:ah}(h:j<l.length):(l++[x]).getD j d=l.getD j d:=by
 rw[bD,bD,List.getElem?_append_left h]
theorem OA {α:Type}(l:aa α)(x d:α):(l++[x]).getD l.length d=x:=by
 rw[bD,dP (aW _),dx];rfl
theorem TG {α:Type}{l:aa α}{x d:α}{Q:α->Prop}(h:∀j:ah,j<l.length->Q (l.getD j d))(hx:Q x)(j:ah)(hj:j<(l++[x]).length):Q ((l++[x]).getD j d):=by
 by_cases q:j<l.length
 .rw[LD q];exact h j q
 have:j=l.length:=by rw[bA] at hj;simp at hj;omega
 subst this;rw[OA];exact hx
theorem EM {m:aa (af×Unit)}{y:af}{Q:af->Prop}(h:∀x∈k1 m,Q x)(hy:Q y):∀x∈k1 (kZ m y ()),Q x:=λx hx=>by
 have hx:=GF.2 hx;rw[lF] at hx;split at hx
 .rename_i e;rw[<-e];exact hy
 exact h x (GF.1 hx)
theorem aa4 {W:aa aj}{E:aa mS}(w:aj)(h:∀e∈E,(0<=e.2.1/\e.2.1<(aM W:af))/\0<=e.2.2.1/\e.2.2.1<(aM W:af)):HO (W++[w]) E=HO W E:=by
 unfold HO
 congr 1
 refine dm λe he=>?_;have:=h e he;rw[LD (by omega),LD (by omega)]
theorem wd2 {ws:v8}(h:ws.length=2):Jx ws=(lT ws 0).size+(lT ws 1).size+2:=by
 match ws,h with
 |[a,b],_=>show a.2.size+1+(b.2.size+1+0)=a.2.size+b.2.size+2;omega
theorem wd4 {ws:v8}(h:ws.length=4):Jx ws=(lT ws 0).size+(lT ws 1).size+(lT ws 2).size+(lT ws 3).size+4:=by
 match ws,h with
 |[a,b,c,d],_=>show a.2.size+1+(b.2.size+1+(c.2.size+1+(d.2.size+1+0)))=a.2.size+b.2.size+c.2.size+d.2.size+4;omega
theorem ak1 {k:af}{w:aj}(h1:(kV k w).2=aC)(h:(kV k w).1=0):w=yl:=by
 unfold kV at h h1
 repeat' split at h
 all_goals first|assumption|(exfalso;revert h;decide)|skip
 all_goals simp_all
theorem ak2 {k:af}{w:aj}(h1:(kV k w).2=aC)(h:(kV k w).1=1):4<=w.size/\(k=0->Vj w=0):=by
 unfold kV at h h1
 by_cases a:w=yl
 .rw[aQ a] at h;exact ay h (by decide)
 by_cases b:w=R8
 .subst b;exact⟨by decide,λ_=>rfl⟩
 by_cases c:w=Zd
 .subst c;refine⟨by decide,λe=>?_⟩;subst e;exact ay h1 (by decide)
 by_cases d:w=Ze
 .subst d;refine⟨by decide,λe=>?_⟩;subst e;exact ay h1 (by decide)
 rw[aP a,aP b,aP c,aP d] at h
 repeat' split at h
 all_goals simp at h
section
variable {s:RS}{n:ah}(h:Jz s n)
include h
theorem Jz.ky {vx:ak}{x:aj}(hx:ov s.m vx x): -(s.W.length:af)<=uG s.m x/\uG s.m x<2*(s.E.length:af):=by
 have⟨k,hk,hs⟩:=hx.some;obtain⟨⟨h1,h2⟩,_⟩:=h.nm _ _ hk;unfold uG;rw[hk];split
 .rename_i q;have:k<0:=hs.2 q;exact⟨h1,by show k<_;omega⟩
 rename_i q;have:¬k<0:=λz=>q (hs.1 z);split
 .exact⟨by show _<=2*k+1;omega,by show 2*k+1<_;omega⟩
 exact⟨by show _<=2*k;omega,by show 2*k<_;omega⟩
theorem Jz.kys {vx:ak}{ws:v8}{k m:ah}(hm:Jx ws<=m)(hk:∀i,k<=i->i<ws.length->ov s.m vx (lT ws i)):Dq s.W.length s.E.length (n+m) ((ws.drop k).map λp=>uG s.m p.2):=by
 refine⟨by have:=z8 ws;rw[bH,b9];omega,λd hd=>?_⟩;obtain⟨p,hp,rfl⟩:=bz.1 hd;obtain⟨i,hi,e⟩:=List.mem_iff_getElem.1 hp;rw[b9] at hi;rw[List.getElem_drop] at e;have hq:=hk (k+i) (by omega) (by omega);have e2:lT ws (k+i)=p.2:=by
  show(ws.getD (k+i) (0,⟨#[]⟩)).2=_;rw[bD,bN (by omega),e];rfl
 rw[e2] at hq;exact h.ky hq
theorem Jz.next {ws:v8}{m:ah}(hm:Jx ws<=m)(hk:Ld s ws):Jz (mU s ws) (n+m):=by
 have hu:=h.up (Nat.le_add_right n m);unfold mU
 by_cases hb:s.b=aD
 .rw[aQ hb];refine⟨hu.wt,hu.nm,hu.nW,hu.nE,hu.ed,?_,?_,hu.rV,hu.rL,hu.hv,hu.he,hu.tu,hu.S⟩
  .by_cases q:lT ws 0=uv
   .exact .inr (aQ q)
   have e:(nxK s ws).k=s.k:=aP q;rw[e];exact h.kd
  by_cases q:lT ws 0=uv
  .have e:(nxK s ws).k=1:=aQ q;rw[e];intro z;cases z
  have e:(nxK s ws).k=s.k:=aP q;rw[e];exact h.cs
 rw[aP hb];obtain⟨hs1,_,ho⟩:=ZN hk (by cases q:s.b with|true=>rfl|false=>exact ay q hb);have hr:=SP s.k (lT ws 0);rcases(show(kV s.k (lT ws 0)).1=0\/(kV s.k (lT ws 0)).1=1\/(kV s.k (lT ws 0)).1=2\/(kV s.k (lT ws 0)).1=3\/(kV s.k (lT ws 0)).1=4 by omega) with q|q|q|q|q
 .obtain⟨o1,o2,o3⟩:=aj7 ho q;have e0:=ak1 hs1 q;rw[q];show Jz (nxV s ws) _;have hl:(s.W++[lT ws 1]).length=s.W.length+1:=by rw[bA];rfl
  refine⟨?_,λx k hx=>?_,λj hj=>TG (Q:=λz=>kN z=aC) h.nW o2 j hj,hu.nE,λe he=>?_,hu.kd,hu.cs,hu.rV,hu.rL,λx hx=>?_,hu.he,λv l hv=>?_,λl rI=>?_⟩
  .show Jy (s.W++[lT ws 1])+HO (s.W++[lT ws 1]) s.E<=_;have:=h.wt;have w:=wd2 o1;rw[e0] at w;have e6:yl.size=6:=rfl;rw[aa4 _ h.ed];have:Jy (s.W++[lT ws 1])=Jy s.W+((lT ws 1).size+8):=by unfold Jy;rw[cA,aoD];simp
   omega
  .have hx:p6 (vZ s.m (lT ws 1) (-1-(s.W.length:af))) x=az k:=hx;rw[y8] at hx;show(-((s.W++[lT ws 1]).length:af)<=k/\_)/\(_->(s.W++[lT ws 1]).getD _ b0=x);rw[hl];split at hx
   .rename_i e;cases hx;refine⟨⟨by omega,by show -1-(s.W.length:af)<(s.E.length:af);omega⟩,λ_=>?_⟩;rw[show(-1-(-1-(s.W.length:af))).toNat=s.W.length by omega,OA];exact e
   obtain⟨⟨a,b⟩,c⟩:=h.nm x k hx;refine⟨⟨by omega,b⟩,λz=>?_⟩;rw[LD (by omega)];exact c z
  .have:=h.ed e he;show(0<=_/\_<((s.W++[lT ws 1]).length:af))/\0<=_/\_<((s.W++[lT ws 1]).length:af);rw[hl];omega
  .have:=h.hv x hx;show 0<=x/\x<((s.W++[lT ws 1]).length:af);rw[hl];omega
  .obtain⟨a,b⟩:=hu.tu v l hv;show(0<=v/\v<((s.W++[lT ws 1]).length:af))/\Dq (s.W++[lT ws 1]).length _ _ l;rw[hl];exact⟨by omega,b.up (by omega) (aW _) (aW _)⟩
  obtain⟨a,b⟩:=hu.S l rI;show 2<=l.length/\Dq (s.W++[lT ws 1]).length _ _ l;rw[hl];exact⟨a,b.up (by omega) (aW _) (aW _)⟩
 .obtain⟨o1,o2,o3,⟨o4,o5⟩,o6,o7⟩:=aj8 ho q;obtain⟨e4,e5⟩:=ak2 hs1 q;rw[q];show Jz (nxE s ws) _;obtain⟨ka,hka⟩:=bS.1 o4;obtain⟨kb,VM⟩:=bS.1 o6;have ga:zY s.m (lT ws 2)=ka:=by show(jo (k:=.str) s.m (lT ws 2)).getD 0=_;rw[hka];rfl
  have gb:zY s.m (lT ws 3)=kb:=by show(jo (k:=.str) s.m (lT ws 3)).getD 0=_;rw[VM];rfl
  rw[ga] at o5;rw[gb] at o7;obtain⟨⟨a1,a2⟩,a3⟩:=h.nm _ _ hka;obtain⟨⟨b1,b2⟩,b3⟩:=h.nm _ _ VM;have a3:=a3 o5;have b3:=b3 o7;generalize hE':s.E++[(lT ws 1,(-1-zY s.m (lT ws 2),(-1-zY s.m (lT ws 3),Vj (lT ws 0))))]=E';rw[ga,gb] at hE';have hl:E'.length=s.E.length+1:=by rw[<-hE',bA];rfl
  have qn:∀e∈E',e∈s.E\/e=(lT ws 1,(-1-ka,(-1-kb,Vj (lT ws 0)))):=λe he=>by rw[<-hE'] at he;rcases bE.1 he with z|z;exact .inl z;exact .inr (aU.1 z)
  have Ut:nxE s ws={s with t:=1,E:=E',m:=nG (k:=.str) s.m (lT ws 1) (s.E.length:af)}:=by unfold nxE;rw[ga,gb,hE']
  rw[Ut];refine⟨?_,λx k hx=>?_,hu.nW,λj hj=>?_,λe he=>?_,hu.kd,λz e he=>?_,hu.rV,hu.rL,hu.hv,λx hx=>?_,λv l hv=>?_,λl rI=>?_⟩
  .show Jy s.W+HO s.W E'<=_;have:=h.wt;have w:=wd4 o1;have:HO s.W E'=HO s.W s.E+((lT ws 1).size+(lT ws 2).size+(lT ws 3).size+8):=by
    rw[<-hE'];unfold HO;rw[cA,aoD,bO,cC,a3,b3];simp
   omega
  .have hx:p6 (vZ s.m (lT ws 1) (s.E.length:af)) x=az k:=hx;rw[y8] at hx;show(_/\k<(aM E':af))/\_;rw[hl];split at hx
   .cases hx;exact⟨⟨by show -(s.W.length:af)<=(s.E.length:af);omega,by omega⟩,λz=>by omega⟩
   obtain⟨⟨a,b⟩,c⟩:=h.nm x k hx;exact⟨⟨a,by omega⟩,c⟩
  .have hj:j<E'.length:=hj;rw[<-hE'] at hj ⊢;exact TG (Q:=λz:mS=>kN z.1=aC) h.nE o2 j hj
  .rcases qn e he with z|rfl
   .exact h.ed e z
   exact⟨⟨by show 0<=-1-ka;omega,by show -1-ka<(s.W.length:af);omega⟩,by show 0<=-1-kb;omega,by show -1-kb<(s.W.length:af);omega⟩
  .rcases qn e he with y|rfl
   .exact h.cs z e y
   exact e5 z
  .have:=h.he x hx;show 0<=x/\x<(aM E':af);rw[hl];omega
  .obtain⟨a,b⟩:=hu.tu v l hv;show _/\Dq _ E'.length _ l;rw[hl];exact⟨a,b.up (aW _) (by omega) (aW _)⟩
  obtain⟨a,b⟩:=hu.S l rI;show _/\Dq _ E'.length _ l;rw[hl];exact⟨a,b.up (aW _) (by omega) (aW _)⟩
 .obtain⟨o1,o2⟩:=aj9 ho q;rw[q];show Jz (nxH s ws) _;obtain⟨k,hk⟩:=bS.1 o2;have gk:zY s.m (lT ws 1)=k:=by show(jo (k:=.str) s.m (lT ws 1)).getD 0=_;rw[hk];rfl
  obtain⟨⟨a1,a2⟩,_⟩:=h.nm _ _ hk;unfold nxH hlV hlE HF HG;rw[gk]
  by_cases z:k<0
  .rw[aQ z,aQ z];exact⟨hu.wt,hu.nm,hu.nW,hu.nE,hu.ed,hu.kd,hu.cs,ze h.rV _ _,hu.rL,EM (Q:=λx=>0<=x/\x<(s.W.length:af)) h.hv ⟨by omega,by omega⟩,hu.he,hu.tu,hu.S⟩
  rw[aP z,aP z];obtain⟨e1,e2⟩:=h.ed _ (jz (d:=mK) (show k.toNat<s.E.length by omega));exact⟨hu.wt,hu.nm,hu.nW,hu.nE,hu.ed,hu.kd,hu.cs,ze (ze h.rV _ _) _ _,ze h.rL _ _,EM (Q:=λx=>0<=x/\x<(s.W.length:af)) (EM h.hv e1) e2,EM (Q:=λx=>0<=x/\x<(s.E.length:af)) h.he ⟨by omega,a2⟩,hu.tu,hu.S⟩
 .obtain⟨o1,⟨o2,o3⟩,o4,o5⟩:=aka ho q;rw[q];show Jz (nxA s ws) _;obtain⟨k,hk⟩:=bS.1 o2;have gk:zY s.m (lT ws 1)=k:=by show(jo (k:=.str) s.m (lT ws 1)).getD 0=_;rw[hk];rfl
  obtain⟨⟨a1,a2⟩,_⟩:=h.nm _ _ hk;refine⟨hu.wt,hu.nm,hu.nW,hu.nE,hu.ed,hu.kd,hu.cs,hu.rV,hu.rL,hu.hv,hu.he,λv l hv=>?_,hu.S⟩;have hv:jr (kZ s.tu (-1-zY s.m (lT ws 1)) ((ws.drop 2).map λp=>uG s.m p.2)) v=az l:=hv;rw[lF] at hv;split at hv
  .rename_i e;cases hv;exact⟨by show 0<=v/\v<(s.W.length:af);omega,h.kys hm o5⟩
  exact hu.tu v l hv
 obtain⟨o1,o2⟩:=akb ho q;rw[q];show Jz (nxR s ws) _;refine⟨hu.wt,hu.nm,hu.nW,hu.nE,hu.ed,hu.kd,hu.cs,hu.rV,hu.rL,hu.hv,hu.he,hu.tu,λl hl=>?_⟩;rcases bE.1 (show l∈s.S++[(ws.drop 1).map λp=>uG s.m p.2] from hl) with z|z
 .exact hu.S l z
 rw[aU.1 z];exact⟨by rw[bH,b9];omega,h.kys hm o2⟩
end
def Vx (ls:aa (af×aj)):Prop:=∀pre x rest,pre++x::rest=ls->Ld (Vv pre) (mc x.2)
theorem aej:Vx []:=λpre x rest q=>by cases pre<;>cases q
theorem aa5 {ls:aa (af×aj)}{x:af×aj}(h:Vx ls)(hx:Ld (Vv ls) (mc x.2)):Vx (ls++[x]):=λpre y rest q=>by
 rcases List.eq_nil_or_concat rest with rfl|⟨r,z,rfl⟩
 .obtain⟨a,b⟩:=arX q rfl;subst a;cases b;exact hx
 refine h pre y r ?_;have q:(pre++y::r)++[z]=ls++[x]:=by simpa using q
 exact(arX q rfl).1
theorem aek {pre rest:aa (af×aj)}(h:Vx (pre++rest)):Vx pre:=λp x r q=>h p x (r++rest) (by rw[<-q];simp)
theorem aa6 {ls:aa (af×aj)}(h:Vx ls)(hl:Jx ls<=65537):Jz (Vv ls) (Jx ls)/\Le (Vv ls) ls.length:=by
 induction hn:ls.length generalizing ls with
 |zero=>
  rw[ao4.1 hn];exact⟨Jz.zero,Le.zero⟩
 |succ n ih=>
  obtain⟨pre,x,rfl⟩:∃p y,ls=p++[y]:=by
   have qD:ls≠[]:=λe=>by rw[e] at hn;cases hn
   exact⟨_,_,(List.dropLast_concat_getLast qD).symm⟩
  rw[TF] at hl ⊢;have hp:pre.length=n:=by rw[bA] at hn;simp at hn;omega
  obtain⟨a,b⟩:=ih (aek h) (by omega) hp;have hx:=h pre x [] rfl;have hw:=(GY x.2).2;have e:Jx [x]=x.2.size+1:=by rw[xj];rfl
  rw[Ow,e];have:=z8 pre;exact⟨a.next hw hx,b.next (by omega) hx⟩
theorem Vy {n:af}{E:aa (af×af)}{V L:aa af}{T:aa (aa af)}(h:¬(jm n E V L T).2=0):(jm n E V L T).1=[]:=by
 rw[uD] at h;unfold jm;rw[aQ h]
section
variable {W:aa aj}{E:aa mS}{ha hb:aa (af×Unit)}{tu:aa (af×aa af)}{S:oB}
theorem afJ (hW:W.length<=376)(hE:E.length<=376)(rV:v7 ha)(rL:v7 hb)(hV:∀x∈k1 ha,0<=x/\x<(aM W:af))(hL:∀x∈k1 hb,0<=x/\x<(aM E:af)):
  (∀w∈vw W E ha hb tu,(∀d∈w.2,0<=d/\d<2*(aM E:af))/\w.2.length<=752/\-(aM W:af)<=w.1/\w.1<2*(aM E:af))/\(vw W E ha hb tu).length<=1128:=by
 have lV:(k1 ha).length<=376:=by have:=tC (l:=k1 ha) (a:=0) (b:=(aM W:af)) (mw rV) hV;omega
 have lL:(k1 hb).length<=376:=by have:=tC (l:=k1 hb) (a:=0) (b:=(aM E:af)) (mw rL) hL;omega
 by_cases w0:(jm (aM W:af) (DQ E) (k1 ha) (k1 hb) (GM W.length tu)).2=0
 .obtain⟨_,_,hw⟩:=si w0;have hd:=NU w0;refine⟨λw hm=>⟨λd hd'=>?_,?_,?_⟩,?_⟩
  .have:=hL _ ((hd w hm).1 d hd');omega
  .have:=(hd w hm).2;omega
  .rcases hw.key w hm with⟨_,q⟩|⟨_,q⟩
   .have:=hV _ q;omega
   have:=hL _ (show w.1/2∈_ from q);omega
  exact bC hw.len (by omega)
 rw[show vw W E ha hb tu=[] from Vy w0];exact⟨λw h=>(by cases h),bQ _⟩
theorem afK (hk:∀w∈vw W E ha hb tu,-(aM W:af)<=w.1/\w.1<2*(aM E:af)){l:aa af}(hr:∀d∈l,-(aM W:af)<=d/\d<2*(aM E:af)):∀x∈QO (V0 W E ha hb tu) l,-(aM W:af)<=x/\x<2*(aM E:af):=λx hx=>by
 obtain⟨d,hd,e⟩:=bz.1 (List.mem_mergeSort.1 (show x∈(l.map (Tw (V0 W E ha hb tu))).mergeSort _ from hx));rw[<-e];unfold Tw;cases q:jr (V0 W E ha hb tu) d with
 |none=>exact hr d hd
 |some c=>
  rcases QM _ _ q with⟨w,hw,_,r⟩|z
  .have:=hk w hw;show _<=c/\c<_;omega
  cases z
theorem TH (m:aa (af×af))(l:aa af):(QO m l).length=l.length:=by unfold QO;rw[Oh,bH]
theorem TI (hW:W.length<=376)(hE:E.length<=376)(rV:v7 ha)(rL:v7 hb)(hV:∀x∈k1 ha,0<=x/\x<(aM W:af))(hL:∀x∈k1 hb,0<=x/\x<(aM E:af))(cs:∀e∈E,e.2.2.2=0)
  (ht:∀v l,jr tu v=az l->(0<=v/\v<(aM W:af))/\Dq W.length E.length 10000 l) (hSl:S.length<=10000) (hS:∀l∈S,2<=l.length/\Dq W.length E.length 10000 l):vr W E ha hb tu S:=by
 have lV:(k1 ha).length<=376:=by have:=tC (l:=k1 ha) (a:=0) (b:=(aM W:af)) (mw rV) hV;omega
 have lL:(k1 hb).length<=376:=by have:=tC (l:=k1 hb) (a:=0) (b:=(aM E:af)) (mw rL) hL;omega
 have sT:∀l∈GM W.length tu,Dq W.length E.length 10000 l:=λl hl=>by
  obtain⟨v,_,rfl⟩:=bz.1 hl;cases q:jr tu (v:af) with
  |none=>exact⟨bQ _,λd hd=>by cases hd⟩
  |some m=>
   have:=(ht _ _ q).2;exact⟨by show(ju m).length<=_;rw[mG];exact this.1,λd hd=>this.2 d (vf hd)⟩
 have hk:=afJ (tu:=tu) hW hE rV rL hV hL;refine⟨by omega,by omega,?_,?_,rV,rL,λj hj=>cs _ (jz (by omega)),λk l q=>⟨(ht k l q).1,bC (ht k l q).2.1 (by decide)⟩,⟨?_,λl hl=>(sT l hl).1⟩,λl hl d hd=>?_,⟨hSl,λl hl=>(hS l hl).2.1⟩,λl hl d hd=>?_,by omega,?_,λw hw d hd=>?_,⟨by rw[bH],λx hx=>?_⟩⟩
 .have:(k1 ha).length=ha.length:=bH _;omega
 .have:(k1 hb).length=hb.length:=bH _;omega
 .unfold GM;rw[bH,ao0];omega
 .have:=(sT l hl).2 d hd;omega
 .have:=(hS l hl).2.2 d hd;omega
 .have a:=QV λw hw=>(hk.1 w hw).2.1;have b:(vw W E ha hb tu).length*752<=1128*752:=cm _ hk.2;omega
 .have:=(hk.1 w hw).1 d hd;omega
 obtain⟨l,hl,rfl⟩:=bz.1 hx;obtain⟨h2,_,hr⟩:=hS l hl;have hlen:=TH (V0 W E ha hb tu) l;have:=afK (λw hw=>(hk.1 w hw).2.2) hr _ (jz (l:=QO (V0 W E ha hb tu) l) (i:=(0:af).toNat) (d:=0) (by rw[hlen];show 0<_;omega));omega
end
theorem Jz.fil {s:RS}{n:ah}(h:Jz s n)(hn:n<=3001)(hS:s.S.length<=10000):s.k=1\/s.k=0/\vr s.W s.E s.hv s.he s.tu s.S:=by
 rcases h.kd with hk|hk
 .refine .inr ⟨hk,?_⟩;have hw:=h.wt;have a:∀l:aa aj,8*l.length<=Jy l:=λl=>by
   induction l with
   |nil=>exact aW _
   |cons v l ih=>show 8*(l.length+1)<=v.size+8+Jy l;omega
  have b:∀l:aa mS,8*l.length<=HO s.W l:=λl=>by
   induction l with
   |nil=>exact aW _
   |cons v l ih=>show 8*(l.length+1)<=_+_+_+8+HO s.W l;omega
  have a:=a s.W;have b:=b s.E;exact TI (by omega) (by omega) h.rV h.rL h.hv h.he (h.cs hk) (λv l q=>⟨(h.tu v l q).1,(h.tu v l q).2.up (aW _) (aW _) (by omega)⟩) hS λl q=>⟨(h.S l q).1,(h.S l q).2.up (aW _) (aW _) (by omega)⟩
 exact .inl hk
section
variable {l:oB}(h:QN l)
include h
theorem QN.hd {i j:af}(h0:0<=i)(h1:i<j)(h2:j<(aM l:af)):tV l i<tV l j:=h.two h0 h1 h2
theorem aa7:∀(k:ah) {j:af},0<j->j<(aM l:af)->Ed k l j=l
 |0,_,_,_=>rfl
 |k+1,j,h0,h1=>aP (by have:=h.hd (i:=j-1) (j:=j) (by omega) (by omega) h1;omega)
theorem OB:∀(k:ah) {i a:af},0<i->i+(k:af)<=(aM l:af)->Lu k l i a=l
 |0,_,_,_,_=>rfl
 |k+1,i,a,h0,h1=>by
  show Lu k (Ed (i-a).toNat l i) (i+1) a=l;rw[aa7 h _ h0 (by omega),OB k (by omega) (by omega)]
theorem OC {a b:af}(h0:0<=a)(h1:b<=(aM l:af)):GO l a b=l:=by
 unfold GO
 by_cases q:a+1<=b
 .exact OB h _ (by omega) (by omega)
 rw[show(b-(a+1)).toNat=0 by omega];rfl
theorem OD:∀(k:ah) {a:af},0<=a->GQ k l a (aM l:af)=l
 |0,_,_=>rfl
 |k+1,a,h0=>by
  unfold GQ;split
  .rw[OC h h0 (by omega),OD k (by omega)]
  exact OC h h0 (bM _)
theorem TJ {a:af}(h0:0<=a):∀(k:ah) {i j:af},a<i->j<=(aM l:af)->Tg k l a i j=i
 |0,_,_,_,_=>rfl
 |k+1,i,j,h1,h2=>by
  unfold Tg;split
  .rw[aP (by have:=h.hd h0 (j:=(i+j)/2) (by omega) (by omega);omega),TJ h0 k h1 (by omega)]
  rfl
theorem TK {m:af}(h0:m<(aM l:af)):∀(k:ah) {i j:af},0<=i->i<=j->j<=m->j-i<=(k:af)->Th k l m i j=j
 |0,i,j,_,_,_,h4=>by show i=j;omega
 |k+1,i,j,h1,h2,h3,h4=>by
  unfold Th;split
  .rw[aQ (by have:=h.hd (i:=(i+j)/2) (j:=m) (by omega) (by omega) h0;omega),TK h0 k (by omega) (by omega) h3 (by omega)]
  omega
theorem LF {p m:af}:∀(k:ah) {s r:af},0<=s->s<=r->r<=m->m+r<=p+1->p-s<(aM l:af)->r-s<=(k:af)->Oo k l p s r=r
 |0,s,r,_,_,_,_,_,h4=>by show s=r;omega
 |k+1,s,r,h1,h2,h3,hp,hs,h4=>by
  unfold Oo;split
  .rw[aQ (by have:=h.hd (i:=(s+r)/2) (j:=p-(s+r)/2) (by omega) (by omega) (by omega);omega),LF k (by omega) (by omega) h3 hp (by omega) (by omega)]
  omega
theorem Ck:∀(k:ah) {a m b:af},0<=a->a<m->m<b->b<=(aM l:af)->nB k l a m b=l
 |0,_,_,_,_,_,_,_=>rfl
 |k+1,a,m,b,h0,h1,h2,h3=>by
  by_cases q1:m-a=1
  .rw[aaB q1,TJ h h0 _ (by omega) h3,show(m-1-a).toNat=0 by omega];rfl
  by_cases q2:b-m=1
  .rw[aaC q1 q2,TK h (by omega) _ h0 (by omega) (bM _) (by omega),Int.sub_self];rfl
  rw[qz q1 q2 rfl]
  by_cases q:(a+b)/2<m
  .have e:Lv l a m b=(a+b)/2:=by rw[<-afE q];exact LF h (m:=(a+b)/2) _ (by omega) (by omega) (by omega) (by omega) (by omega) (by omega)
   rw[<-tD rfl (by rw[e];omega),e];unfold x6 x7;rw[aP (c:=a<(a+b)/2/\(a+b)/2<(a+b)/2) (λz=>by omega)];split
   .exact Ck k (by omega) (by omega) (by omega) h3
   rfl
  have e:Lv l a m b=m:=by rw[<-afF q];exact LF h (m:=m) _ h0 (by omega) (bM _) (by omega) (by omega) (by omega)
  rw[<-tD rfl (by rw[e];omega),e];unfold x6 x7;rw[aP (c:=(a+b)/2<(a+b)/2+m-m/\_) (λz=>by omega)];split
  .exact Ck k h0 h1 (by omega) (by omega)
  rfl
theorem OE:∀(k:ah) {s a:af},0<s->0<=a->Dp k l s a (aM l:af)=l
 |0,_,_,_,_=>rfl
 |k+1,s,a,h0,h1=>by
  unfold Dp;split
  .rw[Ck h _ h1 (by omega) (by omega) (by omega),OE k h0 (by omega)]
  split
  .exact Ck h _ h1 (by omega) (by omega) (bM _)
  rfl
theorem OG:∀(k:ah) {s:af},0<s->HK k l s (aM l:af)=l
 |0,_,_=>rfl
 |k+1,s,h0=>by
  unfold HK;split
  .rw[OE h _ h0 (bM _),OG k (by omega)]
  rfl
theorem aa8:GR l=l:=by
 unfold GR;rw[OD h _ (bM _),OG h _ (by decide)]
end
theorem aa9 {g:ah->ah}{a:ah}:∀ {l:aa ah},a∈l->(l.map g).sum=g a+((l.erase a).map g).sum
 |b::l,h=>by
  by_cases e:b=a
  .subst e;rw[List.erase_cons_head];rfl
  rw[List.erase_cons_tail (by simpa using e)];have:=aa9 (g:=g) ((bg.1 h).resolve_left λz=>e z.symm);show g b+(l.map g).sum=g a+(g b+((l.erase a).map g).sum);omega
theorem LG {g:ah->ah}:∀ {n:ah} {l:aa ah},l.Nodup->(∀x∈l,x<n)->(l.map g).sum<=((bT n).map g).sum
 |0,l,_,h=>by
  rw[ap7.2 λx hx=>aoE _ (h x hx)];exact aW _
 |n+1,l,hn,h=>by
  rw[List.range_succ,cA,aoD];have e1:([n].map g).sum=g n:=by simp
  rw[e1]
  by_cases q:n∈l
  .rw[aa9 (g:=g) q];have:=LG (g:=g) (n:=n) (hn.erase n) λx hx=>by
    have h1:=h x (List.mem_of_mem_erase hx);have h2:x≠n:=λe=>by subst e;exact(hn.not_mem_erase) hx
    omega
   omega
  have:=LG (g:=g) (n:=n) hn λx hx=>by
   have h1:=h x hx;have h2:x≠n:=λe=>q (e▸hx);omega
  omega
theorem LH {α:Type}(xs:aa α)(d:α)(f:α->ah){l:aa af}(ix:af->ah)(hn:l.Nodup)(hi:∀x∈l,∀y∈l,ix x=ix y->x=y)(hr:∀x∈l,ix x<xs.length):(l.map λx=>f (xs.getD (ix x) d)).sum<=(xs.map f).sum:=by
 have e:xs.map f=(bT xs.length).map λi=>f (xs.getD i d):=by
  conv=>lhs;rw[<-cg (l:=xs),<-GC xs d (aW _),cz]
  rfl
 rw[e];have JI:(l.map ix).Nodup:=by
  refine List.pairwise_map.2 (ar7 (λha hb q z=>q (hi _ ha _ hb z)) hn)
 have:=LG (g:=λi=>f (xs.getD i d)) (n:=xs.length) JI λx hx=>by
  obtain⟨y,hy,rfl⟩:=bz.1 hx;exact hr y hy
 rwa[cz] at this
theorem LI {α:Type}{f g:α->ah}:∀ {l:aa α},(∀x∈l,f x<=g x)->(l.map f).sum<=(l.map g).sum
 |[],_=>aW _
 |x::l,h=>by
  have:=LI (l:=l) λy hy=>h y (bl _ hy);have:=h x aZ;show f x+(l.map f).sum<=g x+(l.map g).sum;omega
theorem LJ {α:Type}{f:α->ah}(p:α->ak):∀l:aa α,(l.map f).sum=((l.filter p).map f).sum+((l.filter λx=>!p x).map f).sum
 |[]=>rfl
 |x::l=>by
  have:=LJ (f:=f) p l;rw[ao2,ao2];show f x+(l.map f).sum=_;cases p x with
  |true=>show _=f x+((l.filter p).map f).sum+((l.filter λx=>!p x).map f).sum;omega
  |false=>show _=((l.filter p).map f).sum+(f x+((l.filter λx=>!p x).map f).sum);omega
theorem LK {α:Type}{f:α->ah}(c:ah):∀l:aa α,(l.map λx=>c*f x).sum=c*(l.map f).sum
 |[]=>rfl
 |x::l=>by
  have:=LK (f:=f) c l;show c*f x+(l.map λx=>c*f x).sum=c*(f x+(l.map f).sum);rw[this,Nat.mul_add]
theorem LL {α β:Type}{g:α->aa β}{f:β->ah}:∀l:aa α,((l.flatMap g).map f).sum=(l.map λx=>((g x).map f).sum).sum
 |[]=>rfl
 |x::l=>by
  rw[dc,cA,aoD,LL l];rfl
theorem sum_add {α:Type}{f g:α->ah}:∀l:aa α,(l.map λx=>f x+g x).sum=(l.map f).sum+(l.map g).sum
 |[]=>rfl
 |x::l=>by
  have:=sum_add (f:=f) (g:=g) l;show f x+g x+(l.map λx=>f x+g x).sum=f x+(l.map f).sum+(g x+(l.map g).sum);omega
def V1 (ws:aa aj):ah:=(ws.map λw=>w.size+1).sum
theorem TL:∀(a:aj) (l:aa aj),(jG (a::l) vP).size+1=V1 (a::l)
 |a,[]=>by rw[join_one];rfl
 |a,b::l=>by
  have h1:=TL b l;have h2:V1 (a::b::l)=a.size+1+V1 (b::l):=rfl;have h3:vP.size=1:=rfl;rw[join_cons,m7,m7];omega
theorem JA {α:Type}{f:α->aa (aa aj)}{g:α->ah}{l:aa α}(h:∀x∈l,Cr (f x)<=g x):Cr (l.flatMap f)<=(l.map g).sum:=by
 have e:Cr (l.flatMap f)=(l.map λx=>Cr (f x)).sum:=by unfold Cr;exact LL l
 rw[e];exact LI h
theorem JB (a:aj)(l:aa aj):Cr [a::l]=V1 (a::l):=by rw[xZ,TL]
section
variable {W:aa aj}{E:aa mS}
abbrev gV (v:aj):ah:=v.size+8
abbrev gE (W:aa aj)(e:mS):ah:=e.1.size+(W.getD e.2.1.toNat b0).size+(W.getD e.2.2.1.toNat b0).size+8
theorem afL {l:aa af}(hn:l.Nodup)(hk:∀d∈l,Ag W E d):(l.map λd=>(sj W E d).size+1).sum<=Jy W+2*HO W E:=by
 rw[LJ (λd=>aE (d<0)) l,LJ (λd=>aE (d%2=0)) (l.filter λx=>!decide (x<0))];have a:((l.filter λd=>aE (d<0)).map λd=>(sj W E d).size+1).sum<=Jy W:=by
  refine bC (LI (g:=λd=>gV (W.getD (-1-d).toNat b0)) λd hd=>?_) (LH W b0 gV (λd=>(-1-d).toNat) (hn.filter _) (λx hx y hy e=>?_) λx hx=>?_)
  .have:=bq (bX.1 hd).2;unfold sj;rw[aQ this];split
   .show _<=_+8;omega
   show 0+1<=_+8;omega
  .have:=bq (bX.1 hx).2;have:=bq (bX.1 hy).2;omega
  have:=bq (bX.1 hx).2;have:=hk x (bX.1 hx).1;unfold Ag at this;omega
 have key:∀m:aa af,m.Nodup->(∀d∈m,0<=d/\d<2*(aM E:af))->(∀x∈m,∀y∈m,(x/2).toNat=(y/2).toNat->x=y)->(m.map λd=>(sj W E d).size+1).sum<=HO W E:=λm hm hr hi=>by
  refine bC (LI (g:=λd=>gE W (E.getD (d/2).toNat mK)) λd hd=>?_) (LH E mK (gE W) (λd=>(d/2).toNat) hm hi λx hx=>by have:=hr x hx;omega);have:=hr d hd;unfold sj;rw[aP (by omega)];split
  .show 0+1<=_+8;omega
  split
  .rw[m7];show _+1+1<=_+_+_+8;omega
  rw[m7];show _+1+1<=_+_+_+8;omega
 have hr:∀d∈l.filter λx=>!decide (x<0),0<=d/\d<2*(aM E:af):=λd hd=>by
  have h1:=(bX.1 hd).2;have h2:=hk d (bX.1 hd).1;unfold Ag at h2;simp at h1;omega
 have b:=key ((l.filter λx=>!decide (x<0)).filter λd=>aE (d%2=0)) ((hn.filter _).filter _) (λd hd=>hr d (bX.1 hd).1) λx hx y hy e=>by
  have:=bq (bX.1 hx).2;have:=bq (bX.1 hy).2;have:=hr x (bX.1 hx).1;have:=hr y (bX.1 hy).1;omega
 have c:=key ((l.filter λx=>!decide (x<0)).filter λd=>!decide (d%2=0)) ((hn.filter _).filter _) (λd hd=>hr d (bX.1 hd).1) λx hx y hy e=>by
  have h1:=(bX.1 hx).2;have h2:=(bX.1 hy).2;simp at h1 h2;have:=hr x (bX.1 hx).1;have:=hr y (bX.1 hy).1;omega
 omega
end
section
variable {K:af}{W:aa aj}{E:aa mS}{V L:aa af}{T S:aa (aa af)}
theorem Dr (h:nS K W E V L T S=0)(hw:Jy W+HO W E<=3001):(oQ b0 (Db K W E V L T S (hE E L))).size<=65536:=by
 have w0:Cr (kL K)=5:=by
  unfold kL;rw[xZ,join_one];split<;>rfl
 have w1:Cr (W.flatMap fV)<=Jy W:=JA (g:=gV) λv _=>by
  unfold fV;rw[JB];show 6+1+(v.size+1+0)<=v.size+8;omega
 have w2:Cr (E.flatMap (fE W))<=2*HO W E:=by
  refine bC (JA (g:=λe=>2*gE W e) λe _=>?_) (Nat.le_of_eq (LK 2 E));unfold fE;rw[JB];have ek:(kE e.2.2.2).size<=6:=by unfold kE;split;decide;split<;>decide
  show(kE e.2.2.2).size+1+(e.1.size+1+((W.getD e.2.1.toNat b0).size+1+((W.getD e.2.2.1.toNat b0).size+1+0)))<=2*(e.1.size+(W.getD e.2.1.toNat b0).size+(W.getD e.2.2.1.toNat b0).size+8);omega
 rw[B7];have hb:b0.size=0:=rfl;rcases De h with hk|hk
 .obtain⟨hp,FH,hT⟩:=uj h hk;obtain⟨hr,hV,hL,_⟩:=kA hp;have nV:=mw (jC.1 hV).1;have rV:=(jC.1 hV).2;have nL:=mw (jC.1 hL).1;have rL:=(jC.1 hL).2;rw[sr] at rL;have w3:Cr (L.flatMap (fH E))<=HO W E:=by
   refine bC (JA (g:=λe=>gE W (E.getD e.toNat mK)) λe _=>?_) (LH E mK (gE W) (λe=>e.toNat) nL (λx hx y hy e=>?_) λx hx=>?_)
   .unfold fH;rw[JB];show 4+1+((E.getD e.toNat mK).1.size+1+0)<=_+_+_+8;omega
   .have:=rL x hx;have:=rL y hy;omega
   have:=rL x hx;omega
  have gv:(V.map λv=>gV (W.getD v.toNat b0)).sum<=Jy W:=LH W b0 gV (λv=>v.toNat) nV (λx hx y hy e=>by have:=rV x hx;have:=rV y hy;omega) λx hx=>by have:=rV x hx;omega
  have w4:Cr (V.flatMap (fW W (hE E L)))<=Jy W:=by
   refine bC (JA (g:=λv=>gV (W.getD v.toNat b0)) λv _=>?_) gv;unfold fW;split
   .exact bQ _
   rw[JB];show 4+1+((W.getD v.toNat b0).size+1+0)<=_+8;omega
  have hT2:=aak hT;have w5:Cr (V.flatMap (fA W E T (hE E L)))<=Jy W+(Jy W+2*HO W E):=by
   refine bC (JA (g:=λv=>gV (W.getD v.toNat b0)+(((T.map ju).getD v.toNat []).map λd=>(sj W E d).size+1).sum) λv _=>?_) ?_
   .unfold fA;split
    .rw[JB,Cg];have e:V1 ((ju (T.getD v.toNat [])).map (sj W E))=((ju (T.getD v.toNat [])).map λd=>(sj W E d).size+1).sum:=by unfold V1;rw[cz];rfl
     rw[<-e];show 6+1+((W.getD v.toNat b0).size+1+V1 _)<=_+8+_;omega
    exact bQ _
   rw[sum_add,<-LL (α:=af) (g:=λv:af=>(T.map ju).getD v.toNat []) (f:=λd=>(sj W E d).size+1) V];have:=afL (W:=W) (E:=E) (NZ hp hT2) λd hd=>by
    obtain⟨v,hv,hd⟩:=cQ.1 hd;have h1:=rV v hv;have h2:=hT2.len;have:=rL _ ((hT2.mem _ (by omega) d).1 hd).1;unfold Ag;omega
   omega
  have w6:Cr (S.flatMap (fR W E))<=5*(Jy W+2*HO W E):=by
   have hS:=SL h hk;refine bC (JA (g:=λl=>5*(l.map λd=>(sj W E d).size+1).sum) λl hl=>?_) ?_
   .unfold fR;have h2:=(hS l hl).1;have e:V1 (l.map (sj W E))=(l.map λd=>(sj W E d).size+1).sum:=by unfold V1;rw[cz];rfl
    have:l.length<=V1 (l.map (sj W E)):=by
     clear hl h2 e
     induction l with
     |nil=>exact aW _
     |cons d l ih=>show l.length+1<=_+1+V1 (l.map (sj W E));omega
    rw[JB,<-e];show 6+1+V1 _<=_;omega
   rw[LK];have e:(S.map λl=>(l.map λd=>(sj W E d).size+1).sum).sum=(S.flatten.map λd=>(sj W E d).size+1).sum:=by
    rw[<-List.flatMap_id',LL]
   rw[e];exact aoV _ (afL (NY FH) λd hd=>by obtain⟨l,hl,hd⟩:=aoZ.1 hd;exact(hS l hl).2 d hd)
  rw[UZ hk];unfold EE;simp only[Gq];omega
 rw[U0 (by omega)];simp only[Gq];omega
end
def tX (sx:aj):Prop:=(B4 sx).2=aD/\Vx (nu sx)/\(sC sx).b=aC
structure Ak (sx:aj):Prop where
 sz:sx.size<=65536
 fil:tX sx->(sC sx).k=1\/(sC sx).k=0/\vr (sC sx).W (sC sx).E (sC sx).hv (sC sx).he (sC sx).tu (sC sx).S
theorem Ak.ln {sx:aj}(h:Ak sx){pre:aa (af×aj)}{x:af×aj}{rest:aa (af×aj)}(hx:pre++x::rest=nu sx)(ho:Vx pre):x.2.size<=65536/\LnB x.1 (mc x.2)/\Le (Vv pre) 100000:=by
 have hz:=h.sz;have hm:x∈nu sx:=by rw[<-hx];exact bV _ aZ
 have hw:=Oy sx;rw[<-hx,TF,xj] at hw;obtain⟨_,b⟩:=aa6 ho (by omega);have:=z8 pre;have:=GX hm;exact⟨by omega,amX hz hm,b.mono (by omega)⟩
noncomputable def lC (sx:aj):af×aa aj×aa mS×(aa af×aa af)×aa (aa af)×aa (aa af):=
 ((sC sx).k,((sC sx).W,((sC sx).E,((zh (sC sx).k [] (sC sx).hv,zh (sC sx).k [] (sC sx).he),(HM (sC sx).k [] (sC sx).W.length (sC sx).tu,HN (sC sx).k [] (sC sx).W (sC sx).E (sC sx).hv (sC sx).he (sC sx).tu (sC sx).S)))))
theorem TM:∀l:aa aj,8*l.length<=Jy l
 |[]=>aW _
 |v::l=>by have:=TM l;show 8*(l.length+1)<=v.size+8+Jy l;omega
theorem TN (W:aa aj):∀l:aa mS,8*l.length<=HO W l
 |[]=>aW _
 |v::l=>by have:=TN W l;show 8*(l.length+1)<=_+_+_+8+HO W l;omega
theorem aba {sx:aj}(hz:sx.size<=3000)(h:Vx (nu sx)):Jz (sC sx) 3001/\(sC sx).S.length<=10000:=by
 have hw:=Oy sx;obtain⟨a,b⟩:=aa6 h (by omega);have:=z8 (nu sx);have:=b.S;exact⟨a.up (by omega),by show(Vv (nu sx)).S.length<=_;omega⟩
theorem afM {sx:aj}(hz:sx.size<=3000):Ak sx:=⟨by omega,λh=>let⟨a,b⟩:=aba hz h.2.1;a.fil (aW _) b⟩
section
variable {K:af}{W:aa aj}{E:aa mS}{V L:aa af}{T S:aa (aa af)}
theorem afN (h:nS K W E V L T S=0)(hW:W.length<=376)(hE':E.length<=376)(hT:kK T)(hS:kK S)(hz:(oQ b0 (Db K W E V L T S (hE E L))).size<=65536):
  (Ak (oQ b0 (Db K W E V L T S (hE E L)))/\tX (oQ b0 (Db K W E V L T S (hE E L))))/\lC (oQ b0 (Db K W E V L T S (hE E L)))=(K,(W,(E,((V,L),(T.map ju,S))))):=by
 have p9:=aia h;have hl:=Vb p9;have hw:Cr (Db K W E V L T S (hE E L))<=65536:=by rw[B7] at hz;omega
 have QL:=aa3 (Db K W E V L T S (hE E L));have key:∀t,qK MV (Db K W E V L T S (hE E L)) t->sC (oQ b0 (Db K W E V L T S (hE E L)))=t/\Vx (nu (oQ b0 (Db K W E V L T S (hE E L)))):=λt r=>by
  obtain⟨a,b⟩:=aib r (poL 0 (Db K W E V L T S (hE E L))) 0 (TE _ 0 p9) Le.zero (by rw[TC];omega);refine⟨by unfold sC;rw[hl];exact a,λpre x rest q=>?_⟩;rw[hl] at q;exact(b pre x rest q).2
 have hbd:=bh Prod.snd (ac8 p9);rcases De h with hk|hk
 .obtain⟨t,r,tb,tk,tW,tE,tS,tv,te,tt⟩:=Vh h hk;obtain⟨ka,kb⟩:=key t r;obtain⟨hp,FH,hTn⟩:=uj h hk;obtain⟨_,hV,hL,_⟩:=kA hp;have rV:=jC.1 hV;have rL:=jC.1 hL;rw[sr] at rL;have hgS:=SL h hk;have hD:vr W E t.hv t.he t.tu S:=TI hW hE' (by show IV _;rw[tv];exact rV.1) (by show IV _;rw[te];exact rL.1) (by unfold k1;rw[tv];exact rV.2) (by unfold k1;rw[te];exact rL.2) (λe he=>by
   obtain⟨j,hj,rfl⟩:=jJ (z:=mK).1 he;exact SJ h hk j hj) (λv l q=>by
   rw[tt] at q;split at q
   .rename_i z;cases q;have hv:=rV.2 _ z.1;have hl:=hTn.len;exact⟨hv,by rw[mG];exact hT.2 _ (jz (by omega)),λd hd=>by have:=ZH h hk v z.1 d (vf hd);omega⟩
   cases q) hS.1 λl hl=>⟨(hgS l hl).1,hS.2 l hl,λd hd=>by have:=(hgS l hl).2 d hd;unfold Ag at this;exact this⟩
  refine⟨⟨⟨hz,λ_=>.inr ?_⟩,hbd,kb,by rw[ka];exact tb⟩,?_⟩
  .rw[ka,tW,tE,tS];exact⟨tk,hD⟩
  have n1:¬t.k=1:=by rw[tk];decide
  have eT:=amS h hk tt;have eS:S.map (QO (V0 W E t.hv t.he t.tu))=S:=by
   refine(dm λl hl=>?_).trans (aot _);have hm:l.map (Tw (V0 W E t.hv t.he t.tu))=l:=by
    refine(dm λx hx=>?_).trans (aot _);unfold Tw;cases q:jr (V0 W E t.hv t.he t.tu) x with
    |none=>rfl
    |some c=>
     unfold V0 vw k1 at q;rw[tv,te,eT] at q;exact aam h hk (aoZ.2 ⟨l,hl,hx⟩) q
   unfold QO;rw[hm];obtain⟨j,hj,rfl⟩:=jJ (z:=([]:aa af)).1 hl;exact aae (adN h hk j hj)
  have hsr:QN S:=⟨by have:=hS.1;omega,λi hi=>by have:=(hgS _ (jz (d:=([]:aa af)) hi)).1;omega,λi hi=>by
   obtain⟨a,b⟩:=hgS _ (jz (d:=([]:aa af)) hi);have:=b _ (jz (l:=S.getD i []) (i:=0) (d:=0) (by omega));unfold Ag at this;omega,Vq h hk⟩
  unfold lC;rw[ka];unfold zh HM HN;rw[aP n1,aP n1,aP n1,aP n1,tk,tW,tE,tS,eS,aa8 hsr,tv,te,eT,hk]
 obtain⟨t,r,tb,tk,tW,tE⟩:=Vi h hk;obtain⟨ka,kb⟩:=key t r;obtain⟨_,h1,h2,h3,_⟩:=N0 (Gu h hk).1;have h4:=aic (Gu h hk).1;refine⟨⟨⟨hz,λ_=>.inl (by rw[ka];exact tk)⟩,hbd,kb,by rw[ka];exact tb⟩,?_⟩;unfold lC;rw[ka];unfold zh HM HN;rw[aQ tk,aQ tk,aQ tk,aQ tk,tk,tW,tE,hk,ao4.1 h1,ao4.1 h2,ao4.1 h3,ao4.1 h4];rfl
end
structure ak3 (K:af)(W:aa aj)(E:aa mS)(V L:aa af)(T S:aa (aa af)):Prop where
 lW:W.length<=376
 lE:E.length<=376
 lV:V.length<=1000
 lL:L.length<=1000
 iT:ng T
 sT:kK T
 iS:ng S
 sS:kK S
 nW:∀j:ah,j<W.length->(W.getD j b0).size<=200
 nE:∀j:ah,j<E.length->(E.getD j mK).1.size<=200
 fT:T.map ju=T
 wt:Jy W+HO W E<=3001
theorem afO {sx:aj}(hz:sx.size<=3000)(h:tX sx):ak3 (lC sx).1 (lC sx).2.1 (lC sx).2.2.1 (lC sx).2.2.2.1.1 (lC sx).2.2.2.1.2 (lC sx).2.2.2.2.1 (lC sx).2.2.2.2.2:=by
 obtain⟨a,b⟩:=aba hz h.2.1;have hf:=(afM hz).fil h;have hw:=a.wt;have hV:=TM (sC sx).W;have hE:=TN (sC sx).W (sC sx).E;have W6:(sC sx).W.length<=376:=by omega
 have E6:(sC sx).E.length<=376:=by omega
 have n2:∀j:ah,j<(sC sx).W.length->((sC sx).W.getD j b0).size<=200:=λj hj=>bC (zW (a.nW j hj)) (by decide);have n3:∀j:ah,j<(sC sx).E.length->((sC sx).E.getD j mK).1.size<=200:=λj hj=>bC (zW (a.nE j hj)) (by decide);unfold lC zh HM HN;rcases hf with k|⟨k,hD⟩
 .simp only[aQ k];exact⟨W6,E6,bQ _,bQ _,λl hl=>(by cases hl),⟨bQ _,λl hl=>(by cases hl)⟩,λl hl=>(by cases hl),⟨bQ _,λl hl=>(by cases hl)⟩,n2,n3,rfl,hw⟩
 have n1:¬(sC sx).k=1:=by omega
 simp only[aP n1];have hk:=afJ (tu:=(sC sx).tu) W6 E6 a.rV a.rL a.hv a.he;have hS:∀l∈GR ((sC sx).S.map (QO (V0 (sC sx).W (sC sx).E (sC sx).hv (sC sx).he (sC sx).tu))),l.length<=10000/\∀x∈l,-376<=x/\x<=752:=λl hl=>by
  obtain⟨m,hm,rfl⟩:=bz.1 (aau _ hl);obtain⟨_,q1,q2⟩:=a.S m hm;exact⟨by rw[TH];omega,λx hx=>by have:=afK (λw hw=>(hk.1 w hw).2.2) q2 x hx;omega⟩
 refine⟨W6,E6,?_,?_,hD.iT,hD.sT,λl hl x hx=>?_,⟨?_,λl hl=>(hS l hl).1⟩,n2,n3,?_,hw⟩
 .have:=tC (l:=k1 (sC sx).hv) (a:=0) (b:=((sC sx).W.length:af)) (mw a.rV) a.hv;show(k1 (sC sx).hv).length<=_;omega
 .have:=tC (l:=k1 (sC sx).he) (a:=0) (b:=((sC sx).E.length:af)) (mw a.rL) a.he;show(k1 (sC sx).he).length<=_;omega
 .have:=(hS l hl).2 x hx;omega
 .rw[aat,bH];exact b
 unfold GM;rw[cz];refine dm λv _=>?_;show ju (match jr (sC sx).tu (v:af) with|some l=>ju l|none=>[])=_;cases jr (sC sx).tu (v:af) with
 |none=>rfl
 |some l=>exact uH l
theorem ael {sx:aj}(hz:sx.size<=3000)(h:tX sx)(hr:nS (lC sx).1 (lC sx).2.1 (lC sx).2.2.1 (lC sx).2.2.2.1.1 (lC sx).2.2.2.1.2 (lC sx).2.2.2.2.1 (lC sx).2.2.2.2.2=0):
  ∃t,Qm (lC sx).1 (lC sx).2.1 (lC sx).2.2.1 (lC sx).2.2.2.1.1 (lC sx).2.2.2.1.2 (lC sx).2.2.2.2.1 (lC sx).2.2.2.2.2=(t,0)/\(Ak t/\tX t)/\lC t=lC sx:=by
 have hI:=afO hz h;have hs:=Dr hr hI.wt;obtain⟨a,b⟩:=afN hr hI.lW hI.lE hI.sT hI.sS hs;refine⟨_,?_,a,?_⟩
 .unfold Qm;rw[aP (λq=>q hr),aP (by omega)]
 rw[b,hI.fT]
theorem bk {i:af}{n:ah}(h:aE (0<=i/\i<(n:af))=aC:=by kernel_rfl):j8 i n:=show 0<=i/\i<(n:af) from bq h
theorem dk {p:Prop}[Decidable p](h:decide p=aC:=by kernel_rfl):p:=bq h
abbrev aB:aj:=⟨#[97]⟩
abbrev txB:aj:=asa
theorem aid:kX 0 [aB] [] [] [] [[]] []=((((1,[]),(([],[]),([[]],[])))),0):=by
 have h:Gb []:=λj hj=>by simp at hj;omega
 unfold kX;rw[aQ rfl,aQ h];rfl
theorem aie:Av 1 [] [] [] [[]] []=0:=by kernel_rfl
theorem aif:kN aB=aC:=by kernel_rfl
theorem Vz:kr aR 178 [(aD,D9),(aD,.int)] [.int] (λx=>0<=(I_ x.2.1)/\(I_ x.2.1)/2<((E_ x.1.2).length:af)/\(I_ x.2.1)<=1000000) (λx=>(kF (E_ x.1.2) (I_ x.2.1),())):=by
 refine kJ f178 22 [] func178 λo x hd _ _ h=>?_;obtain⟨⟨(n:af),(E:aa (af×af))⟩,(d:af),_⟩:=x;have vC:=LS h 0 E;change 0<=d/\d/2<(aM E:af)/\d<=1000000 at hd;have⟨d0,d1,d2⟩:=hd;refine go (pr:=(0<=d/\0<(2:af))) [] h (⟨by omega,by omega⟩) ?_;refine jR (p:=d%2=0) (λq1=>?_) λq1=>?_
 .refine jY (pr:=(0<=d/\0<(2:af)/\jX .i64 d)/\(j8 (d/2) E.length)) ⟨⟨by omega,by omega,⟨by omega,by omega⟩⟩,bx⟩ ?_;exact jW (((E.getD (d/2).toNat (0,0)).2:af),()) (by unfold kF;first|rw[aQ q1];rfl|rw[aP q1];rfl)
 refine jY (pr:=(0<=d/\0<(2:af)/\jX .i64 d)/\(j8 (d/2) E.length)) ⟨⟨by omega,by omega,⟨by omega,by omega⟩⟩,bx⟩ ?_;exact jW (((E.getD (d/2).toNat (0,0)).1:af),()) (by unfold kF;first|rw[aQ q1];rfl|rw[aP q1];rfl)
def GZ:lM aR:=plain Vz
theorem aem:kr aR 165 [(aD,D9),(aD,(.map .int (.list .int))),(aD,.int),(aD,.int)] [(.map .int .int)] (λx=>kz (I_ x.1.1) (E_ x.1.2)=0/\DOk (E_ x.1.2) (show jw .int (aa af) from x.2.1)/\0<=(I_ x.2.2.1)/\(I_ x.2.2.1)<1024) (λx=>(nr (E_ x.1.2) (show jw .int (aa af) from x.2.1) (I_ x.2.2.1) (I_ x.2.2.2.1),())):=by
 refine kJ f165 74 [GZ,inl [] [(6,aD)] func183,inl [] [] func177,inl [] [] func182] func165 λo x hd _ _ h=>?_;obtain⟨⟨(n:af),(E:aa (af×af))⟩,(M:jw .int (aa af)),(a:af),(shut:af),_⟩:=x;have vC:=LS h 0 E;change kz n E=0/\DOk E M/\0<=a/\a<1024 at hd;have⟨hr,hD,QJ,QK⟩:=hd;obtain⟨hn0,JH,hE,_⟩:=l6 hr;refine go (pr:=(nv .int a)/\(([]:jw .int af).length<=2147483647)/\(([]:aa af).length+([a]:aa af).length<=2147483647)/\(¬((([a]:aa af).length:af)=0))/\(j8 (0:af) ([a]:aa af).length)/\(0<=(1:af)/\(1:af)<=(([a]:aa af).length:af))) [] h ⟨wk,ln,ln,by simp,bx,ct⟩ ?_;intro _ _ h;refine go_loop (af×ak×aa af×(aa (af×af))×ah) (λx_=>(λ(v:af) (ok:ak) (q:aa af) (m:aa (af×af)) (k:ah)=>⟨[(1,em 0),(3,en shut),(4,ep 1),(9,em 2),(10,az ⟨[],.one (.sR 182 [(3,0)])⟩),(11,az ⟨[],.one (.sR 183 [(3,0)])⟩),(12,en v),(13,az ⟨[],.one (.b (.raw ok))⟩)],[(0,az (.Dv .int (.list .int) M)),(1,az (.box 55 [.v (.int .i64 n),.own 4])),(2,az (.map .int .int m)),(3,az (.box 24 [.own 5])),(4,az (.ar CO E)),(5,az (.row 3 .int q))],6⟩) x_.1 x_.2.1 x_.2.2.1 x_.2.2.2.1 x_.2.2.2.2) (λx_=>(λ(v:af) (ok:ak) (q:aa af) (m:aa (af×af)) (k:ah)=>Kx E M a shut v ok q m k/\av) x_.1 x_.2.1 x_.2.2.1 x_.2.2.2.1 x_.2.2.2.2) (λx_=>(λ(v:af) (ok:ak) (q:aa af) (m:aa (af×af)) (k:ah)=>2*E.length+3-k) x_.1 x_.2.1 x_.2.2.1 x_.2.2.2.1 x_.2.2.2.2) (a,aC,[],[(a,0)],0) (rk [1,2,8194,28802,0,70274]) h ⟨Kx.init E M a shut,tv⟩ λx_ _ _ _ mR hI h=>?_;obtain⟨v,ok,q,m,k⟩:=x_;have⟨hR,_⟩:=hI;dsimp only at hR;refine tY [] h ?_;refine jZ (λ(q1:ok=aC)=>?_) (λ(q1:ok=aD)=>?_)
 .have g1:=(hR.go q1).1;have⟨b1,b2⟩:=g1.bd;obtain⟨v1,v2⟩:=acq hr QJ QK v g1.vU;refine jY (pr:=(nv .int v)) wk ?_;refine vW af (aa (af×af)) (aa af) (λi ml ql=>⟨[(1,em 0),(3,en shut),(4,ep 1),(9,em 2),(10,az ⟨[],.one (.sR 182 [(3,0)])⟩),(11,az ⟨[],.one (.sR 183 [(3,0)])⟩),(12,en v),(42,eo 4),(43,en (((jr M v).getD []).length:af)),(44,en i)],[(0,az (.Dv .int (.list .int) M)),(1,az (.box 55 [.v (.int .i64 n),.own 5])),(2,az (.map .int .int ml)),(3,az (.box 24 [.own 6])),(4,az (.ar .int ((jr M v).getD []))),(5,az (.ar CO E)),(6,az (.row 3 .int ql))],7⟩) (λi ml ql=>0<=i/\i<=(((jr M v).getD []).length:af)/\(((jr M v).getD []).take i.toNat).foldl (nZ E v shut) (m,q)=(ml,ql)/\P8 E a v k ml ql) (λi ml ql=>((((jr M v).getD []).length:af)-i).toNat) 0 m q (rk [0,1,2,3,12294,4,5]) ⟨by omega,by omega,rfl,g1⟩ λi ml ql _ zf hI=>?_;have⟨i0,i1,hf,hM⟩:=hI;intro _ _ h;have i2:(((jr M v).getD []).length:af)<=9223372036854775807:=tP h 4 (t:=.int) (l:=((jr M v).getD []));refine tY [] h ?_;refine jR (p:=i<(((jr M v).getD []).length:af)) (λq2=>?_) λq2=>?_
  .have q2_:=q2;obtain⟨d1,d2⟩:=hD v (((jr M v).getD []).getD i.toNat 0) (qY.2 ⟨i.toNat,by omega,rfl⟩);obtain⟨w1,w2,w3⟩:=Na hr d1 d2;have⟨b3,b4⟩:=hM.bd;have c1:=hM.c;have c2:=hM.n;refine jY (pr:=(j8 i ((jr M v).getD []).length)/\(0<=(((jr M v).getD []).getD i.toNat 0)/\(((jr M v).getD []).getD i.toNat 0)/2<(aM E:af)/\(((jr M v).getD []).getD i.toNat 0)<=1000000)/\(nv .int (kF E (((jr M v).getD []).getD i.toNat 0)))) ⟨bx,⟨d1,d2,by omega⟩,wk⟩ ?_;refine jZ (λ(q3:(((jr ml (kF E (((jr M v).getD []).getD i.toNat 0))).isSome)=aC)\/(kF E (((jr M v).getD []).getD i.toNat 0)=shut))=>?_) (λ(q3:(((jr ml (kF E (((jr M v).getD []).getD i.toNat 0))).isSome)=aD)/\(¬(kF E (((jr M v).getD []).getD i.toNat 0)=shut)))=>?_)
   .refine jY (pr:=(jX .i64 (i+1))) kC ?_;exact oa (zf (i+1) ml ql (ir 7) ⟨by omega,by omega,by rw[ve _ _ i0 q2_,hf];exact aQ q3,hM⟩ lt_)
   refine jY (pr:=(nv .int v)/\(jX .i64 (((jr ml v).getD 0)+1))/\(nv .int (kF E (((jr M v).getD []).getD i.toNat 0)))/\(ml.length<=2147483647)/\(ql.length+([kF E (((jr M v).getD []).getD i.toNat 0)]:aa af).length<=2147483647)/\(jX .i64 (i+1))) ⟨wk,kC,wk,ln,ln,kC⟩ ?_;exact oa (zf (i+1) (kZ ml (kF E (((jr M v).getD []).getD i.toNat 0)) (((jr ml v).getD 0)+1)) (ql++([kF E (((jr M v).getD []).getD i.toNat 0)]:aa af)) (rk [0,1,2,3,4,5,127175]) ⟨by omega,by omega,by rw[ve _ _ i0 q2_,hf];exact aP (ajz q3),hM.ajA (bl _ w3) (ajz q3)⟩ lt_)
  have hS {q3:aa af}:=hR.step (q2:=q3) (by assumption) (show oG E M v shut (m,q)=(ml,ql) by rw[dI (by omega)] at hf;exact hf) hM;have c2:=hM.n;have⟨b3,b4⟩:=hM.bd
  by_cases z1:ql=[]
  .refine IG [GZ,inl [] [(6,aC)] func183,inl [] [] func177,inl [] [] func182] ?_;refine jY (pr:=((aM ql:af)=0)) (by rw[z1];rfl) ?_;intro _ _ h;exact VQ (mR (0,aD,ql,ml,k+1) (rk [0,1,2,3,5,6]) h ⟨hS.1 z1,tv⟩ (by have:=hR.kB;dsimp only;omega))
  have Af:0<ql.length:=List.length_pos_iff.2 z1;refine IG [GZ,inl [] [(6,aD)] func183,inl [] [] func177,inl [] [] func182] ?_;refine jY (pr:=(¬((aM ql:af)=0))/\(j8 (0:af) ql.length)/\(0<=(1:af)/\(1:af)<=(aM ql:af))) ⟨by omega,bx,ct⟩ ?_;intro _ _ h;exact VQ (mR ((ql.getD 0 0),aC,(ql.drop 1),ml,k+1) (rk [0,1,2,3,5,8839]) h ⟨(hS (q3:=[])).2 _ _ (acp z1),tv⟩ (by have:=hR.kB;dsimp only;omega))
 refine jQ ?_;exact jW ((m:jw .int af),()) (bh (·,()) (hR.done q1))
def aen:lM aR:=plain aem
theorem aih:kr aR 164 [(aD,D9),(aD,CP)] [(.map .int (.list .int))] (λx=>j6 (I_ x.1.1) (E_ x.1.2) (J_ x.2.1.1) (J_ x.2.1.2)=0) (λx=>(kU (E_ x.1.2) (J_ x.2.1.2),())):=by
 refine kJ f164 51 [] func164 λo x hd _ _ h=>?_;obtain⟨⟨(n:af),(E:aa (af×af))⟩,⟨(V:aa af),(L:aa af)⟩,_⟩:=x;have vC:=LS h 0 E;have uB:=pP h 1 V;have rI:=pP h 2 L;change j6 n E V L=0 at hd;refine tY [(10,aC)] h ?_;refine uf af (aa (af×aa af)) (λi m=>⟨[(2,ep 0),(5,em 1),(12,eo 2),(13,en (aM L:af)),(14,en i)],[(0,az (.box 55 [.v (.int .i64 n),.own 3])),(1,az (.ext (.mj 4 .int aA .int 3 m))),(2,az (.ar .int L)),(3,az (.ar CO E))],5⟩) (λi m=>0<=i/\i<=(aM L:af)/\m=kU E (L.take i.toNat)) (λi m=>((aM L:af)-i).toNat) 0 [] (rk [3,12291,2,0,12291]) ⟨by omega,by omega,rfl⟩ λi m _ mR hI=>?_;have⟨h0,h0b,hm⟩:=hI;refine jQ ?_;refine jR (p:=i<(aM L:af)) (λq1=>?_) λq1=>?_
 .obtain⟨⟨f1,f2,f3⟩,⟨f4,f5,f6,f7⟩,f8,f9,f10,f11⟩:=FP hd hm h0 q1;refine jY (pr:=(j8 i L.length)/\(j8 (L.getD i.toNat 0) E.length)/\(j8 (L.getD i.toNat 0) E.length)/\(nv .int ((E.getD (L.getD i.toNat 0).toNat (0,0)).1))/\(jX .i64 (2*(L.getD i.toNat 0)))/\(((jr m ((E.getD (L.getD i.toNat 0).toNat (0,0)).1)).getD []).length+([2*(L.getD i.toNat 0)]:aa af).length<=2147483647)/\(nv .int ((E.getD (L.getD i.toNat 0).toNat (0,0)).1))/\(DA (k:=.int) (az ((E.getD (L.getD i.toNat 0).toNat (0,0)).1)) ((E.getD (L.getD i.toNat 0).toNat (0,0)).1))/\(m.length<=2147483647)/\(nv .int ((E.getD (L.getD i.toNat 0).toNat (0,0)).2))/\(jX .i64 (2*(L.getD i.toNat 0)))/\(jX .i64 ((2*(L.getD i.toNat 0))+1))/\(((jr (kZ m ((E.getD (L.getD i.toNat 0).toNat (0,0)).1) (((jr m ((E.getD (L.getD i.toNat 0).toNat (0,0)).1)).getD [])++([2*(L.getD i.toNat 0)]:aa af))) ((E.getD (L.getD i.toNat 0).toNat (0,0)).2)).getD []).length+([(2*(L.getD i.toNat 0))+1]:aa af).length<=2147483647)/\(nv .int ((E.getD (L.getD i.toNat 0).toNat (0,0)).2))/\(DA (k:=.int) (az ((E.getD (L.getD i.toNat 0).toNat (0,0)).2)) ((E.getD (L.getD i.toNat 0).toNat (0,0)).2))/\((kZ m ((E.getD (L.getD i.toNat 0).toNat (0,0)).1) (((jr m ((E.getD (L.getD i.toNat 0).toNat (0,0)).1)).getD [])++([2*(L.getD i.toNat 0)]:aa af))).length<=2147483647)/\(jX .i64 (i+1))) ⟨bx,bx,bx,wk,kC,ln,wk,rfl,ln,wk,kC,kC,ln,wk,rfl,ln,kC⟩ ?_;exact oa (mR (i+1) (kZ (kZ m ((E.getD (L.getD i.toNat 0).toNat (0,0)).1) (((jr m ((E.getD (L.getD i.toNat 0).toNat (0,0)).1)).getD [])++([2*(L.getD i.toNat 0)]:aa af))) ((E.getD (L.getD i.toNat 0).toNat (0,0)).2) (((jr (kZ m ((E.getD (L.getD i.toNat 0).toNat (0,0)).1) (((jr m ((E.getD (L.getD i.toNat 0).toNat (0,0)).1)).getD [])++([2*(L.getD i.toNat 0)]:aa af))) ((E.getD (L.getD i.toNat 0).toNat (0,0)).2)).getD [])++([(2*(L.getD i.toNat 0))+1]:aa af))) (rk [0,1,2,3,155653]) ⟨by omega,by omega,by rw[P5 h0 q1,<-hm];rfl⟩ lt_)
 refine jQ ?_;exact jW ((m:jw .int (aa af)),()) (by rw[hm,dI (by omega)])
def aii:lM aR:=plain aih
theorem abb:kr aR 136 [(aD,D9),(aD,CP)] [(.list CP),.int] (λx=>tU (I_ x.1.1)) (λx=>(if j6 (I_ x.1.1) (E_ x.1.2) (J_ x.2.1.1) (J_ x.2.1.2)≠0 then[] else xT (E_ x.1.2) (J_ x.2.1.1) (J_ x.2.1.2),j6 (I_ x.1.1) (E_ x.1.2) (J_ x.2.1.1) (J_ x.2.1.2),())):=by
 refine kJ f136 106 [aii,aen,KQ] func136 λo x hd _ _ h=>?_;obtain⟨⟨(n:af),(E:aa (af×af))⟩,⟨(V:aa af),(L:aa af)⟩,_⟩:=x;have vC:=LS h 0 E;have uB:=pP h 1 V;have rI:=pP h 2 L;change tU n at hd;refine go (pr:=(tU n)) [] h hd ?_;refine pY (p:=j6 n E V L=0) (λq1=>?_) λq1=>?_
 .refine jQ ?_;exact jW (([]:aa ((aa af)×aa af)),(j6 n E V L:af),()) (bh (λz=>(z,j6 n E V L,())) (aQ (c:=j6 n E V L≠0) q1).symm)
 have hp:=q1;obtain⟨hr,hVr,hLr,p9⟩:=kA hp;obtain⟨hn0,JH,hEn,_⟩:=l6 hr;have hVn:=nk hVr hn0;have hLn:=nk hLr (by omega);refine jY (pr:=(j6 n E V L=0)) hp ?_;refine vW af (aa (af×af)) (aa (aa af×aa af)) (λi pm ou=>⟨[(2,ep 0),(3,ep 1),(7,em 2),(8,em 3),(9,eo 4),(30,eo 5),(31,en (aM V:af)),(32,en i)],[(0,az (.box 55 [.v (.int .i64 n),.own 6])),(1,az (.box 26 [.own 5,.own 7])),(2,az (.yq .int (.list .int) (kU E L))),(3,az (.map .int .int pm)),(4,az (.ext (.nest 8 aA 26 CP 3 ou))),(5,az (.ar .int V)),(6,az (.ar CO E)),(7,az (.ar .int L))],9⟩) (λi pm ou=>0<=i/\i<=(aM V:af)/\yy E V L i pm ou) (λi pm ou=>((aM V:af)-i).toNat) 0 [] [] [(0,az 3),(1,az 4099),(2,az 49155),(3,az 57347),(4,aA),(5,az 1),(6,az 0),(7,az 2),(8,aA)] ⟨by omega,by omega,yy.zero E V L⟩ λi pm ou _ mR hI=>?_;have⟨i0,i1,hP⟩:=hI;refine jQ ?_;refine jR (p:=i<(aM V:af)) (λq2=>?_) λq2=>?_
 .obtain⟨x1,x2,_⟩:=hVr i.toNat (by omega);have nP:=bC hP.n (cm 3000 (show i.toNat<=1024 by omega));have oP:=hP.o;refine jY (pr:=(j8 i V.length)/\(nv .int (V.getD i.toNat 0))) ⟨bx,wk⟩ ?_;refine jZ (λ(q3:((jr pm (V.getD i.toNat 0)).isSome)=aD)=>?_) (λ(q3:((jr pm (V.getD i.toNat 0)).isSome)=aC)=>?_)
  .obtain⟨R1,_,R3,_⟩:=Nl (shut:= -1) (Nn hr (FX hp) (V.getD i.toNat 0));refine jY (pr:=(kz n E=0/\DOk E (kU E L)/\0<=(V.getD i.toNat 0)/\(V.getD i.toNat 0)<1024)) (⟨hr,FX hp,x1,by omega⟩) ?_;refine CR (af->ak) ah (ai (af×af)) (aa (af×af)) (λlf cnt cur xw=>⟨[(2,ep 0),(3,ep 1),(7,em 2),(8,em 3),(9,eo 4),(11,en (V.getD i.toNat 0)),(30,eo 5),(31,en (aM V:af)),(32,en i),(48,ep 6)],[(0,az (.box 55 [.v (.int .i64 n),.own 7])),(1,az (.box 26 [.own 5,.own 8])),(2,az (.yq .int (.list .int) (kU E L))),(3,az (.map .int .int xw)),(4,az (.ext (.nest 9 aA 26 CP 3 ou))),(5,az (.ar .int V)),(6,az (.iter .int .int (nr E (kU E L) (V.getD i.toNat 0) (-1:af)) lf cnt cur)),(7,az (.ar CO E)),(8,az (.ar .int L))],10⟩) (λlf cnt cur xw=>ItI (nr E (kU E L) (V.getD i.toNat 0) (-1)) pm (aM ou:af) lf cnt xw/\av) (λlf cnt cur xw=>cnt) (λz=>(jr (nr E (kU E L) (V.getD i.toNat 0) (-1)) z).isSome) ((nr E (kU E L) (V.getD i.toNat 0) (-1)).length) aA pm (rk [0,1,2,3,4,5,73737,6,7,8]) ⟨ItI.start _ _ _,tv⟩ λlf cnt cur xw _ zf hI=>?_;have⟨hT,_⟩:=hI;refine jQ ?_;intro _ _ h;refine RD ⟨.int,.int,(nr E (kU E L) (V.getD i.toNat 0) (-1:af)),lf,cnt,cur,6,49⟩ h (λ(uB:∀x:af,lf x=aD) _ _ h=>?_) (λ(k1:af) (v1:af) (c1:ah) (uB:lf k1=aC) (hw1: -9223372036854775808<=k1/\k1<=9223372036854775807) (hk1:jr (nr E (kU E L) (V.getD i.toNat 0) (-1:af)) k1=az v1) (Ho:c1<cnt) _ _ h=>?_)
   .obtain⟨hI2,hS2⟩:=hP.new i0 q2 q3 R3 (by omega) (hT.fin uB);obtain⟨⟨a1,a2⟩,a3⟩:=yy.at2 hS2;refine go (pr:=(ou.length+([([],[])]:aa ((aa af)×aa af)).length<=2147483647)/\(nv .int (V.getD i.toNat 0))/\(j8 ((jr xw (V.getD i.toNat 0)).getD 0) (ou++([([],[])]:aa ((aa af)×aa af))).length)/\((((ou++([([],[])]:aa ((aa af)×aa af))).getD ((jr xw (V.getD i.toNat 0)).getD 0).toNat ([],[])).1).length+([(V.getD i.toNat 0)]:aa af).length<=2147483647)/\(j8 ((jr xw (V.getD i.toNat 0)).getD 0) (ou++([([],[])]:aa ((aa af)×aa af))).length)/\(j8 ((jr xw (V.getD i.toNat 0)).getD 0) (ou++([([],[])]:aa ((aa af)×aa af))).length)/\(j8 ((jr xw (V.getD i.toNat 0)).getD 0) (ou++([([],[])]:aa ((aa af)×aa af))).length)/\(Il (az (((jr xw (V.getD i.toNat 0)).getD 0).toNat*2+0)) (((jr xw (V.getD i.toNat 0)).getD 0).toNat*2+0))/\(jX .i64 (i+1))) [(59,aC)] h ⟨ln,wk,bx,ln,bx,bx,bx,rfl,kC⟩ ?_;exact oa (mR (i+1) xw ((ou++([([],[])]:aa ((aa af)×aa af))).set ((jr xw (V.getD i.toNat 0)).getD 0).toNat (((((ou++([([],[])]:aa ((aa af)×aa af))).getD ((jr xw (V.getD i.toNat 0)).getD 0).toNat ([],[])).1)++([(V.getD i.toNat 0)]:aa af)),((ou++([([],[])]:aa ((aa af)×aa af))).getD ((jr xw (V.getD i.toNat 0)).getD 0).toNat ([],[])).2)) (rk [0,1,2,3,20490,5,7,8,94218]) ⟨by omega,by omega,hI2⟩ lt_)
   have nT:=hT.n;refine go (pr:=(nv .int k1)/\(xw.length<=2147483647)) [] h ⟨wk,ln⟩ ?_;exact oa (zf (λz=>lf z && !decide (z=k1)) c1 (az (k1,v1)) (kZ xw k1 (aM ou:af)) (ir 10) ⟨hT.step uB hk1 Ho,tv⟩ Ho)
  obtain⟨⟨a1,a2⟩,a3⟩:=hP.at_ i0 i1 (x:=(V.getD i.toNat 0)) q3;have hI1:=hP.met i0 q2 q3;refine jY (pr:=(nv .int (V.getD i.toNat 0))/\(j8 ((jr pm (V.getD i.toNat 0)).getD 0) ou.length)/\(((ou.getD ((jr pm (V.getD i.toNat 0)).getD 0).toNat ([],[])).1).length+([(V.getD i.toNat 0)]:aa af).length<=2147483647)/\(j8 ((jr pm (V.getD i.toNat 0)).getD 0) ou.length)/\(j8 ((jr pm (V.getD i.toNat 0)).getD 0) ou.length)/\(j8 ((jr pm (V.getD i.toNat 0)).getD 0) ou.length)/\(Il (az (((jr pm (V.getD i.toNat 0)).getD 0).toNat*2+0)) (((jr pm (V.getD i.toNat 0)).getD 0).toNat*2+0))/\(jX .i64 (i+1))) ⟨wk,bx,ln,bx,bx,bx,rfl,kC⟩ ?_;exact oa (mR (i+1) pm (ou.set ((jr pm (V.getD i.toNat 0)).getD 0).toNat ((((ou.getD ((jr pm (V.getD i.toNat 0)).getD 0).toNat ([],[])).1)++([(V.getD i.toNat 0)]:aa af)),(ou.getD ((jr pm (V.getD i.toNat 0)).getD 0).toNat ([],[])).2)) (rk [0,1,2,3,4,5,6,7,122889]) ⟨by omega,by omega,hI1⟩ lt_)
 have hF:=hP.fin q2;refine jQ ?_;refine uf af (aa (aa af×aa af)) (λj o2=>⟨[(2,ep 0),(8,em 1),(9,eo 2),(78,eo 3),(79,en (aM L:af)),(80,en j)],[(0,az (.box 55 [.v (.int .i64 n),.own 4])),(1,az (.map .int .int pm)),(2,az (.ext (.nest 5 aA 26 CP 3 o2))),(3,az (.ar .int L)),(4,az (.ar CO E))],6⟩) (λj o2=>0<=j/\j<=(aM L:af)/\Qc E V L j ou.length o2) (λj o2=>((aM L:af)-j).toNat) 0 ou (rk [0,3,4,7,6,8]) ⟨by omega,by omega,hF.2.2⟩ λj o2 _ wo hI=>?_;have⟨j0,j1,hE⟩:=hI;refine jQ ?_;refine jR (p:=j<(aM L:af)) (λq4=>?_) λq4=>?_
 .obtain⟨⟨f1,f2,f3⟩,⟨f4,f5,f6,f7⟩,_⟩:=FP hp rfl j0 q4;obtain⟨⟨a1,a2⟩,_⟩:=hP.at_ i0 i1 (x:=(E.getD (L.getD j.toNat 0).toNat (0,0)).1) (hP.all q2 (C2 hp j0 q4).1);have n2:=hE.n;have n3:=hE.at_ ((jr pm (E.getD (L.getD j.toNat 0).toNat (0,0)).1).getD 0).toNat;refine jY (pr:=(j8 j L.length)/\(j8 (L.getD j.toNat 0) E.length)/\(nv .int ((E.getD (L.getD j.toNat 0).toNat (0,0)).1))/\(j8 ((jr pm ((E.getD (L.getD j.toNat 0).toNat (0,0)).1)).getD 0) o2.length)/\(((o2.getD ((jr pm ((E.getD (L.getD j.toNat 0).toNat (0,0)).1)).getD 0).toNat ([],[])).2).length+([(L.getD j.toNat 0)]:aa af).length<=2147483647)/\(j8 ((jr pm ((E.getD (L.getD j.toNat 0).toNat (0,0)).1)).getD 0) o2.length)/\(j8 ((jr pm ((E.getD (L.getD j.toNat 0).toNat (0,0)).1)).getD 0) o2.length)/\(j8 ((jr pm ((E.getD (L.getD j.toNat 0).toNat (0,0)).1)).getD 0) o2.length)/\(Il (az (((jr pm ((E.getD (L.getD j.toNat 0).toNat (0,0)).1)).getD 0).toNat*2+1)) (((jr pm ((E.getD (L.getD j.toNat 0).toNat (0,0)).1)).getD 0).toNat*2+1))/\(jX .i64 (j+1))) ⟨bx,bx,wk,bx,ln,bx,bx,bx,rfl,kC⟩ ?_;exact oa (wo (j+1) (o2.set ((jr pm ((E.getD (L.getD j.toNat 0).toNat (0,0)).1)).getD 0).toNat ((o2.getD ((jr pm ((E.getD (L.getD j.toNat 0).toNat (0,0)).1)).getD 0).toNat ([],[])).1,(((o2.getD ((jr pm ((E.getD (L.getD j.toNat 0).toNat (0,0)).1)).getD 0).toNat ([],[])).2)++([(L.getD j.toNat 0)]:aa af)))) (rk [0,1,2,3,4,102406]) ⟨by omega,by omega,hE.step hF.1 j0 q4⟩ lt_)
 refine jQ ?_;exact jW ((o2:aa ((aa af)×aa af)),((0:af):af),()) (by have e1:=hE.f;rw[dI (by omega)] at e1;exact Qd hp e1)
def OH:lM aR:=plain abb
theorem VA:kr aR 163 [(aD,D9),(aD,.int)] [.int] (λx=>0<=(I_ x.2.1)/\(I_ x.2.1)/2<((E_ x.1.2).length:af)/\(I_ x.2.1)<=1000000) (λx=>(j7 (E_ x.1.2) (I_ x.2.1),())):=by
 refine kJ f163 22 [] func163 λo x hd _ _ h=>?_;obtain⟨⟨(n:af),(E:aa (af×af))⟩,(d:af),_⟩:=x;have vC:=LS h 0 E;change 0<=d/\d/2<(aM E:af)/\d<=1000000 at hd;have⟨d0,d1,d2⟩:=hd;refine go (pr:=(0<=d/\0<(2:af))) [] h (⟨by omega,by omega⟩) ?_;refine jR (p:=d%2=0) (λq1=>?_) λq1=>?_
 .refine jY (pr:=(0<=d/\0<(2:af)/\jX .i64 d)/\(j8 (d/2) E.length)) ⟨⟨by omega,by omega,⟨by omega,by omega⟩⟩,bx⟩ ?_;exact jW (((E.getD (d/2).toNat (0,0)).1:af),()) (by simp only[j7,aQ q1];rfl)
 refine jY (pr:=(0<=d/\0<(2:af)/\jX .i64 d)/\(j8 (d/2) E.length)) ⟨⟨by omega,by omega,⟨by omega,by omega⟩⟩,bx⟩ ?_;exact jW (((E.getD (d/2).toNat (0,0)).2:af),()) (by simp only[j7,aP q1];rfl)
def VB:lM aR:=plain VA
theorem aeo:kr aR 135 [(aD,D9),(aD,CP),(aD,(.list (.list .int)))] [(.list .int),.int] (λx=>tU (I_ x.1.1)/\ng (K_ x.2.2.1)/\kK (K_ x.2.2.1)) (λx=>((m6 (I_ x.1.1) (E_ x.1.2) (J_ x.2.1.1) (J_ x.2.1.2) (K_ x.2.2.1)).1,(m6 (I_ x.1.1) (E_ x.1.2) (J_ x.2.1.1) (J_ x.2.1.2) (K_ x.2.2.1)).2,())):=by
 refine kJ f135 120 [VB,OH,LC] func135 λo x hd _ _ h=>?_;obtain⟨⟨(n:af),(E:aa (af×af))⟩,⟨(V:aa af),(L:aa af)⟩,(T:aa (aa af)),_⟩:=x;have vC:=LS h 0 E;have uB:=pP h 1 V;have rI:=pP h 2 L;have Az:=vK h 3 T;change tU n/\ng T/\kK T at hd;have⟨hn,yd,oC⟩:=hd;refine go (pr:=(tU n/\ng T/\kK T)) [] h (⟨hn,yd,oC⟩) ?_;refine pY (p:=(jm n E V L T).2=0) (λq1=>?_) λq1=>?_
 .refine jQ ?_;exact jW (([]:aa af),((jm n E V L T).2:af),()) (by simp only[m6,aQ q1];rfl)
 have hw0:=q1;obtain⟨wS,hT,hW⟩:=si hw0;have hP:=EB wS;obtain⟨hrt,hV,hL,_⟩:=kA wS;obtain⟨r1,r2,r3,_⟩:=l6 hrt;have hVl:=nk hV r1;have hLl:=nk hL (by omega);have hPl:=hP.len;have hWl:=hW.len;have hAl:=EA (λk=>(hP.bd k).1) (P:=(jy n E V L));refine jY (pr:=(tU n)) hn ?_;refine pY (p:=j6 n E V L=0) (λq2=>?_) λq2=>?_
 .exact(q2 wS).elim
 refine jQ ?_;refine oJ (aa (af×af)) (jy n E V L) (λi m=>⟨[(3,ep 0),(8,eo 1),(10,eo 2),(11,em 3),(46,eo 2),(47,en ((jy n E V L).length:af)),(48,en i)],[(0,az (.box 55 [.v (.int .i64 n),.own 4])),(1,az (.ro VR ((jm n E V L T).1))),(2,az (.ro CP (jy n E V L))),(3,az (.map .int .int m)),(4,az (.ar CO E))],5⟩) (λi m=>m=F9 (jy n E V L) i.toNat) [] (rk [4,28676,69636,114692,0]) rfl λi m _ mR i0 i1 i2=>?_;refine jQ ?_;refine jR (p:=i<((jy n E V L).length:af)) (λq3=>?_) λq3=>?_
 .obtain⟨qb1,qb2⟩:=hP.bd i.toNat;have OU:=hAl i.toNat;have hmu:i.toNat*V.length<=1048576:=bC (aoL (show i.toNat<=1024 by omega) (show V.length<=1024 by omega)) (by decide);rw[<-i2] at OU;refine jY (pr:=(j8 i (jy n E V L).length)) bx ?_;refine oJ (aa (af×af)) (((jy n E V L).getD i.toNat ([],[])).1) (λj mm=>⟨[(3,ep 0),(8,eo 1),(10,eo 2),(11,em 3),(12,en i),(46,eo 2),(47,en ((jy n E V L).length:af)),(48,en i),(54,eo 4),(55,en ((((jy n E V L).getD i.toNat ([],[])).1).length:af)),(56,en j)],[(0,az (.box 55 [.v (.int .i64 n),.own 5])),(1,az (.ro VR ((jm n E V L T).1))),(2,az (.ro CP (jy n E V L))),(3,az (.map .int .int mm)),(4,az (.ro .int (((jy n E V L).getD i.toNat ([],[])).1))),(5,az (.ar CO E))],6⟩) (λj mm=>mm=LW (F9 (jy n E V L) i.toNat) ((jy n E V L).getD i.toNat ([],[])).1 i j.toNat) m (rk [0,1,2,3,12293,4]) i2 λj mm _ zf j0 j1 j2=>?_;refine jQ ?_;refine jR (p:=j<((((jy n E V L).getD i.toNat ([],[])).1).length:af)) (λq4=>?_) λq4=>?_
  .have hvm:=hP.sub i.toNat _ (jz (l:=((jy n E V L).getD i.toNat ([],[])).1) (i:=j.toNat) (d:=0) (by omega));have LP:=(jC.1 hV).2 _ hvm;have Yf:=Ez (m:=F9 (jy n E V L) i.toNat) (vs:=((jy n E V L).getD i.toNat ([],[])).1) (c:=i) j.toNat;rw[<-j2,<-i2] at Yf;refine jY (pr:=(j8 j (((jy n E V L).getD i.toNat ([],[])).1).length)/\(nv .int ((((jy n E V L).getD i.toNat ([],[])).1).getD j.toNat 0))/\(mm.length<=2147483647)/\(jX .i64 (j+1))) ⟨bx,wk,ln,kC⟩ ?_;exact oa (zf (kZ mm ((((jy n E V L).getD i.toNat ([],[])).1).getD j.toNat 0) i) (ir 6) (by rw[Nt j0,<-j2]))
  have hje:j.toNat=((jy n E V L).getD i.toNat ([],[])).1.length:=by omega
  have Kf:=j2;rw[hje] at Kf;refine jY (pr:=(jX .i64 (i+1))) kC ?_;exact oa (mR mm (rk [0,1,2,3,5]) (by rw[Nu i0,<-Kf]))
 have hie:i.toNat=(jy n E V L).length:=by omega
 rw[hie] at i2;refine jY (pr:=(0<=((jy n E V L).length:af)/\((jy n E V L).length:af)<=((jy n E V L).length:af)/\((jy n E V L).length:af)<=2147483647)) (⟨by omega,by omega,by omega⟩) ?_;refine oJ (aa af) ((jm n E V L T).1) (λi fs=>⟨[(3,ep 0),(10,eo 1),(11,em 2),(16,eo 3),(68,eo 4),(69,en (((jm n E V L T).1).length:af)),(70,en i)],[(0,az (.box 55 [.v (.int .i64 n),.own 5])),(1,az (.ro CP (jy n E V L))),(2,az (.map .int .int m)),(3,az (.row 3 .int fs)),(4,az (.ro VR ((jm n E V L T).1))),(5,az (.ar CO E))],6⟩) (λi fs=>fs=C4 E (jy n E V L) (jm n E V L T).1 i.toNat) (dA (jy n E V L).length 0) (rk [0,2,3,12293,1,4]) rfl λi fs _ wo k0 k1 k2=>?_;refine jQ ?_;refine jR (p:=i<(((jm n E V L T).1).length:af)) (λq5=>?_) λq5=>?_
 .have hwm:((jm n E V L T).1.getD i.toNat (0,[]))∈(jm n E V L T).1:=jz (by omega);have TB:=KG wS hW hwm;obtain⟨pi,pi0,_,pi1⟩:=YQ hP TB;have Ri:=KH (E:=E) (P:=(jy n E V L)) (W:=(jm n E V L T).1) i.toNat;rw[<-k2] at Ri;have hfb:=YR (E:=E) (P:=(jy n E V L)) (W:=(jm n E V L T).1) i.toNat;rw[<-k2] at hfb;have VM:=ae8 wS hW hwm;have hky:=hW.key _ hwm;rw[<-i2] at pi1;refine jY (pr:=(j8 i ((jm n E V L T).1).length)/\(jX .i64 ((-1)-((((jm n E V L T).1).getD i.toNat (0,[])).1)))) ⟨bx,kC⟩ ?_;refine jR (p:=(0:af)<(((((jm n E V L T).1).getD i.toNat (0,[])).2).length:af)) (λq6=>?_) λq6=>?_
  .have Ua:sN E ((jm n E V L T).1.getD i.toNat (0,[]))=j7 E ((jm n E V L T).1.getD i.toNat (0,[])).1:=aP (by omega);obtain⟨_,hdd⟩:=hky.resolve_left λz=>by omega
   obtain⟨_,d0,d1,d2⟩:=wV wS hdd;rw[Ua] at pi1 TB;have pi2:(jr m (j7 E ((jm n E V L T).1.getD i.toNat (0,[])).1)).getD 0=(pi:af):=by rw[pi1];rfl
   have LP:=(jC.1 hV).2 _ TB;have amY:=hfb ((jr m (j7 E ((jm n E V L T).1.getD i.toNat (0,[])).1)).getD 0).toNat;refine jY (pr:=(0<=((((jm n E V L T).1).getD i.toNat (0,[])).1)/\((((jm n E V L T).1).getD i.toNat (0,[])).1)/2<(aM E:af)/\((((jm n E V L T).1).getD i.toNat (0,[])).1)<=1000000)/\(nv .int (j7 E ((((jm n E V L T).1).getD i.toNat (0,[])).1)))/\(j8 ((jr m (j7 E ((((jm n E V L T).1).getD i.toNat (0,[])).1))).getD 0) fs.length)/\(jX .i64 ((fs.getD ((jr m (j7 E ((((jm n E V L T).1).getD i.toNat (0,[])).1))).getD 0).toNat 0)+1))/\(j8 ((jr m (j7 E ((((jm n E V L T).1).getD i.toNat (0,[])).1))).getD 0) fs.length)/\(j8 ((jr m (j7 E ((((jm n E V L T).1).getD i.toNat (0,[])).1))).getD 0) fs.length)/\(jX .i64 (i+1))) ⟨⟨by omega,by omega,by omega⟩,wk,bx,kC,bx,bx,kC⟩ ?_;exact oa (wo (fs.set ((jr m (j7 E ((((jm n E V L T).1).getD i.toNat (0,[])).1))).getD 0).toNat ((fs.getD ((jr m (j7 E ((((jm n E V L T).1).getD i.toNat (0,[])).1))).getD 0).toNat 0)+1)) (ir 6) (by rw[I3 k0,Ua,<-k2,<-i2]))
  have Ua:sN E ((jm n E V L T).1.getD i.toNat (0,[]))= -1-((jm n E V L T).1.getD i.toNat (0,[])).1:=aQ (by omega);rw[Ua] at pi1 TB;have pi2:(jr m (-1-((jm n E V L T).1.getD i.toNat (0,[])).1)).getD 0=(pi:af):=by rw[pi1];rfl
  have LP:=(jC.1 hV).2 _ TB;have amY:=hfb ((jr m (-1-((jm n E V L T).1.getD i.toNat (0,[])).1)).getD 0).toNat;refine jY (pr:=(nv .int ((-1)-((((jm n E V L T).1).getD i.toNat (0,[])).1)))/\(j8 ((jr m ((-1)-((((jm n E V L T).1).getD i.toNat (0,[])).1))).getD 0) fs.length)/\(jX .i64 ((fs.getD ((jr m ((-1)-((((jm n E V L T).1).getD i.toNat (0,[])).1))).getD 0).toNat 0)+1))/\(j8 ((jr m ((-1)-((((jm n E V L T).1).getD i.toNat (0,[])).1))).getD 0) fs.length)/\(j8 ((jr m ((-1)-((((jm n E V L T).1).getD i.toNat (0,[])).1))).getD 0) fs.length)/\(jX .i64 (i+1))) ⟨wk,bx,kC,bx,bx,kC⟩ ?_;exact oa (wo (fs.set ((jr m ((-1)-((((jm n E V L T).1).getD i.toNat (0,[])).1))).getD 0).toNat ((fs.getD ((jr m ((-1)-((((jm n E V L T).1).getD i.toNat (0,[])).1))).getD 0).toNat 0)+1)) (ir 6) (by rw[I3 k0,Ua,<-k2,<-i2]))
 have hke:i.toNat=(jm n E V L T).1.length:=by omega
 rw[hke] at k2;have Ri:=KH (E:=E) (P:=(jy n E V L)) (W:=(jm n E V L T).1) (jm n E V L T).1.length;rw[<-k2] at Ri;refine jQ ?_;refine oJ (aa af) (jy n E V L) (λi gs=>⟨[(16,eo 0),(20,eo 1),(94,eo 2),(95,en ((jy n E V L).length:af)),(96,en i)],[(0,az (.row 3 .int fs)),(1,az (.row 3 .int gs)),(2,az (.ro CP (jy n E V L)))],3⟩) (λi gs=>gs=NA (jy n E V L) fs i.toNat) [] [(0,az 3),(1,aA),(2,az 1)] rfl λi gs _ HH g0 g1 g2=>?_;refine jQ ?_;refine jR (p:=i<((jy n E V L).length:af)) (λq7=>?_) λq7=>?_
 .obtain⟨qb1,qb2⟩:=hP.bd i.toNat;have hfb:=YR (E:=E) (P:=(jy n E V L)) (W:=(jm n E V L T).1) (jm n E V L T).1.length i.toNat;rw[<-k2] at hfb;have hgl:=KI (P:=(jy n E V L)) (fs:=fs) i.toNat;rw[<-g2] at hgl;refine AP (pr:=(j8 i (jy n E V L).length)/\(jX .i64 (2-((((jy n E V L).getD i.toNat ([],[])).1).length:af)))/\(jX .i64 ((2-((((jy n E V L).getD i.toNat ([],[])).1).length:af))+((((jy n E V L).getD i.toNat ([],[])).2).length:af)))/\(j8 i fs.length)/\(jX .i64 (((2-((((jy n E V L).getD i.toNat ([],[])).1).length:af))+((((jy n E V L).getD i.toNat ([],[])).2).length:af))-(fs.getD i.toNat 0)))/\(0<(2:af)/\jX .i64 (((2-((((jy n E V L).getD i.toNat ([],[])).1).length:af))+((((jy n E V L).getD i.toNat ([],[])).2).length:af))-(fs.getD i.toNat 0)))/\(gs.length+([Int.tdiv (((2-((((jy n E V L).getD i.toNat ([],[])).1).length:af))+((((jy n E V L).getD i.toNat ([],[])).2).length:af))-(fs.getD i.toNat 0)) 2]:aa af).length<=2147483647)/\(jX .i64 (i+1))) [(115,aC)] ⟨bx,kC,kC,bx,kC,⟨by omega,⟨by omega,by omega⟩⟩,ln,kC⟩ ?_;exact oa (HH (gs++([Int.tdiv (((2-((((jy n E V L).getD i.toNat ([],[])).1).length:af))+((((jy n E V L).getD i.toNat ([],[])).2).length:af))-(fs.getD i.toNat 0)) 2]:aa af)) (rk [0,94211,2]) (by rw[UP g0,<-g2]))
 have hge:i.toNat=(jy n E V L).length:=by omega
 rw[hge] at g2;refine jQ ?_;exact jW ((gs:aa af),((0:af):af),()) (by simp only[m6,aP (show ¬(jm n E V L T).2≠0 by rw[hw0];exact λq=>q rfl)];rw[<-k2,<-g2])
def aep:lM aR:=plain aeo
theorem aij:kr aR 98 [(aD,D9),(aD,CP),(aD,(.list (.list .int)))] [.int] (λx=>tU (I_ x.1.1)/\ng (K_ x.2.2.1)/\kK (K_ x.2.2.1)) (λx=>(sO (I_ x.1.1) (E_ x.1.2) (J_ x.2.1.1) (J_ x.2.1.2) (K_ x.2.2.1),())):=by
 refine kJ f98 30 [aep] func98 λo x hd _ _ h=>?_;obtain⟨⟨(n:af),(E:aa (af×af))⟩,⟨(V:aa af),(L:aa af)⟩,(T:aa (aa af)),_⟩:=x;have vC:=LS h 0 E;have uB:=pP h 1 V;have rI:=pP h 2 L;have Az:=vK h 3 T;change tU n/\ng T/\kK T at hd;have⟨hn,yd,oC⟩:=hd;refine go (pr:=(tU n/\ng T/\kK T)) [] h (⟨hn,yd,oC⟩) ?_;refine pY (p:=(m6 n E V L T).2=0) (λq1=>?_) λq1=>?_
 .refine jQ ?_;exact jW (((m6 n E V L T).2:af),()) (by simp only[sO,aQ q1];rfl)
 have hgl:=UQ q1;have hpv:=Qg q1;refine jQ ?_;refine IF af (λi=>⟨[(21,eo 0),(22,en (((m6 n E V L T).1).length:af)),(23,en i)],[(0,az (.ro .int ((m6 n E V L T).1)))],1⟩) (λi=>0<=i/\∀j:ah,(j:af)<i->(m6 n E V L T).1.getD j 0=0) (λi=>(((m6 n E V L T).1.length:af)-i).toNat) 0 (rk [24580]) ⟨bM _,λj hj=>by omega⟩ λi _ mR hI=>?_;have⟨i0,i1⟩:=hI;refine jQ ?_;refine jR (p:=i<(((m6 n E V L T).1).length:af)) (λq2=>?_) λq2=>?_
 .refine jY (pr:=(j8 i ((m6 n E V L T).1).length)) bx ?_;refine pY (p:=(((m6 n E V L T).1).getD i.toNat 0)=0) (λq3=>?_) λq3=>?_
  .refine jQ ?_;exact jW (((6:af):af),()) (by rw[YS q1 i0 q2 q3])
  refine jY (pr:=(jX .i64 (i+1))) kC ?_;exact oa (mR (i+1) (ir 1) ⟨by omega,λj hj=>if z:(j:af)<i then i1 j z else by rw[show j=i.toNat by omega];exact q3⟩ (by omega))
 refine jQ ?_;exact jW (((0:af):af),()) (by rw[acz q1 (λj hj=>i1 j (by omega))])
def aik:lM aR:=plain aij
theorem abc:kr aR 137 [(aD,D9),(aD,VR)] [.int] (λx=>((J_ x.2.1.2).length=0/\-1<=-1-(I_ x.2.1.1)/\-1-(I_ x.2.1.1)<=1000000)\/((J_ x.2.1.2).length≠0/\0<=(I_ x.2.1.1)/\(I_ x.2.1.1)/2<((E_ x.1.2).length:af)/\(I_ x.2.1.1)<=1000000)) (λx=>(sN (E_ x.1.2) ((I_ x.2.1.1),(J_ x.2.1.2)),())):=by
 refine kJ f137 34 [] func137 λo x hd _ _ h=>?_;obtain⟨⟨(n:af),(E:aa (af×af))⟩,⟨(k:af),(ds:aa af)⟩,_⟩:=x;have vC:=LS h 0 E;have uB:=pP h 1 ds;change (ds.length=0/\-1<=-1-k/\-1-k<=1000000)\/(ds.length≠0/\0<=k/\k/2<(aM E:af)/\k<=1000000) at hd;refine tY [] h ?_;refine jR (p:=(aM ds:af)=0) (λq1=>?_) λq1=>?_
 .have hk:=hd.resolve_right λz=>z.1 (by omega);refine jY (pr:=(jX .i64 ((-1)-k))) kC ?_;exact jW (((-1)-k:af),()) (by unfold sN;rw[aQ (show(k,ds).2.length=0 by show ds.length=0;omega)])
 have hk:=hd.resolve_left λz=>by omega
 refine jY (pr:=(0<=k/\0<(2:af))) (⟨by omega,by omega⟩) ?_;refine jR (p:=k%2=0) (λq2=>?_) λq2=>?_
 .refine jY (pr:=(0<=k/\0<(2:af)/\jX .i64 k)/\(j8 (k/2) E.length)) ⟨⟨by omega,by omega,⟨by omega,by omega⟩⟩,bx⟩ ?_;exact jW (((E.getD (k/2).toNat (0,0)).1:af),()) (by unfold sN j7;rw[aP (show ¬(k,ds).2.length=0 by show ¬ds.length=0;omega),aQ (show(k,ds).1%2=0 from q2)])
 refine jY (pr:=(0<=k/\0<(2:af)/\jX .i64 k)/\(j8 (k/2) E.length)) ⟨⟨by omega,by omega,⟨by omega,by omega⟩⟩,bx⟩ ?_;exact jW (((E.getD (k/2).toNat (0,0)).2:af),()) (by unfold sN j7;rw[aP (show ¬(k,ds).2.length=0 by show ¬ds.length=0;omega),aP (show ¬(k,ds).1%2=0 from q2)])
def abd:lM aR:=plain abc
theorem abe:kr aR 99 [(aD,D9),(aD,CP),(aD,(.list (.list .int)))] [(.map .int .int),.int] (λx=>tU (I_ x.1.1)/\ng (K_ x.2.2.1)/\kK (K_ x.2.2.1)/\(jm (I_ x.1.1) (E_ x.1.2) (J_ x.2.1.1) (J_ x.2.1.2) (K_ x.2.2.1)).2=0) (λx=>(kM (E_ x.1.2) (jy (I_ x.1.1) (E_ x.1.2) (J_ x.2.1.1) (J_ x.2.1.2)) (jm (I_ x.1.1) (E_ x.1.2) (J_ x.2.1.1) (J_ x.2.1.2) (K_ x.2.2.1)).1 (jm (I_ x.1.1) (E_ x.1.2) (J_ x.2.1.1) (J_ x.2.1.2) (K_ x.2.2.1)).1.length,((jy (I_ x.1.1) (E_ x.1.2) (J_ x.2.1.1) (J_ x.2.1.2)).length:af),())):=by
 refine kJ f99 72 [abd,OH,LC] func99 λo x hd _ _ h=>?_;obtain⟨⟨(n:af),(E:aa (af×af))⟩,⟨(V:aa af),(L:aa af)⟩,(T:aa (aa af)),_⟩:=x;have vC:=LS h 0 E;have uB:=pP h 1 V;have rI:=pP h 2 L;have Az:=vK h 3 T;change tU n/\ng T/\kK T/\(jm n E V L T).2=0 at hd;have⟨hn,yd,oC,hw0⟩:=hd;obtain⟨wS,hT,hW⟩:=si hw0;have hP:=EB wS;obtain⟨hrt,hV,hL,_⟩:=kA wS;obtain⟨r1,r2,r3,_⟩:=l6 hrt;have hVl:=nk hV r1;have hLl:=nk hL (by omega);have hPl:=hP.len;have hWl:=hW.len;have hAl:=EA (λk=>(hP.bd k).1) (P:=(jy n E V L));refine go (pr:=(tU n)) [] h hn ?_;refine oJ (aa (af×af)) (jy n E V L) (λi m=>⟨[(2,eo 0),(3,ep 1),(4,ep 2),(8,eo 3),(10,em 4),(27,eo 3),(28,en ((jy n E V L).length:af)),(29,en i)],[(0,az (.ar (.list .int) T)),(1,az (.box 55 [.v (.int .i64 n),.own 5])),(2,az (.box 26 [.own 6,.own 7])),(3,az (.ro CP (jy n E V L))),(4,az (.map .int .int m)),(5,az (.ar CO E)),(6,az (.ar .int V)),(7,az (.ar .int L))],8⟩) (λi m=>m=F9 (jy n E V L) i.toNat) [] (rk [3,4,4100,24580,49156,0,1,2]) rfl λi m _ mR i0 i1 i2=>?_;refine jQ ?_;refine jR (p:=i<((jy n E V L).length:af)) (λq1=>?_) λq1=>?_
 .obtain⟨qb1,qb2⟩:=hP.bd i.toNat;have OU:=hAl i.toNat;have hmu:i.toNat*V.length<=1048576:=bC (aoL (show i.toNat<=1024 by omega) (show V.length<=1024 by omega)) (by decide);rw[<-i2] at OU;refine jY (pr:=(j8 i (jy n E V L).length)) bx ?_;refine oJ (aa (af×af)) (((jy n E V L).getD i.toNat ([],[])).1) (λj mm=>⟨[(2,eo 0),(3,ep 1),(4,ep 2),(8,eo 3),(10,em 4),(11,en i),(27,eo 3),(28,en ((jy n E V L).length:af)),(29,en i),(35,eo 5),(36,en ((((jy n E V L).getD i.toNat ([],[])).1).length:af)),(37,en j)],[(0,az (.ar (.list .int) T)),(1,az (.box 55 [.v (.int .i64 n),.own 6])),(2,az (.box 26 [.own 7,.own 8])),(3,az (.ro CP (jy n E V L))),(4,az (.map .int .int mm)),(5,az (.ro .int (((jy n E V L).getD i.toNat ([],[])).1))),(6,az (.ar CO E)),(7,az (.ar .int V)),(8,az (.ar .int L))],9⟩) (λj mm=>mm=LW (F9 (jy n E V L) i.toNat) ((jy n E V L).getD i.toNat ([],[])).1 i j.toNat) m (rk [0,1,2,3,4,12296,5,6,7]) i2 λj mm _ zf j0 j1 j2=>?_;refine jQ ?_;refine jR (p:=j<((((jy n E V L).getD i.toNat ([],[])).1).length:af)) (λq2=>?_) λq2=>?_
  .have hvm:=hP.sub i.toNat _ (jz (l:=((jy n E V L).getD i.toNat ([],[])).1) (i:=j.toNat) (d:=0) (by omega));have LP:=(jC.1 hV).2 _ hvm;have Yf:=Ez (m:=F9 (jy n E V L) i.toNat) (vs:=((jy n E V L).getD i.toNat ([],[])).1) (c:=i) j.toNat;rw[<-j2,<-i2] at Yf;refine jY (pr:=(j8 j (((jy n E V L).getD i.toNat ([],[])).1).length)/\(nv .int ((((jy n E V L).getD i.toNat ([],[])).1).getD j.toNat 0))/\(mm.length<=2147483647)/\(jX .i64 (j+1))) ⟨bx,wk,ln,kC⟩ ?_;exact oa (zf (kZ mm ((((jy n E V L).getD i.toNat ([],[])).1).getD j.toNat 0) i) (ir 9) (by rw[Nt j0,<-j2]))
  have hje:j.toNat=((jy n E V L).getD i.toNat ([],[])).1.length:=by omega
  have Kf:=j2;rw[hje] at Kf;refine jY (pr:=(jX .i64 (i+1))) kC ?_;exact oa (mR mm (rk [0,1,2,3,4,6,7,8]) (by rw[Nu i0,<-Kf]))
 have hie:i.toNat=(jy n E V L).length:=by omega
 rw[hie] at i2;refine jY (pr:=(tU n/\ng T/\kK T)) (⟨hn,yd,oC⟩) ?_;refine oJ (aa (af×af)) ((jm n E V L T).1) (λi om=>⟨[(3,ep 0),(8,eo 1),(10,em 2),(15,em 3),(54,eo 4),(55,en (((jm n E V L T).1).length:af)),(56,en i)],[(0,az (.box 55 [.v (.int .i64 n),.own 5])),(1,az (.ro CP (jy n E V L))),(2,az (.map .int .int m)),(3,az (.map .int .int om)),(4,az (.ro VR ((jm n E V L T).1))),(5,az (.ar CO E))],6⟩) (λi om=>om=kM E (jy n E V L) (jm n E V L T).1 i.toNat) [] (rk [1,3,4,4104,24584,5]) rfl λi om _ wo k0 k1 k2=>?_;refine jQ ?_;refine jR (p:=i<(((jm n E V L T).1).length:af)) (λq3=>?_) λq3=>?_
 .have hwm:((jm n E V L T).1.getD i.toNat (0,[]))∈(jm n E V L T).1:=jz (by omega);have TB:=KG wS hW hwm;have LP:=(jC.1 hV).2 _ TB;have VM:=ae8 wS hW hwm;have hcd:=YV wS hW hwm;have OZ:=KK (E:=E) (P:=(jy n E V L)) (W:=(jm n E V L T).1) i.toNat;rw[<-k2] at OZ;refine jY (pr:=(j8 i ((jm n E V L T).1).length)/\(((((jm n E V L T).1).getD i.toNat (0,[])).2.length=0/\-1<=-1-(((jm n E V L T).1).getD i.toNat (0,[])).1/\-1-(((jm n E V L T).1).getD i.toNat (0,[])).1<=1000000)\/((((jm n E V L T).1).getD i.toNat (0,[])).2.length≠0/\0<=(((jm n E V L T).1).getD i.toNat (0,[])).1/\(((jm n E V L T).1).getD i.toNat (0,[])).1/2<(aM E:af)/\(((jm n E V L T).1).getD i.toNat (0,[])).1<=1000000))/\(nv .int (sN E (((jm n E V L T).1).getD i.toNat (0,[]))))/\(nv .int ((((jm n E V L T).1).getD i.toNat (0,[])).1))/\(om.length<=2147483647)/\(jX .i64 (i+1))) ⟨bx,hcd,wk,wk,ln,kC⟩ ?_;exact oa (wo (kZ om ((((jm n E V L T).1).getD i.toNat (0,[])).1) ((jr m (sN E (((jm n E V L T).1).getD i.toNat (0,[])))).getD 0)) (ir 6) (by rw[UR k0,<-k2,<-i2]))
 have hke:i.toNat=(jm n E V L T).1.length:=by omega
 rw[hke] at k2;refine jQ ?_;exact jW ((om:jw .int af),(((jy n E V L).length:af):af),()) (by rw[<-k2])
def abf:lM aR:=plain abe
abbrev abg:sM:=⟨[.box 218 [.mp 1,.own 2,.own 3,.int],.map .int .int,.row 3 .int,.row 3 .int],[.ptr 0 0,.int],[.box 218 [.mp 1,.own 2,.own 3,.int],.map .int .int,.row 3 .int,.row 3 .int],[.int],1,aD,[]⟩
theorem ak4:nX aR 139 abg (λx=>(-9223372036854775808<=(I_ x.2.2.1)/\(I_ x.2.2.1)<=9223372036854775807)/\(show jw .int af from x.1.2.1).length<=1000000/\(J_ x.1.2.2.1).length<=1000000/\(J_ x.1.2.2.2.1).length<=1000000/\-1000000<=(I_ x.1.1.2.2.2.1)/\(I_ x.1.1.2.2.2.1)<=1000000) (λx=>((((),(),(),uh (show jw .int af from x.1.2.1) (I_ x.1.1.2.2.2.1) (I_ x.2.2.1),()),lg (show jw .int af from x.1.2.1) (J_ x.1.2.2.1) (I_ x.2.2.1),l5 (show jw .int af from x.1.2.1) (J_ x.1.2.2.1) (I_ x.2.2.1),l9 (show jw .int af from x.1.2.1) (J_ x.1.2.2.1) (J_ x.1.2.2.2.1) (I_ x.2.2.1),()),(mY (show jw .int af from x.1.2.1) (J_ x.1.2.2.1) (I_ x.2.2.1),()))):=by
 refine oA f139 58 [] abg func139 λo A x hd _ _ h=>?_;obtain⟨⟨⟨_,_,_,(g:af),_⟩,(M:jw .int af),(L:aa af),(U:aa af),_⟩,⟨_,(x:af),_⟩⟩:=x;have rI:=pP h 2 L;have Az:=pP h 3 U;change (-9223372036854775808<=x/\x<=9223372036854775807)/\M.length<=1000000/\L.length<=1000000/\U.length<=1000000/\-1000000<=g/\g<=1000000 at hd;obtain⟨⟨x0,x1⟩,hM,hL,hU,g0,g1⟩:=hd;refine go (pr:=(nv .int x)) [] h wk ?_;refine jZ (λ(q1:((jr M x).isSome)=aC)=>?_) (λ(q1:((jr M x).isSome)=aD)=>?_)
 .refine jQ ?_;obtain⟨i,hi⟩:=bS.1 q1;intro _ _ h;exact mA ((((),(),(),g,()),M,L,U,()),(((jr M x).getD 0),())) (ir 4) h (by simp only[lg,l5,l9,uh,mY,hi];rfl)
 refine jY (pr:=(nv .int x)/\(M.length<=2147483647)/\(L.length+([x]:aa af).length<=2147483647)/\(U.length+([(aM L:af)]:aa af).length<=2147483647)/\(jX .i64 (g+1))) ⟨wk,ln,ln,ln,kC⟩ ?_;have hi:jr M x=aA:=by cases hq:jr M x with|none=>rfl|some _=>rw[hq] at q1;cases q1
 intro _ _ h;exact mA ((((),(),(),g+1,()),(kZ M x (aM L:af)),(L++([x]:aa af)),(U++([(aM L:af)]:aa af)),()),((aM L:af),())) (rk [0,1,135172,180228]) h (by simp only[lg,l5,l9,uh,mY,hi];rfl)
def afP:lM aR:=r8 ak4
abbrev TO:sM:=⟨[.box 218 [.mp 1,.own 2,.own 3,.int],.map .int .int,.row 3 .int,.row 3 .int],[.ptr 0 0,.int],[.box 218 [.mp 1,.own 2,.own 3,.int],.map .int .int,.row 3 .int,.row 3 .int],[.int],1,aD,[]⟩
theorem ail:nX aR 140 TO (λx=>qX (J_ x.1.2.2.2.1)/\0<=(I_ x.2.2.1)/\(I_ x.2.2.1)<((J_ x.1.2.2.2.1).length:af)/\(J_ x.1.2.2.2.1).length<=1000000) (λx=>((((),(),(),(I_ x.1.1.2.2.2.1),()),(show jw .int af from x.1.2.1),(J_ x.1.2.2.1),td (J_ x.1.2.2.2.1) (I_ x.2.2.1),()),(FI (J_ x.1.2.2.2.1) (I_ x.2.2.1),()))):=by
 refine oA f140 41 [] TO func140 λo A x hd _ _ h=>?_;obtain⟨⟨⟨_,_,_,(g:af),_⟩,(M:jw .int af),(L:aa af),(U:aa af),_⟩,⟨_,(i:af),_⟩⟩:=x;have rI:=pP h 2 L;have Az:=pP h 3 U;change qX U/\0<=i/\i<(aM U:af)/\U.length<=1000000 at hd;have⟨hU,i0,i1,hUl⟩:=hd;refine tY [] h ?_;refine vW af (aa af) ah (λk c f=>⟨[(0,ep 0),(1,en k)],[(0,az (.box 218 [.mp 1,.own 2,.own 3,.v (.int .i64 g)])),(1,az (.map .int .int M)),(2,az (.row 3 .int L)),(3,az (.row 3 .int c))],4⟩) (λk c f=>0<=k/\k<(aM c:af)/\qX c/\c.length=U.length/\k.toNat<f/\OX f c k=OX (i.toNat+1) U i) (λk c f=>f) i U (i.toNat+1) (ir 4) ⟨i0,i1,hU,rfl,Nat.lt_succ_self _,rfl⟩ λk c f _ mR hI=>?_;have⟨k0,k1,k2,k3,k4,k5⟩:=hI;refine jY (pr:=(j8 k c.length)) bx ?_;refine pY (p:=(c.getD k.toNat 0)=k) (λq1=>?_) λq1=>?_
 .have hy:=oq k2 k0 (show k<(aM c:af) by omega);have hz:=oq k2 hy.1 (show c.getD k.toNat 0<(aM c:af) by omega);have hsl:(c.set k.toNat (c.getD (c.getD k.toNat 0).toNat 0)).length=c.length:=cq ..;have hn:(c.set k.toNat (c.getD (c.getD k.toNat 0).toNat 0)).getD k.toNat 0=c.getD (c.getD k.toNat 0).toNat 0:=by rw[wP (by omega),aQ rfl]
  refine jY (pr:=(j8 k c.length)/\(j8 (c.getD k.toNat 0) c.length)/\(j8 k c.length)/\(j8 k c.length)/\(j8 k (c.set k.toNat (c.getD (c.getD k.toNat 0).toNat 0)).length)) ⟨bx,bx,bx,bx,bx⟩ ?_;exact oa (mR ((c.set k.toNat (c.getD (c.getD k.toNat 0).toNat 0)).getD k.toNat 0) (c.set k.toNat (c.getD (c.getD k.toNat 0).toNat 0)) (f-1) (ir 4) ⟨by rw[hn];exact hz.1,by rw[hn,hsl];omega,(RI k2 k0 (by omega)).1,by omega,by rw[hn];omega,by rw[<-k5,hvS (by omega) q1]⟩ (by omega))
 refine jQ ?_;have he:OX (i.toNat+1) U i=(c,k):=by rw[<-k5];exact hvE (by omega) q1
 intro _ _ h;exact mA ((((),(),(),g,()),M,L,c,()),(k,())) (ir 4) h (by simp only[td,FI,he];rfl)
def aim:lM aR:=r8 ail
abbrev abh:sM:=⟨[.box 218 [.mp 1,.own 2,.own 3,.int],.map .int .int,.row 3 .int,.row 3 .int],[.ptr 0 0,.int],[.box 218 [.mp 1,.own 2,.own 3,.int],.map .int .int,.row 3 .int,.row 3 .int],[.bool],1,aD,[]⟩
theorem ak5:nX aR 101 abh (λx=>(-9223372036854775808<=(I_ x.2.2.1)/\(I_ x.2.2.1)<=9223372036854775807)/\(show jw .int af from x.1.2.1).length<=900000/\(J_ x.1.2.2.1).length<=900000/\(J_ x.1.2.2.2.1).length<=900000/\-900000<=(I_ x.1.1.2.2.2.1)/\(I_ x.1.1.2.2.2.1)<=900000) (λx=>((((),(),(),uh (show jw .int af from x.1.2.1) (I_ x.1.1.2.2.2.1) (I_ x.2.2.1),()),lg (show jw .int af from x.1.2.1) (J_ x.1.2.2.1) (I_ x.2.2.1),l5 (show jw .int af from x.1.2.1) (J_ x.1.2.2.1) (I_ x.2.2.1),l9 (show jw .int af from x.1.2.1) (J_ x.1.2.2.1) (J_ x.1.2.2.2.1) (I_ x.2.2.1),()),(aE (mY (show jw .int af from x.1.2.1) (J_ x.1.2.2.1) (I_ x.2.2.1)=((J_ x.1.2.2.1).length:af)),()))):=by
 refine oA f101 20 [ae0,afP] abh func101 λo A x hd _ _ h=>?_;obtain⟨⟨⟨_,_,_,(g:af),_⟩,(M:jw .int af),(L:aa af),(U:aa af),_⟩,⟨_,(x:af),_⟩⟩:=x;have rI:=pP h 2 L;have Az:=pP h 3 U;change (-9223372036854775808<=x/\x<=9223372036854775807)/\M.length<=900000/\L.length<=900000/\U.length<=900000/\-900000<=g/\g<=900000 at hd;obtain⟨⟨x0,x1⟩,hM,hL,hU,g0,g1⟩:=hd;refine go (pr:=(nv .int x)) [] h wk ?_;refine jZ (λ(q1:aC=aD)=>?_) (λ(q1:aC=aC)=>?_)
 .cases q1
 refine jY (pr:=((-9223372036854775808<=x/\x<=9223372036854775807)/\M.length<=1000000/\L.length<=1000000/\U.length<=1000000/\-1000000<=g/\g<=1000000)) (⟨⟨by omega,by omega⟩,by omega,by omega,by omega,by omega,by omega⟩) ?_;intro _ _ h;exact mA ((((),(),(),uh M g x,()),lg M L x,l5 M L x,l9 M L U x,()),(aE (mY M L x=(aM L:af)),())) (rk [0,53253,53254,53255]) h rfl
def ak6:lM aR:=r8 ak5
abbrev OI:sM:=⟨[.box 218 [.mp 1,.own 2,.own 3,.int],.map .int .int,.row 3 .int,.row 3 .int],[.ptr 0 0],[.box 218 [.mp 1,.own 2,.own 3,.int],.map .int .int,.row 3 .int,.row 3 .int],[.int],1,aD,[]⟩
theorem aeq:nX aR 103 OI (λ_=>av) (λx=>((((),(),(),(I_ x.1.1.2.2.2.1),()),(show jw .int af from x.1.2.1),(J_ x.1.2.2.1),(J_ x.1.2.2.2.1),()),((I_ x.1.1.2.2.2.1),()))):=by
 refine oA f103 9 [] OI func103 λo A x hd _ _ h=>?_;obtain⟨⟨⟨_,_,_,(g:af),_⟩,(M:jw .int af),(L:aa af),(U:aa af),_⟩,⟨_,_⟩⟩:=x;have rI:=pP h 2 L;have Az:=pP h 3 U;refine tY [] h ?_;intro _ _ h;exact mA ((((),(),(),g,()),M,L,U,()),(g,())) (ir 4) h rfl
def aer:lM aR:=r8 aeq
abbrev abi:sM:=⟨[.row 3 .int],[.own 0],[.box 218 [.mp 1,.own 2,.own 3,.int],.map .int .int,.row 3 .int,.row 3 .int],[.ptr 0 0],0,aD,[]⟩
theorem ak7:nX aR 100 abi (λx=>(J_ x.1.1)=[]) (λx=>((((),(),(),(0:af),()),([]:aa (af×af)),([]:aa af),([]:aa af),()),((),()))):=by
 refine oA f100 20 [] abi func100 λo A x hd _ _ h=>?_;obtain⟨⟨(Z:aa af),_⟩,⟨_,_⟩⟩:=x;have vC:=pP h 0 Z;change Z=[] at hd;have hz:Z.length=0:=by rw[hd];rfl
 refine tY [] h ?_;refine IF af (λi=>⟨[(3,ep 0),(9,eo 1),(10,en (aM Z:af)),(11,en i)],[(0,az (.box 218 [.mp 2,.v (.slice aA 0 0),.v (.slice aA 0 0),.v (.int .i64 0)])),(1,az (.row 3 .int Z)),(2,az (.map .int .int ([]:jw .int af)))],3⟩) (λi=>i=0/\av) (λi=>0) 0 (rk [12289,0,4097]) ⟨rfl,tv⟩ λi _ mR hI=>?_;have⟨i0,_⟩:=hI;refine jQ ?_;refine jR (p:=i<(aM Z:af)) (λq1=>?_) λq1=>?_
 .omega
 refine jQ ?_;intro _ _ h;exact mA ((((),(),(),(0:af),()),([]:jw .int af),[],[],()),((),())) [(0,az 0),(1,az 2),(2,aA),(3,aA)] h rfl
def ak8:lM aR:=r8 ak7
abbrev TP:sM:=⟨[.box 218 [.mp 1,.own 2,.own 3,.int],.map .int .int,.row 3 .int,.row 3 .int],[.ptr 0 0,.int,.int],[.box 218 [.mp 1,.own 2,.own 3,.int],.map .int .int,.row 3 .int,.row 3 .int],[.bool],1,aD,[]⟩
theorem ain:nX aR 102 TP (λx=>(-9223372036854775808<=(I_ x.2.2.1)/\(I_ x.2.2.1)<=9223372036854775807)/\(-9223372036854775808<=(I_ x.2.2.2.1)/\(I_ x.2.2.2.1)<=9223372036854775807)/\AV (show jw .int af from x.1.2.1) (J_ x.1.2.2.1) (J_ x.1.2.2.2.1)/\(J_ x.1.2.2.1).length<=900000/\-900000<=(I_ x.1.1.2.2.2.1)/\(I_ x.1.1.2.2.2.1)<=900000) (λx=>((((),(),(),UB (show jw .int af from x.1.2.1) (J_ x.1.2.2.1) (J_ x.1.2.2.2.1) (I_ x.1.1.2.2.2.1) (I_ x.2.2.1) (I_ x.2.2.2.1),()),jnM (show jw .int af from x.1.2.1) (J_ x.1.2.2.1) (I_ x.2.2.1) (I_ x.2.2.2.1),jnL (show jw .int af from x.1.2.1) (J_ x.1.2.2.1) (I_ x.2.2.1) (I_ x.2.2.2.1),VS (show jw .int af from x.1.2.1) (J_ x.1.2.2.1) (J_ x.1.2.2.2.1) (I_ x.2.2.1) (I_ x.2.2.2.1),()),(Yp (show jw .int af from x.1.2.1) (J_ x.1.2.2.1) (J_ x.1.2.2.2.1) (I_ x.2.2.1) (I_ x.2.2.2.1),()))):=by
 refine oA f102 52 [ae0,afP,aim] TP func102 λo A x hd _ _ h=>?_;obtain⟨⟨⟨_,_,_,(g:af),_⟩,(M:jw .int af),(L:aa af),(U:aa af),_⟩,⟨_,(x:af),(y:af),_⟩⟩:=x;have rI:=pP h 2 L;have Az:=pP h 3 U;change (-9223372036854775808<=x/\x<=9223372036854775807)/\(-9223372036854775808<=y/\y<=9223372036854775807)/\AV M L U/\L.length<=900000/\-900000<=g/\g<=900000 at hd;obtain⟨⟨x0,x1⟩,⟨y0,y1⟩,hR,hL,g0,g1⟩:=hd;obtain⟨hR1,a0,a1,_⟩:=hR.put x;obtain⟨hR2,b0,b1,_⟩:=hR1.put y;have w1:=hR.len;have w2:M.length<=L.length:=hR.Hw;have w3:=hR1.len;have w4:=hR1.Hw;have w5:=hR2.len;have w6:=hR2.Hw;have w7:=M6 M L x;have w8:=M6 (lg M L x) (l5 M L x) y;have w9:=Yq M g x;have w10:=Yq (lg M L x) (uh M g x) y;obtain⟨c1,c2,c3,c4,c5,c6,c7,c8⟩:=ajw hR2.ok (i:=mY M L x) a0 (by omega) b0 (by omega);refine go (pr:=(nv .int x)/\((aC=aC)->(nv .int y))) [] h ⟨wk,λ_=>wk⟩ ?_;refine jZ (λ(q1:(aC=aD)\/(aC=aD))=>?_) (λ(q1:(aC=aC)/\(aC=aC))=>?_)
 .rcases q1 with q|q<;>cases q
 refine jY (pr:=((-9223372036854775808<=x/\x<=9223372036854775807)/\M.length<=1000000/\L.length<=1000000/\U.length<=1000000/\-1000000<=g/\g<=1000000)/\((-9223372036854775808<=y/\y<=9223372036854775807)/\(lg M L x).length<=1000000/\(l5 M L x).length<=1000000/\(l9 M L U x).length<=1000000/\-1000000<=(uh M g x)/\(uh M g x)<=1000000)/\(qX (l9 (lg M L x) (l5 M L x) (l9 M L U x) y)/\0<=(mY M L x)/\(mY M L x)<((l9 (lg M L x) (l5 M L x) (l9 M L U x) y).length:af)/\(l9 (lg M L x) (l5 M L x) (l9 M L U x) y).length<=1000000)/\(qX (td (l9 (lg M L x) (l5 M L x) (l9 M L U x) y) (mY M L x))/\0<=(mY (lg M L x) (l5 M L x) y)/\(mY (lg M L x) (l5 M L x) y)<((td (l9 (lg M L x) (l5 M L x) (l9 M L U x) y) (mY M L x)).length:af)/\(td (l9 (lg M L x) (l5 M L x) (l9 M L U x) y) (mY M L x)).length<=1000000)) ⟨⟨⟨by omega,by omega⟩,by omega,by omega,by omega,by omega,by omega⟩,⟨⟨by omega,by omega⟩,by omega,by omega,by omega,by omega,by omega⟩,⟨hR2.ok,by omega,by omega,by omega⟩,⟨by assumption,by omega,by omega,by omega⟩⟩ ?_;refine jR (p:=FI (l9 (lg M L x) (l5 M L x) (l9 M L U x) y) (mY M L x)=FI (td (l9 (lg M L x) (l5 M L x) (l9 M L U x) y) (mY M L x)) (mY (lg M L x) (l5 M L x) y)) (λq2=>?_) λq2=>?_
 .refine jQ ?_;have q9:AS M L U x y=AU M L U x y:=q2;intro _ _ h;exact mA ((((),(),(),uh (lg M L x) (uh M g x) y,()),lg (lg M L x) (l5 M L x) y,l5 (lg M L x) (l5 M L x) y,td (td (l9 (lg M L x) (l5 M L x) (l9 M L U x) y) (mY M L x)) (mY (lg M L x) (l5 M L x) y),()),(aD,())) (rk [0,98309,98310,98311]) h (by simp only[UB,jnM,jnL,VS,Yp,aQ q9];rfl)
 refine jY (pr:=(j8 (max (FI (l9 (lg M L x) (l5 M L x) (l9 M L U x) y) (mY M L x)) (FI (td (l9 (lg M L x) (l5 M L x) (l9 M L U x) y) (mY M L x)) (mY (lg M L x) (l5 M L x) y))) (td (td (l9 (lg M L x) (l5 M L x) (l9 M L U x) y) (mY M L x)) (mY (lg M L x) (l5 M L x) y)).length)/\(j8 (max (FI (l9 (lg M L x) (l5 M L x) (l9 M L U x) y) (mY M L x)) (FI (td (l9 (lg M L x) (l5 M L x) (l9 M L U x) y) (mY M L x)) (mY (lg M L x) (l5 M L x) y))) (td (td (l9 (lg M L x) (l5 M L x) (l9 M L U x) y) (mY M L x)) (mY (lg M L x) (l5 M L x) y)).length)/\(jX .i64 ((uh (lg M L x) (uh M g x) y)-1))) ⟨bx,bx,kC⟩ ?_;have q9:¬AS M L U x y=AU M L U x y:=q2;intro _ _ h;exact mA ((((),(),(),(uh (lg M L x) (uh M g x) y)-1,()),lg (lg M L x) (l5 M L x) y,l5 (lg M L x) (l5 M L x) y,((td (td (l9 (lg M L x) (l5 M L x) (l9 M L U x) y) (mY M L x)) (mY (lg M L x) (l5 M L x) y)).set (max (FI (l9 (lg M L x) (l5 M L x) (l9 M L U x) y) (mY M L x)) (FI (td (l9 (lg M L x) (l5 M L x) (l9 M L U x) y) (mY M L x)) (mY (lg M L x) (l5 M L x) y))).toNat (min (FI (l9 (lg M L x) (l5 M L x) (l9 M L U x) y) (mY M L x)) (FI (td (l9 (lg M L x) (l5 M L x) (l9 M L U x) y) (mY M L x)) (mY (lg M L x) (l5 M L x) y)))),()),(aC,())) (rk [0,98309,98310,98311]) h (by simp only[UB,jnM,jnL,VS,Yp,aP q9];rfl)
def aio:lM aR:=r8 ain
end Go.Proofs.YtnfdimfepbbbpaaGreatDoor
