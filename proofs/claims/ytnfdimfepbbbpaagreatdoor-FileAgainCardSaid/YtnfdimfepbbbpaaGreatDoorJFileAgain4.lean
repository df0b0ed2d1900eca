/- Texts joined by program: lemmas. -/
import Derived.Test.YtnfdimfepbbbpaaGreatDoorJFileAgain3
import Derived.Lib.SlTrimSet
import Derived.RangeFuncBound
import Derived.Shelf.Abstract
import Derived.Shelf.RegionOpen
import Derived.OwnWalkIn
import Derived.TacticsInMore
import Derived.LoopNIn
import Derived.LoopIn
import Derived.RangeFuncRecord
import Derived.RecoverIn
import Derived.Sort.OwnSortedInts
set_option linter.unusedSimpArgs false
set_option linter.unusedVariables false
set_option maxRecDepth 100000
set_option maxHeartbeats 8000000
open Array renaming getD_eq_getD_getElem?->cP,getElem?_eq_some_iff->di,getElem?_modify->apS,length_toList->cU,replicate_succ->arM,replicate_zero->arN,toList_append->an9,toList_inj->aoB
open Bool renaming true->aC,false->aD,and_eq_true->bB,eq_iff_iff->anR,noConfusion->aof
open ByteArray renaming data_append->dD,ext->fc
open Classical renaming byContradiction->dg
open Decidable renaming decide->aE
open Go renaming Calls->aI,cell_of_row->aK,World->aN,Value->aO,TypeId->aV,Program->aY,Operand->bu,Ending->bY,FuncId->bI,Deferred->cR
open Go.Act renaming eval->dH,put->eu
open Go.Code renaming rangeFunc->ap9
open Go.Deferred renaming ofValue->aoK
open Go.Fence renaming wide->bK
open Go.Instr renaming build->ao8,sliceAt->cX
open Go.Lib renaming hasSuffix->apA,trimRightS->anK
open Go.Obj renaming stringIter->dW
open Go.Oper renaming upon->an2,uponIn->an3,wpIn_mono->arJ
open Go.Proofs.Tryz renaming prog->aR
open Go.Region renaming wanted->dh
open Go.Sem renaming run->cM
open Go.Sort renaming ahead->aoe
open Go.Utf8 renaming decode->bn,valid->arE
open Go.Value renaming int->cj,pointer->cO
open Go.World renaming alloc_heap_new->apE,putObj_heap_other->eP,putObj_heap_same->apF,putObj_size->an7,size_alloc->arQ
open Int renaming add_zero->aqj,le_refl->bM,le_trans->aql,natCast_zero->aqi,toNat_natCast->dw,toNat_of_nonneg->eM
open List renaming length->aM,all_eq_true->bG,append_assoc->cx,append_nil->bW,append_toArray->arP,cons_append->eC,dropWhile_cons->arG,drop_eq_getElem_cons->eE,eq_nil_of_length_eq_zero->cH,ext_getElem->anG,filter_cons->ao2,filter_nil->aqk,find?_eq_none->apQ,find?_range_eq_some->arx,flatMap_append->anZ,flatMap_cons->dc,getD_eq_getElem?_getD->bD,getElem?_append_left->eY,getElem?_drop->cI,getElem?_eq_getElem->bN,getElem?_eq_none->aoc,getElem?_eq_some_iff->cF,getElem?_map->cY,getElem?_take_of_lt->arR,getElem_mem->dY,isEmpty_iff->anF,length->e8,length_append->bA,length_cons->b7,length_map->bH,length_nil->cK,length_range->ao0,length_reverse->arT,length_singleton->dS,length_take->bJ,map_append->cA,map_congr_left->dm,map_cons->bO,map_drop->aov,map_id->aot,map_map->cz,map_nil->cC,mem_append->bE,mem_append_left->bU,mem_append_right->bV,mem_cons->bg,mem_cons_of_mem->bl,mem_cons_self->aZ,mem_filter->bX,mem_flatMap->cQ,mem_flatten->aoZ,mem_map->bz,mem_range->de,mem_singleton->aU,nil_append->dK,nodup_append->an5,nodup_cons->anM,nodup_iff_pairwise_ne->arw,nodup_nil->anI,not_mem_nil->aod,pairwise_append->arA,pairwise_cons->aoY,pairwise_iff_getElem->anx,pairwise_singleton->arB,push_toArray->arO,range->bT,range_succ->aoA,size_toArray->dL,take_length->cg,take_sublist->arz,take_succ_cons->aoC,take_succ_eq_append_getElem->dV,take_zero->dJ
open List.Pairwise renaming cons->arH,nil->ary,sublist->ar6
open List.cons renaming inj->eZ
open Nat renaming add_assoc->dz,add_mul->cB,add_zero->eH,beq->bp,ble->eL,blt->bP,blt_eq->cw,le_of_ble_eq_true->anC,le_of_lt->apC,le_refl->aW,le_trans->bC,lt_of_lt_of_eq->aqn,lt_of_lt_of_le->bR,lt_succ_iff_lt_or_eq->an6,lt_succ_of_lt->aoF,lt_succ_self->dU,mod_lt->anv,mul_one->dy,not_lt_zero->aoE,one_pos->arI,reduceAdd->arK,reduceSub->arL,succ_pos->ao3,two_pos->aqm,zero_le->bQ
open Option renaming some->az,none->aA,isSome_iff_exists->bS,map_eq_some_iff->bF
open Option.some renaming inj->b5,injEq->cr
open _root_ renaming List->aa,Int->af,Nat->ah,Option->ai,ByteArray->aj,Bool->ak,Array->aq,True->av,Decidable->ax,absurd->ay
open Go.Proofs.Tryz
namespace Go.Proofs.YtnfdimfepbbbpaaGreatDoor
open Go.RowKit
open Go.Proofs.YtnfdimfepbbbpaaGreatDoor.Deep
theorem NT {r:ai xQ}{L:aa af}:∀ {k:ah} {m:aa (af×af)} {x:af} {acc:aa af},(∀y,(jr m y).isSome=aC->ku L y)->ku L x->(∀y∈acc,ku L y)->
  (∀y∈(r9 r k m x acc).2,ku L y)/\(∀y,(jr (r9 r k m x acc).1 y).isSome=aC->ku L y)/\(r9 r k m x acc).2.length<=acc.length+k/\(r9 r k m x acc).1.length<=m.length
 |0,m,x,acc,hm,hx,ha=>⟨ha,hm,aW _,aW _⟩
 |k+1,m,x,acc,hm,hx,ha=>by
  have ha2:∀y∈acc++[x],ku L y:=λy hy=>(bE.1 hy).elim (ha y) λq=>by rw[aU.1 q];exact hx
  have hd:=Md (k:=.int) m x;have hl:(acc++[x]).length=acc.length+1:=by simp
  unfold r9;split
  .rename_i q;obtain⟨h1,h2,h3,h4⟩:=NT (r:=r) (k:=k) (Ey hm x) (Ey hm x _ q) ha2;exact⟨h1,h2,by omega,bC h4 hd⟩
  exact⟨ha2,Ey hm x,by show(acc++[x]).length<=_;omega,hd⟩
theorem Jg {r:ai xQ}{L ds:aa af}{out:aa (af×aa af)}(hds:∀d∈ds,ku L d)(ho:∀w∈out,(∀d∈w.2,ku L d)/\w.2.length<=ds.length):∀ {k:ah},k<=ds.length->
  (∀y,(jr (nt r ds out k).1 y).isSome=aC->ku L y)/\(nt r ds out k).1.length<=ds.length/\∀w∈(nt r ds out k).2,(∀d∈w.2,ku L d)/\w.2.length<=ds.length
 |0,_=>⟨λy hy=>hds y (by have:=(Ex (aW _) y).1 hy;rwa[cg] at this),KD ds _,ho⟩
 |k+1,h=>by
  obtain⟨h1,h2,h3⟩:=Jg (r:=r) hds ho (k:=k) (by omega);show(∀y,(jr (uu r (nt r ds out k) (ds.getD k 0)).1 y).isSome=aC->_)/\_;show _/\(uu r (nt r ds out k) (ds.getD k 0)).1.length<=_/\∀w∈(uu r (nt r ds out k) (ds.getD k 0)).2,_;unfold uu;split
  .obtain⟨o1,o2,o3,o4⟩:=NT (r:=r) (k:=(nt r ds out k).1.length) (acc:=[]) h1 (hds _ (jz (l:=ds) (i:=k) (d:=0) (by omega))) (λy hy=>by cases hy);refine⟨o2,by show(r9 _ _ _ _ _).1.length<=_;omega,λw hw=>?_⟩;rcases bE.1 hw with q|q
   .exact h3 w q
   rw[aU.1 q];refine⟨o1,?_⟩;have o3:(r9 r (nt r ds out k).1.length (nt r ds out k).1 (ds.getD k 0) []).2.length<=0+(nt r ds out k).1.length:=o3;show(r9 _ _ _ _ _).2.length<=_;omega
  exact⟨h1,h2,h3⟩
theorem NU {n:af}{E:aa (af×af)}{V L:aa af}{T:aa (aa af)}(h:(jm n E V L T).2=0):∀w∈(jm n E V L T).1,(∀d∈w.2,ku L d)/\w.2.length<=2*L.length:=by
 rw[uD] at h;rw[wU h];have:=(Jg (r:=(nR n E V L T).1) (ds:=oO L L.length) (out:=DP V T V.length) (λd hd=>(nY d).1 hd) (λw hw=>by
  have e:=cH (BY (aW _) w hw).1;rw[e];exact⟨λd hd=>(by cases hd),bQ _⟩) (aW _)).2.2
 intro w hw
 grind [BQ]
def onF (ds:aa af):ah->aa (af×af)
 |0=>[]
 |k+1=>kZ (onF ds k) (ds.getD k 0/2) (k:af)
def jF (left on:aa (af×af))(L:aa af):ah->S4
 |0=>([],[],[],0)
 |k+1=>if(jr on (L.getD k 0)).isSome=aC then jF left on L k else UI (jF left on L k) ((jr left (2*L.getD k 0)).getD 0) ((jr left (2*L.getD k 0+1)).getD 0)
def adF (left:aa (af×af))(ds:aa af)(s:S4):ah->S4
 |0=>s
 |k+1=>ob (ob (adF left ds s k) ((jr left (ds.getD k 0)).getD 0)) ((jr left (lX (ds.getD k 0))).getD 0)
def ox (left:aa (af×af))(L ds:aa af):S4:=adF left ds (jF left (onF ds ds.length) L L.length) ds.length
section
variable {left:aa (af×af)}{s0 s:S4}{head:af}{lf:af->ak}{cnt:ah}{out:aa (af×af)}{x v:af}
end
def tnP (a b:aa af)(i:ah):Prop:=a.take (a.length-i)=b.drop i/\a.drop (a.length-i)=b.take i
instance (a b:aa af) (i:ah):ax (tnP a b i):=by unfold tnP;infer_instance
def afd (a b:aa af):Prop:=a.length=b.length/\(a.length=0\/∃i,i<b.length/\tnP a b i)
instance (a b:aa af):ax (afd a b):=by unfold afd;infer_instance
theorem Sf {n:af}{E:aa (af×af)}{V L:aa af}{T S:aa (aa af)}(h:Av n E V L T S=0):j6 n E V L=0/\vN n E V L T S=0:=by
 grind [Av]
section
variable {held now:aa (af×af)}{lf:af->ak}{least:af}{bad:ak}{x v:af}
end
section
variable {n:af}{E:aa (af×af)}{V L:aa af}{T S U R:aa (aa af)}
end
def ajW (E:aa (af×af))(T:aa (aa af))(d n:af):af:=
 (T.getD (j7 E d).toNat []).getD ((acB (T.getD (j7 E d).toNat []) d+n+((T.getD (j7 E d).toNat []).length:af))%((T.getD (j7 E d).toNat []).length:af)).toNat 0
def HD (E:aa (af×af))(T:aa (aa af))(d:af):af:=ajW E T (lX d) (-1)
section
variable {n:af}{E:aa (af×af)}{V L:aa af}{T:aa (aa af)}
theorem A5 (hp:j6 n E V L=0)(h:pZ n E L T){d:af}(hd:ku L d):HD E T d=F1 E L T d:=by
 have ht:=tT.2 hd;obtain⟨h0,h1,h2⟩:=zM hp h ht;obtain⟨j,hj,e⟩:=jJ (z:=(0:af)).1 h2;obtain⟨i,i1,i2,i3⟩:=agF hj e;refine YK (h.nd _ h1) ⟨i,by omega,i3,?_⟩ (zO hp h hd);unfold HD ajW;rw[i1]
 congr 1
 rw[show(i:af)+ -1+((T.getD (j7 E (lX d)).toNat []).length:af)=((i+(T.getD (j7 E (lX d)).toNat []).length-1:ah):af) by omega,<-Int.natCast_emod];rfl
end
def uM (f:af->af):ah->af->af
 |0,d=>d
 |k+1,d=>f (uM f k d)
def rQ (f:af->af)(d:af)(N:ah):ah:=((bT N).find? λk=>aE (uM f (k+1) d=d)).getD 0+1
def zb (f:af->af)(d:af)(p:ah):aa af:=(bT p).map λi=>uM f i d
section
variable {f:af->af}{D:aa af}{d:af}
theorem A6 (a:ah):∀b,uM f (a+b) d=uM f b (uM f a d)
 |0=>rfl
 |b+1=>by
  show f (uM f (a+b) d)=f _;rw[A6 a b]
theorem vn (hc:∀x∈D,f x∈D)(hd:d∈D):∀k,uM f k d∈D
 |0=>hd
 |k+1=>hc _ (vn hc hd k)
theorem Qo (hc:∀x∈D,f x∈D)(hi:∀x∈D,∀y∈D,f x=f y->x=y){x y:af}(hx:x∈D)(hy:y∈D):∀ {k:ah},uM f k x=uM f k y->x=y
 |0,h=>h
 |k+1,h=>Qo hc hi hx hy (k:=k) (hi _ (vn hc hx k) _ (vn hc hy k) h)
theorem ru (p:ah):(zb f d p).length=p:=by unfold zb;rw[bH,ao0]
theorem xd {p i:ah}(h:i<p):(zb f d p).getD i 0=uM f i d:=by
 unfold zb
 grind
theorem U4 (p:ah):zb f d (p+1)=zb f d p++[uM f p d]:=by
 unfold zb;rw[aoA,cA];rfl
theorem ac0 (hc:∀x∈D,f x∈D)(hi:∀x∈D,∀y∈D,f x=f y->x=y)(hd:d∈D):∃k,k<D.length/\uM f (k+1) d=d:=by
 have hn:¬(zb f d (D.length+1)).Nodup:=λhn=>by
  have:=hn.length_le_of_subset (l₂:=D) λx hx=>by
   obtain⟨i,_,rfl⟩:=bz.1 hx;exact vn hc hd i
  rw[ru] at this;omega
 have hx:∃a b,a<b/\b<D.length+1/\uM f a d=uM f b d:=by
  refine dg λhx=>hn ?_;rw[arw,anx];intro a b ha hb P4 e;rw[ru] at ha hb;rw[<-getD_eq (by rw[ru];exact ha) 0,<-getD_eq (by rw[ru];exact hb) 0,xd ha,xd hb] at e;exact hx ⟨a,b,P4,hb,e⟩
 have⟨a,b,P4,hb,e⟩:=hx;refine⟨b-a-1,by omega,?_⟩;have e2:uM f b d=uM f a (uM f (b-a) d):=by rw[<-A6];congr 1;omega
 have:=Qo hc hi hd (vn hc hd (b-a)) (e.trans e2);rw[show b-a-1+1=b-a by omega];exact this.symm
theorem Dc (hc:∀x∈D,f x∈D)(hi:∀x∈D,∀y∈D,f x=f y->x=y)(hd:d∈D):0<rQ f d D.length/\rQ f d D.length<=D.length/\uM f (rQ f d D.length) d=d/\∀k,0<k->k<rQ f d D.length->uM f k d≠d:=by
 obtain⟨k,hk,e⟩:=ac0 hc hi hd;cases hq:(bT D.length).find? λk=>aE (uM f (k+1) d=d) with
 |none=>
  rw[apQ] at hq;exact ay e (by simpa using hq k (de.2 hk))
 |some m=>
  have hm:=arx.1 hq;have e1:rQ f d D.length=m+1:=by unfold rQ;rw[hq];rfl
  rw[e1];have h1:=de.1 hm.2.1;refine⟨by omega,by omega,by simpa using hm.1,λk h0 h1=>?_⟩;have:=hm.2.2 (k-1) (by omega);rw[show k-1+1=k by omega] at this;simpa using this
theorem Qp {p:ah}(hp:uM f p d=d):∀q,uM f (p*q) d=d
 |0=>rfl
 |q+1=>by rw[Nat.mul_succ,Nat.add_comm,A6,hp,Qp hp q]
theorem Zo {p:ah}(h0:0<p)(hp:uM f p d=d)(k:ah):uM f k d=uM f (k%p) d:=by
 conv=>lhs;rw[<-Nat.div_add_mod k p,A6,Qp hp]
theorem Gm (hc:∀x∈D,f x∈D)(hi:∀x∈D,∀y∈D,f x=f y->x=y)(hd:d∈D):(zb f d (rQ f d D.length)).Nodup:=by
 obtain⟨p0,p1,p2,p3⟩:=Dc hc hi hd;rw[arw,anx];intro a b ha hb P4 e;rw[ru] at ha hb;rw[<-getD_eq (by rw[ru];exact ha) 0,<-getD_eq (by rw[ru];exact hb) 0,xd ha,xd hb] at e;have e2:uM f b d=uM f a (uM f (b-a) d):=by rw[<-A6];congr 1;omega
 exact p3 (b-a) (by omega) (by omega) (Qo hc hi hd (vn hc hd (b-a)) (e.trans e2)).symm
def vD (f:af->af)(x y:af):Prop:=∃k,uM f k x=y
theorem vD.refl (x:af):vD f x x:=⟨0,rfl⟩
theorem vD.trans {x y z:af}(h:vD f x y)(k:vD f y z):vD f x z:=by
 obtain⟨a,rfl⟩:=h;obtain⟨b,rfl⟩:=k;exact⟨a+b,A6 a b⟩
theorem vD.symm (hc:∀x∈D,f x∈D)(hi:∀x∈D,∀y∈D,f x=f y->x=y){x y:af}(hx:x∈D)(h:vD f x y):vD f y x:=by
 obtain⟨a,rfl⟩:=h;obtain⟨p0,p1,p2,p3⟩:=Dc hc hi hx;refine⟨rQ f x D.length*a-a,?_⟩;rw[<-A6];have:a<=rQ f x D.length*a:=Nat.le_mul_of_pos_left a p0;rw[show a+(rQ f x D.length*a-a)=rQ f x D.length*a by omega];exact Qp p2 a
theorem sn (hc:∀x∈D,f x∈D)(hi:∀x∈D,∀y∈D,f x=f y->x=y)(hd:d∈D){x:af}:x∈zb f d (rQ f d D.length)↔vD f d x:=by
 obtain⟨p0,p1,p2,p3⟩:=Dc hc hi hd;constructor
 .intro h;obtain⟨i,_,rfl⟩:=bz.1 h;exact⟨i,rfl⟩
 rintro⟨k,rfl⟩;rw[Zo p0 p2 k];exact bz.2 ⟨_,de.2 (anv _ p0),rfl⟩
end
def A7 (f:af->af)(d:af)(p:ah):ak:=(bT p).all λj=>aE (j=0)||decide (d<uM f j d)
def VV (f:af->af)(ds:aa af)(N:ah):ah->aa (af×aa af)
 |0=>[]
 |k+1=>if A7 f (ds.getD k 0) (rQ f (ds.getD k 0) N)=aC then VV f ds N k++[(ds.getD k 0,zb f (ds.getD k 0) (rQ f (ds.getD k 0) N))] else VV f ds N k
theorem zV {f:af->af}{d:af}{p:ah}:A7 f d p=aC↔∀j,0<j->j<p->d<uM f j d:=by
 unfold A7
 grind
theorem Qq {L:aa af}(h:IV L):∀ {k:ah},k<=L.length->IV (oO L k)
 |0,_=>ary
 |k+1,hk=>by
  have ht:L.take (k+1)=L.take k++[L.getD k 0]:=pR (by omega) 0;have ha:IV (L.take (k+1)):=h.sublist (arz _ _);rw[ht] at ha;have hb:=(arA.1 ha).2.2;refine arA.2 ⟨Qq h (by omega),?_,λa ha2 b G3=>?_⟩
  .refine aoY.2 ⟨λy hy=>?_,arB _ _⟩;rw[aU.1 hy];omega
  have:=hb _ ((Ev (by omega) a).1 ha2) _ (aU.2 rfl);rcases bg.1 G3 with rfl|G3
  .omega
  rw[aU.1 G3];omega
section
variable {f:af->af}{D:aa af}{d:af}{r:ai xQ}{m:aa (af×af)}
theorem NV (hf:∀x∈D,(mM r (lX x) (-1)).1=f x)(hc:∀x∈D,f x∈D)(hi:∀x∈D,∀y∈D,f x=f y->x=y)(hd:d∈D)(hm:∀i,i<rQ f d D.length->(jr m (uM f i d)).isSome=aC):
  ∀ {k i:ah} {mi:aa (af×af)},i<rQ f d D.length->rQ f d D.length<=i+k->(∀y,(jr mi y).isSome=aC↔(jr m y).isSome=aC/\∀j,j<i->uM f j d≠y)->
   (r9 r k mi (uM f i d) (zb f d i)).2=zb f d (rQ f d D.length)/\∀y,(jr (r9 r k mi (uM f i d) (zb f d i)).1 y).isSome=aC↔(jr m y).isSome=aC/\∀j,j<rQ f d D.length->uM f j d≠y
 |0,i,mi,h1,h2,_=>by omega
 |k+1,i,mi,h1,h2,hmi=>by
  obtain⟨p0,p1,p2,p3⟩:=Dc hc hi hd;have hn:=Gm hc hi hd;have hx:=vn hc hd i;have e:(mM r (lX (uM f i d)) (-1)).1=uM f (i+1) d:=hf _ hx;have Ig:∀y,(jr (EZ mi (uM f i d)) y).isSome=aC↔(jr m y).isSome=aC/\∀j,j<i+1->uM f j d≠y:=λy=>by
   rw[E0]
   by_cases q:uM f i d=y
   .rw[aQ q];exact⟨λz=>(by cases z),λz=>ay q (z.2 i (dU _))⟩
   rw[aP q,hmi];exact⟨λz=>⟨z.1,λj hj=>(an6.1 hj).elim (z.2 j) λw=>w▸q⟩,λz=>⟨z.1,λj hj=>z.2 j (by omega)⟩⟩
  unfold r9;rw[e,<-U4]
  by_cases hl:i+1<rQ f d D.length
  .have hs:(jr (EZ mi (uM f i d)) (uM f (i+1) d)).isSome=aC:=(Ig _).2 ⟨hm _ hl,λj hj q=>by
    have:=pQ (z:=(0:af)) hn (i:=j) (j:=i+1) (by rw[ru];omega) (by rw[ru];exact hl) (by rw[xd (by omega),xd hl];exact q);omega⟩
   rw[aQ hs];exact NV hf hc hi hd hm hl (by omega) Ig
  have ep:i+1=rQ f d D.length:=by omega
  have hs:¬(jr (EZ mi (uM f i d)) (uM f (i+1) d)).isSome=aC:=λz=>((Ig _).1 z).2 0 (by omega) (by rw[ep,p2];rfl);rw[aP hs,ep];rw[ep] at Ig;exact⟨rfl,Ig⟩
theorem Sg {out:aa (af×aa af)}(ha:IV D)(hf:∀x∈D,(mM r (lX x) (-1)).1=f x)(hc:∀x∈D,f x∈D)(hi:∀x∈D,∀y∈D,f x=f y->x=y):∀ {k:ah},k<=D.length->
  (∀y,(jr (nt r D out k).1 y).isSome=aC↔y∈D/\∀j,j<k->¬vD f (D.getD j 0) y)/\(nt r D out k).2=out++VV f D D.length k
 |0,_=>⟨λy=>by
  show(jr (YN D D.length) y).isSome=aC↔_;rw[Ex (aW _),cg];exact⟨λh=>⟨h,λj hj=>by omega⟩,λh=>h.1⟩,(bW _).symm⟩
 |k+1,hk=>by
  obtain⟨h1,h2⟩:=Sg ha hf hc hi (k:=k) (by omega);have hd:D.getD k 0∈D:=jz (by omega);obtain⟨p0,p1,p2,p3⟩:=Dc hc hi hd;have rG:∀a b,a<b->b<D.length->D.getD a 0<D.getD b 0:=λa b P4 hb=>by
   rw[getD_eq (show a<D.length by omega),getD_eq hb];exact anx.1 ha a b (by omega) hb P4
  show(∀y,(jr (uu r (nt r D out k) (D.getD k 0)).1 y).isSome=aC↔_)/\(uu r (nt r D out k) (D.getD k 0)).2=_;unfold uu VV
  by_cases hs:(jr (nt r D out k).1 (D.getD k 0)).isSome=aC
  .have Be:=((h1 _).1 hs).2;have agV:A7 f (D.getD k 0) (rQ f (D.getD k 0) D.length)=aC:=zV.2 λj j0 j1=>by
    obtain⟨q,hq,e⟩:=jJ (z:=(0:af)).1 (vn hc hd j);rcases Nat.lt_trichotomy q k with z|z|z
    .exact ay (vD.symm hc hi hd ⟨j,rfl⟩) (by rw[<-e];exact Be q z)
    .subst z;exact ay e.symm (p3 j j0 j1)
    rw[<-e];exact rG k q z hq
   have yd:∀i,i<rQ f (D.getD k 0) D.length->(jr (nt r D out k).1 (uM f i (D.getD k 0))).isSome=aC:=λi rR=>(h1 _).2 ⟨vn hc hd i,λj hj z=>Be j hj (z.trans (vD.symm hc hi hd ⟨i,rfl⟩))⟩;have anb:rQ f (D.getD k 0) D.length<=(nt r D out k).1.length:=by
    have:=(Gm hc hi hd).length_le_of_subset (l₂:=(nt r D out k).1.map (·.1)) λx hx=>by
     obtain⟨i,rR,rfl⟩:=bz.1 hx;exact mem_keys.2 (yd i (de.1 rR))
    rwa[ru,bH] at this
   obtain⟨o1,o2⟩:=NV hf hc hi hd yd (k:=(nt r D out k).1.length) (i:=0) p0 (by omega) (mi:=(nt r D out k).1) λy=>⟨λz=>⟨z,λj hj=>by omega⟩,λz=>z.1⟩;have o1:(r9 r (nt r D out k).1.length (nt r D out k).1 (D.getD k 0) []).2=zb f (D.getD k 0) (rQ f (D.getD k 0) D.length):=o1;have o2:∀y,(jr (r9 r (nt r D out k).1.length (nt r D out k).1 (D.getD k 0) []).1 y).isSome=aC↔(jr (nt r D out k).1 y).isSome=aC/\∀j,j<rQ f (D.getD k 0) D.length->uM f j (D.getD k 0)≠y:=o2;rw[aQ hs,aQ agV,o1,h2,cx];refine⟨λy=>?_,rfl⟩;show(jr (r9 r (nt r D out k).1.length (nt r D out k).1 (D.getD k 0) []).1 y).isSome=aC↔_;rw[o2,h1];constructor
   .rintro⟨⟨z1,z2⟩,z3⟩;refine⟨z1,λj hj=>?_⟩;rcases an6.1 hj with w|w
    .exact z2 j w
    subst w;rintro⟨q,rfl⟩;exact z3 _ (anv _ p0) (Zo p0 p2 q).symm
   rintro⟨z1,z2⟩;exact⟨⟨z1,λj hj=>z2 j (by omega)⟩,λj hj e=>z2 k (dU _) ⟨j,e⟩⟩
  have Be:∃j,j<k/\vD f (D.getD j 0) (D.getD k 0):=by
   refine dg λz=>hs ((h1 _).2 ⟨hd,λj hj w=>z ⟨j,hj,w⟩⟩)
  have⟨j,hj,hw⟩:=Be;have Kf:D.getD j 0∈D:=jz (by omega);have hnl:¬A7 f (D.getD k 0) (rQ f (D.getD k 0) D.length)=aC:=λz=>by
   have hb:=(sn hc hi hd).2 (vD.symm hc hi Kf hw);obtain⟨i,rR,e⟩:=bz.1 hb;have rR:=de.1 rR;have h3:=rG j k hj (by omega)
   by_cases q:i=0
   .subst q;have e:D.getD k 0=D.getD j 0:=e;omega
   have:=zV.1 z i (by omega) rR;rw[e] at this;omega
  rw[aP hs,aP hnl];refine⟨λy=>?_,h2⟩;rw[h1];constructor
  .rintro⟨z1,z2⟩;refine⟨z1,λq hq=>?_⟩;rcases an6.1 hq with w|w
   .exact z2 q w
   subst w;exact λz=>z2 j hj (hw.trans z)
  rintro⟨z1,z2⟩;exact⟨z1,λq hq=>z2 q (by omega)⟩
end
theorem U5 {n:af}{E:aa (af×af)}{V L:aa af}{T:aa (aa af)}(h:(nR n E V L T).2=0):
  jm n E V L T=(DP V T V.length++VV (HD E T) (oO L L.length) (oO L L.length).length (oO L L.length).length,0):=by
 obtain⟨hp,hT,hr⟩:=C1 h;obtain⟨hrt,hV,hL,_⟩:=kA hp;rw[wU h];have hD:∀x∈oO L L.length,ku L x:=λx hx=>(nY x).1 hx;rw[(Sg (r:=(nR n E V L T).1) (D:=oO L L.length) (f:=HD E T) (Qq (jC.1 hL).1 (aW _)) (λx hx=>by
  rw[A5 hp hT (hD x hx),hr];rfl) (λx hx=>by
  rw[A5 hp hT (hD x hx)];exact(nY _).2 (wT hp hT (hD x hx)).1) (λx hx y hy e=>by
  rw[A5 hp hT (hD x hx),A5 hp hT (hD y hy)] at e;exact Nq hp hT (hD x hx) (hD y hy) e) (aW _)).2]
section
variable {n:af}{E:aa (af×af)}{V L:aa af}{T:aa (aa af)}
end
def al8 (E:aa (af×af))(V L:aa af)(T:aa (aa af)):aa (af×aa af):=DP V T V.length++VV (HD E T) (oO L L.length) (oO L L.length).length (oO L L.length).length
section
variable {E:aa (af×af)}{ds gone l:aa af}{d:af}{k:ah}
end
section
variable {n:af}{E:aa (af×af)}{V L:aa af}{T S:aa (aa af)}
end
section
variable {n:af}{E:aa (af×af)}{V L:aa af}{a but x:af}
def rpS (E:aa (af×af))(V L:aa af)(s:aa af×aa (aa af×aa af))(v:af):aa af×aa (aa af×aa af):=
 if v∈s.1 then s else(s.1++spread E L v (-1),s.2++[(alX V (spread E L v (-1)),alY E L (spread E L v (-1)))])
def rpF (E:aa (af×af))(V L:aa af):ah->aa af×aa (aa af×aa af)
 |0=>([],[])
 |k+1=>rpS E V L (rpF E V L k) (V.getD k 0)
end
section
variable {n:af}{E:aa (af×af)}{V L:aa af}
open Classical in
end
def ajX (E:aa (af×af))(w:af×aa af):af:=if w.1<0 then -1-w.1 else j7 E w.1
def afe (E:aa (af×af))(W:aa (af×aa af))(vs:aa af):ah->af
 |0=>0
 |k+1=>afe E W vs k+if ajX E (W.getD k (0,[]))∈vs then 1 else 0
def gnR (E:aa (af×af))(P:aa (aa af×aa af))(W:aa (af×aa af)):ah->aa af
 |0=>[]
 |k+1=>gnR E P W k++[Int.tdiv (2-((P.getD k ([],[])).1.length:af)+((P.getD k ([],[])).2.length:af)-afe E W (P.getD k ([],[])).1 W.length) 2]
section
variable {E:aa (af×af)}{P:aa (aa af×aa af)}{W:aa (af×aa af)}{vs:aa af}{i:af}
end
def gnA (E:aa (af×af))(V L:aa af)(T:aa (aa af)):aa af:=gnR E (rpF E V L V.length).2 (al8 E V L T) (rpF E V L V.length).2.length
def ajY (n:af)(E:aa (af×af))(V L:aa af)(T:aa (aa af)):Prop:=(nR n E V L T).2=0/\∀x∈gnA E V L T,x=0
instance (n:af) (E:aa (af×af)) (V L:aa af) (T:aa (aa af)):ax (ajY n E V L T):=by unfold ajY;infer_instance
section
variable {n:af}{E:aa (af×af)}{V L:aa af}{T:aa (aa af)}{P:xu}{W:aa (af×aa af)}
end
def agW (N:ah)(p:ah->ak):af:=match(bT N).find? p with
 |some i=>(i:af)
 |none=> -1
section
variable {N:ah}{p:ah->ak}
theorem Sh {i:ah}(hi:i<N)(h:p i=aC):∃j:ah,agW N p=(j:af)/\j<=i/\p j=aC:=by
 grind [bT,apQ,arx,agW,Nat.le_of_not_lt]
end
def fnW (W:aa (af×aa af))(key:af):af:=agW W.length λi=>aE ((W.getD i (0,[])).1=key)
section
variable {S:aa (aa af)}{W:aa (af×aa af)}{key i:af}
end
section
variable {ow:aa (af×af)}{S:aa (aa af)}{N:ah}{l:aa af}{s z:S4×aa (af×af)}
theorem Zp {i:af}{k:ah}(h:y6 ow l i s k=az z):(jr ow (l.getD k 0)).isSome=aC/\(jr s.2 (l.getD k 0)).isSome=aD/\∀x,(jr z.2 x).isSome=aC↔(jr s.2 x).isSome=aC\/x=l.getD k 0:=by
 grind [jr,kZ,lF,y6]
theorem NW {i:af}:∀ {k:ah} {z:S4×aa (af×af)},k<=l.length->runK ow l i s k=az z->
  (∀x,(jr z.2 x).isSome=aC↔(jr s.2 x).isSome=aC\/x∈l.take k)/\∀x∈l.take k,(jr ow x).isSome=aC/\(jr s.2 x).isSome=aD
 |0,z,_,h=>by
  have h:az s=az z:=h;cases h;exact⟨λx=>⟨.inl,λw=>w.elim id λw=>(by simp at w)⟩,λx hx=>(by simp at hx)⟩
 |k+1,z,hk,h=>by
  have h:(runK ow l i s k).bind (λy=>y6 ow l i y k)=az z:=h;cases hq:runK ow l i s k with
  |none=>rw[hq] at h;cases h
  |some y=>
   rw[hq] at h;obtain⟨h1,h2⟩:=NW (k:=k) (by omega) hq;obtain⟨k1,k2,k3⟩:=Zp (show y6 ow l i y k=az z from h);rw[pR (show k<l.length by omega) 0];refine⟨λx=>?_,λx hx=>?_⟩
   .rw[k3,h1,bE,aU,or_assoc]
   rcases bE.1 hx with w|w
   .exact h2 x w
   rw[aU.1 w];refine⟨k1,?_⟩;cases hv:(jr s.2 (l.getD k 0)).isSome with
   |false=>rfl
   |true=>have:=(h1 (l.getD k 0)).2 (.inl hv);rw[k2] at this;cases this
theorem Gn:∀ {i:ah} {z:S4×aa (af×af)},tg ow S N i=az z->(∀x,(jr z.2 x).isSome=aC↔∃j,j<i/\x∈S.getD j [])/\(∀j,j<i->∀x∈S.getD j [],(jr ow x).isSome=aC)/\∀a b,a<b->b<i->∀x∈S.getD a [],x∉S.getD b []
 |0,z,h=>by
  have h:az (xU N,([]:aa (af×af)))=az z:=h;cases h;exact⟨λx=>⟨λw=>(by cases w),λ⟨j,w,_⟩=>(by omega)⟩,λj w=>(by omega),λa b _ w=>(by omega)⟩
 |i+1,z,h=>by
  have h:(tg ow S N i).bind (λs=>y7 ow S s i)=az z:=h;cases hq:tg ow S N i with
  |none=>rw[hq] at h;cases h
  |some y=>
   rw[hq] at h;have h:y7 ow S y i=az z:=h;obtain⟨h1,h2,h3⟩:=Gn hq;unfold y7 at h;split at h
   .cases h
   obtain⟨k1,k2⟩:=NW (aW _) h;rw[cg] at k1 k2;refine⟨λx=>?_,λj hj x hx=>?_,λa b P4 hb x hx=>?_⟩
   .rw[k1,h1];constructor
    .rintro(⟨j,w1,w2⟩|w)
     .exact⟨j,by omega,w2⟩
     exact⟨i,dU _,w⟩
    rintro⟨j,w1,w2⟩;rcases an6.1 w1 with q|q
    .exact .inl ⟨j,q,w2⟩
    subst q;exact .inr w2
   .rcases an6.1 hj with q|q
    .exact h2 j q x hx
    subst q;exact(k2 x hx).1
   rcases an6.1 hb with q|q
   .exact h3 a b P4 q x hx
   subst q;intro w;have:=(h1 x).2 ⟨a,P4,hx⟩;rw[(k2 x w).2] at this;cases this
end
theorem Zq {E:aa (af×af)}{P:xu}{W:aa (af×aa af)}:∀ {k:ah},k<=W.length->∀x,(jr (kM E P W k) x).isSome=aC↔∃w∈W.take k,w.1=x
 |0,_,x=>⟨λh=>(by cases h),λ⟨w,hw,_⟩=>(by simp at hw)⟩
 |k+1,h,x=>by
  show(jr (kZ (kM E P W k) (W.getD k (0,[])).1 _) x).isSome=aC↔_;rw[lF,pR (show k<W.length by omega) (0,[])]
  by_cases q:(W.getD k (0,[])).1=x
  .rw[aQ q];exact⟨λ_=>⟨_,bV _ (aU.2 rfl),q⟩,λ_=>rfl⟩
  rw[aP q,Zq (k:=k) (by omega)];constructor
  .rintro⟨w,hw,e⟩;exact⟨w,bU _ hw,e⟩
  rintro⟨w,hw,e⟩;rcases bE.1 hw with z|z
  .exact⟨w,z,e⟩
  rw[aU.1 z] at e;exact ay e q
section
variable {S:aa (aa af)}{W:aa (af×aa af)}{key:af}
end
section
variable {n:af}{E:aa (af×af)}{V L:aa af}{T S:aa (aa af)}
end
section
variable {g l m:aa af}{a b:af}{W:aa (af×aa af)}{o:af->af}
end
section
variable {ow:sB}{N:ah}{W:aa (af×aa af)}{o:af->af}{l g m:aa af}{s:S4×sB}{S:aa (aa af)}
variable (hk:∀x,(jr ow x).isSome=aC↔0<=fnW W x)(ho:∀x,(jr ow x).isSome=aC->(jr ow x).getD 0=o x/\0<=o x/\o x<(N:af))
include hk ho in
end
section
variable {n:af}{E:aa (af×af)}{V L:aa af}{T S:aa (aa af)}
end
theorem ajZ (s:aj)(pos:ah):(bn s pos).2<=4:=by
 simp only[bn]
 grind
theorem Si (s:aj):∀(f pos:ah) (n k:af),s.size-pos<=f->0<=n->n<=16->mP (kY s pos) n k=aC->((s.size-pos:ah):af)<=4*(16-n)
 |0,pos,n,k,h,h0,h1,_=>by omega
 |f+1,pos,n,k,h,h0,h1,hn=>by
  by_cases hp:pos<s.size
  .rw[jN s pos hp] at hn;have hw:=oS s pos hp;have h4:=ajZ s pos;have key:∀k',n+1<=16->mP (kY s (pos+(bn s pos).2)) (n+1) k'=aC->((s.size-pos:ah):af)<=4*(16-n):=λk' q1 q2=>by
    have:=Si s f _ (n+1) k' (by omega) (by omega) q1 q2;omega
   unfold mP at hn;split at hn
   .split at hn
    .cases hn
    split at hn
    .cases hn
    split at hn
    .cases hn
    exact key _ (by omega) hn
   split at hn
   .split at hn
    .cases hn
    split at hn
    .cases hn
    split at hn
    .cases hn
    split at hn
    .cases hn
    exact key _ (by omega) hn
   split at hn
   .split at hn
    .cases hn
    split at hn
    .cases hn
    split at hn
    .cases hn
    exact key _ (by omega) hn
   cases hn
  omega
theorem zW {s:aj}(h:kN s=aC):s.size<=64:=by
 have:=Si s s.size 0 0 0 (by omega) (by omega) (by omega) h;omega
section
variable {ow:sB}{S:aa (aa af)}{N:ah}{l:aa af}{s z:S4×sB}
theorem Jh {i:af}:∀ {k:ah} {z:S4×sB},runK ow l i s k=az z->∀j,0<j->j<k->l.getD (j-1) 0<l.getD j 0
 |0,z,_,j,_,hj=>by omega
 |k+1,z,h,j,h0,hj=>by
  have h:(runK ow l i s k).bind (λy=>y6 ow l i y k)=az z:=h;cases hq:runK ow l i s k with
  |none=>rw[hq] at h;cases h
  |some y=>
   by_cases e:j=k
   .grind [y6,Int.lt_of_not_ge]
   exact Jh hq j h0 (by omega)
theorem Dd:∀ {i:ah} {z:S4×sB},tg ow S N i=az z->∀j,j<i->∀k,0<k->k<(S.getD j []).length->(S.getD j []).getD (k-1) 0<(S.getD j []).getD k 0
 |0,z,_,j,hj=>by omega
 |i+1,z,h,j,hj=>by
  have h:(tg ow S N i).bind (λs=>y7 ow S s i)=az z:=h;cases hq:tg ow S N i with
  |none=>rw[hq] at h;cases h
  |some y=>
   by_cases e:j=i
   .grind [y7,Jh]
   exact Dd hq j (by omega)
theorem Sj {l:aa af}(h:∀k,0<k->k<l.length->l.getD (k-1) 0<l.getD k 0):IV l:=by
 refine anx.2 λi j hi hj hij=>?_;have:=Se (f:=λk=>l.getD k 0) (N:=l.length) h hij hj
 grind
end
section
variable {n:af}{E:aa (af×af)}{V L:aa af}{T S:aa (aa af)}
theorem NY (h:vN n E V L T S=0):S.flatten.Nodup:=by
 obtain⟨_,z,hz,_⟩:=rq h;obtain⟨_,_,m3⟩:=Gn hz;have key:∀k,k<=S.length->(S.take k).flatten.Nodup:=λk=>by
  induction k with
  |zero=>exact λ_=>anI
  |succ k ih=>
   intro hk;rw[pR (show k<S.length by omega) [],List.flatten_append,List.flatten_cons,List.flatten_nil,bW,an5];refine⟨ih (by omega),mw (Sj (Dd hz k (by omega))),λa ha b hb e=>?_⟩;subst e;obtain⟨u,hu,hx⟩:=(uL (by omega)).1 ha;exact m3 u k hu (by omega) a hx hb
 have:=key S.length (aW _);rwa[cg] at this
theorem Gp (h:vN n E V L T S=0){x:af}(hx:x∈S.flatten):∃w∈(jm n E V L T).1,w.1=x:=by
 obtain⟨_,z,hz,_⟩:=rq h;obtain⟨_,m2,_⟩:=Gn hz;obtain⟨l,hl,hx⟩:=aoZ.1 hx;obtain⟨j,hj,rfl⟩:=jJ (z:=([]:aa af)).1 hl;have:=(Zq (aW _) x).1 (m2 j hj x hx);rwa[cg] at this
theorem tC {l:aa af}{a b:af}(hn:l.Nodup)(h:∀x∈l,a<=x/\x<b):l.length<=(b-a).toNat:=by
 have:=hn.length_le_of_subset (l₂:=(bT (b-a).toNat).map λi:ah=>a+(i:af)) λx hx=>by
  have:=h x hx;exact bz.2 ⟨(x-a).toNat,de.2 (by omega),by omega⟩
 rwa[bH,ao0] at this
theorem Zr (h:vN n E V L T S=0):S.flatten.length<=(n+2*(aM E:af)).toNat:=by
 obtain⟨hp,_,hw⟩:=si (vh (rq h).1);obtain⟨hr,hV,hL,_⟩:=kA hp;have hn0:=(l6 hr).1;have:=tC (a:= -n) (b:=2*(aM E:af)) (NY h) λx hx=>by
  obtain⟨w,hm,rfl⟩:=Gp h hx;rcases hw.key w hm with⟨_,q⟩|⟨_,q⟩
  .have:=(jC.1 hV).2 _ q;omega
  have:=(jC.1 hL).2 _ q;omega
 rwa[show 2*(aM E:af)- -n=n+2*(aM E:af) by omega] at this
theorem NZ (hp:j6 n E V L=0)(hT:pZ n E L T):(V.flatMap λv=>T.getD v.toNat []).Nodup:=by
 obtain⟨_,hV,hL,_⟩:=kA hp;have hVm:=(jC.1 hV).2;have hl:=hT.len;have key:∀l:aa af,l.Nodup->(∀v∈l,0<=v/\v<n)->(l.flatMap λv=>T.getD v.toNat []).Nodup:=λl=>by
  induction l with
  |nil=>exact λ_ _=>anI
  |cons v l ih=>
   intro hn hm;rw[dc,an5];obtain⟨n1,n2⟩:=anM.1 hn;have hv:=hm v aZ;refine⟨hT.nd _ (by omega),ih n2 λw hw=>hm w (bl _ hw),λa ha b hb e=>?_⟩;subst e;obtain⟨w,hw,hb⟩:=cQ.1 hb;have Et:=hm w (bl _ hw);have e1:=((hT.mem _ (by omega) a).1 ha).2;have e2:=((hT.mem _ (by omega) a).1 hb).2;have:v=w:=by omega
   exact n1 (this▸hw)
 exact key V (mw (jC.1 hV).1) hVm
theorem U6 (hp:j6 n E V L=0)(hT:pZ n E L T):(V.flatMap λv=>T.getD v.toNat []).length<=(2*(aM E:af)).toNat:=by
 obtain⟨_,hV,hL,_⟩:=kA hp;have hVm:=(jC.1 hV).2;have hl:=hT.len;have:=tC (a:=0) (b:=2*(aM E:af)) (NZ hp hT) λx hx=>by
  obtain⟨v,hv,hx⟩:=cQ.1 hx;have h1:=hVm v hv;have:=(jC.1 hL).2 _ ((hT.mem _ (by omega) x).1 hx).1;omega
 rwa[Int.sub_zero] at this
end
def Cr (ls:aa (aa aj)):ah:=(ls.map λws=>(jG ws vP).size+1).sum
theorem B7:∀(ls:aa (aa aj)) (q:aj),(oQ q ls).size=q.size+Cr ls
 |[],q=>rfl
 |ws::ls,q=>by
  show(oQ (xY q ws) ls).size=_;rw[B7 ls,wY];show _=q.size+(((jG ws vP).size+1)+Cr ls);omega
theorem Gq (A B:aa (aa aj)):Cr (A++B)=Cr A+Cr B:=by unfold Cr;rw[cA,List.sum_append]
theorem th:∀(a:aj) (l:aa aj) (N:ah),(∀x∈l,x.size<=N)->(jG (a::l) vP).size+1<=a.size+1+l.length*(N+1)
 |a,[],N,_=>by rw[join_one];simp
 |a,b::l,N,h=>by
  have h1:=th b l N λx hx=>h x (bl _ hx);have h2:=h b aZ;rw[join_cons,m7,m7];have h3:vP.size=1:=rfl;rw[b7,cB];omega
theorem Gs {α β:Type}{f:α->aa (aa aj)}{g:α->aa β}{c:ah}:∀ {l:aa α},(∀x∈l,Cr (f x)<=c+66*(g x).length)->Cr (l.flatMap f)<=c*l.length+66*(l.flatMap g).length
 |[],_=>aW _
 |x::l,h=>by
  have h1:=Gs (l:=l) λy hy=>h y (bl _ hy)
  grind [aZ,Gq,bA,b7,Nat.mul_add]
theorem Zs {α β:Type}(l:aa α):(l.flatMap λ_=>([]:aa β))=[]:=by induction l with
 |nil=>rfl
 |cons x l ih=>rw[dc,ih];rfl
section
variable {K:af}{W:aa aj}{E:aa mS}{V L:aa af}{T S:aa (aa af)}
theorem De (h:nS K W E V L T S=0):K=0\/K=1:=by
 grind [nS]
theorem KR (h:nS K W E V L T S=0):∀j:ah,j<(yz W E).length->kN ((yz W E).getD j b0)=aC:=λj hj=>by
 unfold nS at h;split at h
 .cases h
 split at h
 .cases h
 grind
theorem Gt (h:nS K W E V L T S=0)(hk:K=0):kX K W E V L T S=((((aM W:af),DQ E),((V,L),(T,S))),0)/\Av (aM W:af) (DQ E) V L T S=0:=by
 unfold nS at h;split at h
 .cases h
 split at h
 .cases h
 grind [Jd]
theorem Gu (h:nS K W E V L T S=0)(hk:K=1):(kS K W E V L T S).2=0/\kz (kS K W E V L T S).1.1.1 (kS K W E V L T S).1.1.2=0/\kz (kS K W E V L T S).1.2.1.1 (kS K W E V L T S).1.2.1.2=0:=by
 unfold nS at h;split at h
 .cases h
 split at h
 .cases h
 grind [yj]
theorem N0 (h:(kS K W E V L T S).2=0):kS K W E V L T S=((((aM W:af),(B3 E).1),(((aM W:af),(B3 E).2.1),(B3 E).2.2)),0)/\V.length=0/\L.length=0/\S.length=0/\YX E:=by
 grind [kS]
theorem ac1 (E:aa mS):∀l∈E,((l.2.1,l.2.2.1)∈(B3 E).1)\/(l.2.1,l.2.2.1)∈(B3 E).2.1:=by
 have key:∀(E:aa mS) (z:B0),(∀p∈z.1,p∈(E.foldl qZ z).1)/\(∀p∈z.2.1,p∈(E.foldl qZ z).2.1)/\∀l∈E,((l.2.1,l.2.2.1)∈(E.foldl qZ z).1)\/(l.2.1,l.2.2.1)∈(E.foldl qZ z).2.1:=by
  intro E
  induction E with
  |nil=>intro z;exact⟨λ_ h=>h,λ_ h=>h,λ_ h=>by cases h⟩
  |cons l E ih=>
   grind [qZ,bU,bV,aU]
 exact(key E ([],([],[]))).2.2
theorem KS {n:af}{A:aa (af×af)}(h:kz n A=0){p:af×af}(hp:p∈A):P0 n p:=by
 obtain⟨j,hj,rfl⟩:=jJ (z:=((0:af),(0:af))).1 hp;exact(l6 h).2.2.2 j hj
theorem Df (h:nS K W E V L T S=0):Qn W E:=λj hj=>by
 have hm:E.getD j mK∈E:=jz hj;rcases De h with hk|hk
 .obtain⟨hc,hh⟩:=Gt h hk;have yd:(E.getD j mK).2.2.2=0:=by
   have:Gb E:=by
    unfold kX at hc;rw[aQ hk] at hc;split at hc
    .assumption
    have q:(1:af)=0:=bh (·.2) hc;omega
   exact this j (by omega)
  have ho:=KS (kA (Sf hh).1).1 (p:=((E.getD j mK).2.1,(E.getD j mK).2.2.1)) (bz.2 ⟨_,hm,rfl⟩);exact⟨⟨ho.1,ho.2.1⟩,⟨ho.2.2.1,ho.2.2.2⟩,by omega,by omega⟩
 obtain⟨h1,h2,h3⟩:=Gu h hk;obtain⟨hv,_,_,_,hi⟩:=N0 h1;rw[hv] at h2 h3;have ho:P0 (aM W:af) ((E.getD j mK).2.1,(E.getD j mK).2.2.1):=by
  rcases ac1 E _ hm with q|q
  .exact KS h2 q
  exact KS h3 q
 have:=hi j (by omega);exact⟨⟨ho.1,ho.2.1⟩,⟨ho.2.2.1,ho.2.2.2⟩,this.1,this.2⟩
theorem uj (h:nS K W E V L T S=0)(hk:K=0):j6 (aM W:af) (DQ E) V L=0/\vN (aM W:af) (DQ E) V L T S=0/\pZ (aM W:af) (DQ E) L T:=by
 obtain⟨_,hh⟩:=Gt h hk
 grind [Sf,si,vh,rq]
theorem sr (E:aa mS):(DQ E).length=E.length:=by unfold DQ;rw[bH]
theorem KT (h:nS K W E V L T S=0)(hk:K=0):U1 W E V L T:=by
 obtain⟨h1,_,h3⟩:=uj h hk;obtain⟨_,hV,hL,_⟩:=kA h1;have hl:=h3.len;refine⟨λv hv=>?_,λe he=>?_⟩
 .have:=(jC.1 hV).2 v hv;omega
 grind [jC,sr]
theorem ac2 (h:nS K W E V L T S=0):∀j:ah,j<W.length->(W.getD j b0).size<=64:=λj hj=>by
 have:=KR h j (by simp[yz];omega);rw[show(yz W E).getD j b0=W.getD j b0 by simp[yz,bD,eY hj]] at this;exact zW this
theorem ac3 (h:nS K W E V L T S=0):∀j:ah,j<E.length->(E.getD j mK).1.size<=64:=λj hj=>by
 have:=KR h (W.length+j) (by simp[yz];omega);rw[show(yz W E).getD (W.length+j) b0=(E.getD j mK).1 by simp[yz,bD,List.getElem?_append_right,hj]] at this;exact zW this
theorem agX {S:aa (aa af)}(h:∀l∈S,2<=l.length):S.length<=S.flatten.length:=by
 induction S with
 |nil=>exact aW _
 |cons l S ih=>
  grind
theorem xZ (ws:aa aj):Cr [ws]=(jG ws vP).size+1:=by unfold Cr;simp
theorem Zt (h:nS K W E V L T S=0)(hW:W.length<=40)(hE':E.length<=40):(oQ b0 (Db K W E V L T S (hE E L))).size<=65536:=by
 have sW:=ac2 h;have sE:=ac3 h;have sg:∀x:af,(W.getD x.toNat b0).size<=64:=λx=>by
  by_cases q:x.toNat<W.length
  .exact sW _ q
  rw[List.getD_eq_getElem?_getD,List.getElem?_eq_none (by omega)];exact Nat.zero_le _
 have eg:∀x:af,(E.getD x.toNat mK).1.size<=64:=λx=>by
  by_cases q:x.toNat<E.length
  .exact sE _ q
  rw[List.getD_eq_getElem?_getD,List.getElem?_eq_none (by omega)];exact Nat.zero_le _
 have w0:Cr (kL K)=5:=by
  unfold kL;rw[xZ,join_one];split<;>rfl
 have w1:=Gs (f:=fV) (g:=λ_=>([]:aa af)) (c:=72) (l:=W) λv hv=>by
  unfold fV;rw[xZ];have hs:v.size<=64:=by obtain⟨j,hj,rfl⟩:=jJ (z:=b0).1 hv;exact sW j hj
  have:=th yl [v] 64 λx hx=>by rw[List.mem_singleton.1 hx];exact hs
  have e:yl.size=6:=rfl;rw[List.length_singleton] at this;simp only[List.length_nil];omega
 have w2:=Gs (f:=fE W) (g:=λ_=>([]:aa af)) (c:=202) (l:=E) λe he=>by
  unfold fE;rw[xZ];have hs:e.1.size<=64:=by obtain⟨j,hj,rfl⟩:=jJ (z:=mK).1 he;exact sE j hj
  have:=th (kE e.2.2.2) [e.1,W.getD e.2.1.toNat b0,W.getD e.2.2.1.toNat b0] 64 λx hx=>by
   simp only[List.mem_cons,List.not_mem_nil,or_false] at hx;rcases hx with rfl|rfl|rfl
   .exact hs
   .exact sg _
   exact sg _
  have ek:(kE e.2.2.2).size<=6:=by unfold kE;split;decide;split<;>decide
  simp only[List.length_cons,List.length_nil] at this ⊢;omega
 rw[Zs,List.length_nil] at w1 w2;rw[B7];have hb:b0.size=0:=rfl;rcases De h with hk|hk
 .obtain⟨hp,FH,hT⟩:=uj h hk;obtain⟨hr,hV,hL,_⟩:=kA hp;have c1:L.length<=40:=by
   have:=tC (a:=0) (mw (jC.1 hL).1) (jC.1 hL).2;rw[sr] at this;omega
  have c2:V.length<=40:=by
   have:=tC (a:=0) (mw (jC.1 hV).1) (jC.1 hV).2;omega
  have c3:=Zr FH;have c4:=U6 hp hT;rw[sr] at c3 c4;have c5:S.length<=S.flatten.length:=agX λl hl=>by
   obtain⟨_,z,hz,_⟩:=rq FH;obtain⟨j,hj,rfl⟩:=jJ (z:=([]:aa af)).1 hl;exact BZ hz j hj
  have w3:=Gs (f:=fH E) (g:=λ_=>([]:aa af)) (c:=70) (l:=L) λe _=>by
   unfold fH;rw[xZ];have:=th uw [(E.getD e.toNat mK).1] 64 λx hx=>by rw[List.mem_singleton.1 hx];exact eg _
   have e4:uw.size=4:=rfl;rw[List.length_singleton] at this;simp only[List.length_nil];omega
  have w4:=Gs (f:=fW W (hE E L)) (g:=λ_=>([]:aa af)) (c:=70) (l:=V) λv _=>by
   unfold fW;split
   .exact Nat.zero_le _
   rw[xZ];have:=th uw [W.getD v.toNat b0] 64 λx hx=>by rw[List.mem_singleton.1 hx];exact sg _
   have e4:uw.size=4:=rfl;rw[List.length_singleton] at this;simp only[List.length_nil];omega
  have w5:=Gs (f:=fA W E T (hE E L)) (g:=λv=>T.getD v.toNat []) (c:=73) (l:=V) λv _=>by
   unfold fA;split
   .rw[xZ];have:=th wAr (W.getD v.toNat b0::(ju (T.getD v.toNat [])).map (sj W E)) 65 λx hx=>by
     rcases List.mem_cons.1 hx with rfl|hx
     .exact Nat.le_succ_of_le (sg _)
     obtain⟨d,_,rfl⟩:=List.mem_map.1 hx;exact R9 sW sE d
    have e6:wAr.size=6:=rfl;rw[List.length_cons,List.length_map,mG,Nat.add_mul] at this;omega
   exact bQ _
  have w6:=Gs (f:=fR W E) (g:=λl=>l) (c:=7) (l:=S) λl _=>by
   unfold fR;rw[xZ];have:=th wRg (l.map (sj W E)) 65 λx hx=>by obtain⟨d,_,rfl⟩:=bz.1 hx;exact R9 sW sE d
   have e6:wRg.size=6:=rfl;rw[bH] at this;omega
  rw[Zs,cK] at w3 w4;have e6:(S.flatMap λl=>l)=S.flatten:=by rw[List.flatMap_def,List.map_id']
  rw[e6] at w6;rw[UZ hk];unfold EE;simp only[Gq];omega
 rw[U0 (by omega)];simp only[Gq];omega
end
theorem tj (s:aj)(pos k:ah):pE s ((pos:af)+(k:af))=((s.get! (pos+k)).toNat:af):=by
 unfold pE;rw[show((pos:af)+(k:af)).toNat=pos+k by omega];rfl
def tw (b0 b1 b2 b3:ah)(s1 s2 s3:Prop)[ax s1][ax s2][ax s3]:ah×ah:=
 if b0<128 then(b0,1)
 else if b0/32=6/\s1/\b1/64=2 then
  (if 128<=b0%32*64+b1%64 then(b0%32*64+b1%64,2) else(65533,1))
 else if(b0/16=14/\s1/\b1/64=2)/\s2/\b2/64=2 then
  (if 2048<=b0%16*4096+b1%64*64+b2%64/\arE ((b0%16*4096+b1%64*64+b2%64:ah):af)=aC then(b0%16*4096+b1%64*64+b2%64,3) else(65533,1))
 else if((b0/8=30/\s1/\b1/64=2)/\s2/\b2/64=2)/\s3/\b3/64=2 then
  (if 65536<=b0%8*262144+b1%64*4096+b2%64*64+b3%64/\arE ((b0%8*262144+b1%64*4096+b2%64*64+b3%64:ah):af)=aC then(b0%8*262144+b1%64*4096+b2%64*64+b3%64,4) else(65533,1))
 else(65533,1)
theorem qy {α:Type}{b:ak}{p:Prop}[ax p]{x y x' y':α}(h:b=aC↔p)(hx:x=x')(hy:y=y'):(if b=aC then x else y)=(if p then x' else y'):=by
 grind
theorem pS (s:aj)(pos:ah):bn s pos=tw (s.get! (pos+0)).toNat (s.get! (pos+1)).toNat (s.get! (pos+2)).toNat (s.get! (pos+3)).toNat (pos+1<s.size) (pos+2<s.size) (pos+3<s.size):=by
 unfold Utf8.decode tw;refine ite_congr rfl (λ_=>rfl) λ_=>?_;refine qy (by simp only[bB,beq_iff_eq,decide_eq_true_eq]) rfl ?_;refine qy (by simp only[bB,beq_iff_eq,decide_eq_true_eq]) (qy (by simp only[bB,decide_eq_true_eq,ge_iff_le]) rfl rfl) ?_;exact qy (by simp only[bB,beq_iff_eq,decide_eq_true_eq]) (qy (by simp only[bB,decide_eq_true_eq,ge_iff_le]) rfl rfl) rfl
def okN (l:aa af)(n:ah):Prop:=∀j,j<n->(l.getD j 0=1\/l.getD j 0=2)
instance (l:aa af) (n:ah):ax (okN l n):=by unfold okN;infer_instance
def al9 (s:aj):ah->ah->af->af
 |0,_,n=>n
 |f+1,i,n=>if pE s i<48\/57<pE s i then -1 else al9 s f (i+1) (n*10+pE s i-48)
def Zu (r:af):Prop:=¬(r<0\/r=65533\/(cls r=0/\r≠10/\(r<43\/47<r)/\r≠58/\r≠124))
instance (r:af):ax (Zu r):=by unfold Zu;infer_instance
def DU (s:aj):ah->ah->af->aa (af×af)
 |0,_,from_=>if from_<(s.size:af) then[(from_,(s.size:af))] else[]
 |f+1,i,from_=>if pE s i=10 then(from_,(i:af))::DU s f (i+1) ((i:af)+1) else DU s f (i+1) from_
def agY (s:aj):aa (af×af):=DU s s.size 0 0
theorem Sk (b0 b1 b2 b3:ah)(s1 s2 s3:Prop)[ax s1][ax s2][ax s3]:
  ((tw b0 b1 b2 b3 s1 s2 s3).1=10↔b0=10)/\(b0=10->(tw b0 b1 b2 b3 s1 s2 s3).2=1)/\1<=(tw b0 b1 b2 b3 s1 s2 s3).2/\(tw b0 b1 b2 b3 s1 s2 s3).2<=4/\
  (2<=(tw b0 b1 b2 b3 s1 s2 s3).2->b1≠10/\s1)/\(3<=(tw b0 b1 b2 b3 s1 s2 s3).2->b2≠10/\s2)/\(4<=(tw b0 b1 b2 b3 s1 s2 s3).2->b3≠10/\s3):=by
 unfold tw
 grind
theorem vo {s:aj}{i:ah}{from_:af}(hi:i<s.size)(h:pE s i≠10):DU s (s.size-i) i from_=DU s (s.size-(i+1)) (i+1) from_:=by
 rw[show s.size-i=(s.size-(i+1))+1 by omega]
 grind [DU]
theorem qJ (s:aj)(i:ah):pE s (i:af)=((s.get! i).toNat:af):=tj s i 0
theorem Gv {s:aj}{pos:ah}{from_:af}(hp:pos<s.size)(h:¬((bn s pos).1:af)=10):
  DU s (s.size-pos) pos from_=DU s (s.size-(pos+(bn s pos).2)) (pos+(bn s pos).2) from_/\pos+(bn s pos).2<=s.size:=by
 rw[pS s pos] at h ⊢;obtain⟨h1,_,h3,h4,h5,h6,h7⟩:=Sk (s.get! (pos+0)).toNat (s.get! (pos+1)).toNat (s.get! (pos+2)).toNat (s.get! (pos+3)).toNat (pos+1<s.size) (pos+2<s.size) (pos+3<s.size);generalize tw (s.get! (pos+0)).toNat (s.get! (pos+1)).toNat (s.get! (pos+2)).toNat (s.get! (pos+3)).toNat (pos+1<s.size) (pos+2<s.size) (pos+3<s.size)=d at h h1 h3 h4 h5 h6 h7 ⊢;obtain⟨r,k⟩:=d;simp only at h h1 h3 h4 h5 h6 h7 ⊢;have b0:pE s (pos:af)≠10:=by rw[qJ];intro e;apply h;rw[h1.2 (by rw[eH];omega)];rfl
 have e0:=vo (from_:=from_) hp b0;rcases(show k=1\/k=2\/k=3\/k=4 by omega) with rfl|rfl|rfl|rfl
 .exact⟨e0,hp⟩
 .obtain⟨c1,d1⟩:=h5 (by omega);have e1:=vo (from_:=from_) d1 (by rw[qJ];omega);exact⟨e0.trans e1,d1⟩
 .obtain⟨c1,d1⟩:=h5 (by omega);obtain⟨c2,d2⟩:=h6 (by omega);have e1:=vo (from_:=from_) d1 (by rw[qJ];omega);have e2:=vo (from_:=from_) d2 (by rw[qJ];omega);exact⟨(e0.trans e1).trans e2,d2⟩
 obtain⟨c1,d1⟩:=h5 (by omega);obtain⟨c2,d2⟩:=h6 (by omega);obtain⟨c3,d3⟩:=h7 (by omega);have e1:=vo (from_:=from_) d1 (by rw[qJ];omega);have e2:=vo (from_:=from_) d2 (by rw[qJ];omega);have e3:=vo (from_:=from_) d3 (by rw[qJ];omega);exact⟨((e0.trans e1).trans e2).trans e3,d3⟩
theorem Gw {s:aj}{pos:ah}{from_:af}(hp:pos<s.size)(h:((bn s pos).1:af)=10):
  DU s (s.size-pos) pos from_=(from_,(pos:af))::DU s (s.size-(pos+(bn s pos).2)) (pos+(bn s pos).2) ((pos:af)+1)/\(bn s pos).2=1:=by
 rw[pS s pos] at h ⊢;obtain⟨h1,h2,_⟩:=Sk (s.get! (pos+0)).toNat (s.get! (pos+1)).toNat (s.get! (pos+2)).toNat (s.get! (pos+3)).toNat (pos+1<s.size) (pos+2<s.size) (pos+3<s.size);have hb:=h1.1 (by omega);rw[h2 hb];refine⟨?_,rfl⟩;rw[show s.size-pos=(s.size-(pos+1))+1 by omega];simp only[DU];rw[aQ (by rw[qJ];rw[eH] at hb;omega)]
def A8 (s:aj)(c:af×af):af×aj:=(c.1,s.extract c.1.toNat c.2.toNat)
def nu (s:aj):aa (af×aj):=(agY s).map (A8 s)
theorem Qr (s:aj):∀(f i:ah) (from_:af),0<=from_->from_<=(i:af)->i+f=s.size->∀c∈DU s f i from_,0<=c.1/\c.1<=c.2/\c.2<=(s.size:af)
 |0,i,from_,h0,h1,h2,c,hc=>by
  grind [DU]
 |f+1,i,from_,h0,h1,h2,c,hc=>by
  simp only[DU] at hc;split at hc
  .rcases bg.1 hc with rfl|hc
   .simp only;omega
   exact Qr s f (i+1) _ (by omega) (by omega) (by omega) c hc
  exact Qr s f (i+1) from_ h0 (by omega) (by omega) c hc
theorem Zv {b0 b1 b2 b3:ah}{s1 s2 s3:Prop}[ax s1][ax s2][ax s3](h:b0<128):tw b0 b1 b2 b3 s1 s2 s3=(b0,1):=aQ h
theorem Ji {b0 b1 b2 b3:ah}{s1 s2 s3:Prop}[ax s1][ax s2][ax s3](h:¬b0<128):
  128<=(tw b0 b1 b2 b3 s1 s2 s3).1/\(1<(tw b0 b1 b2 b3 s1 s2 s3).2->128<=b1)/\(2<(tw b0 b1 b2 b3 s1 s2 s3).2->128<=b2)/\(3<(tw b0 b1 b2 b3 s1 s2 s3).2->128<=b3)/\(tw b0 b1 b2 b3 s1 s2 s3).2<=4/\(1<(tw b0 b1 b2 b3 s1 s2 s3).2->s1)/\(2<(tw b0 b1 b2 b3 s1 s2 s3).2->s2)/\(3<(tw b0 b1 b2 b3 s1 s2 s3).2->s3):=by
 grind [tw]
theorem N1 {s:aj}{pos:ah}(h:pE s pos<128):bn s pos=((pE s pos).toNat,1):=by
 have e0:=tj s pos 0;simp only[aqi,aqj] at e0
 grind [pS,Zv]
theorem U7 {s:aj}{pos:ah}(h:¬pE s pos<128):128<=(bn s pos).1/\∀k:ah,0<k->k<(bn s pos).2->128<=pE s ((pos+k:ah):af):=by
 have e0:=tj s pos 0;have e1:=tj s pos 1;have e2:=tj s pos 2;have e3:=tj s pos 3;simp only[aqi,aqj] at e0;have hd:=Ji (b0:=(s.get! (pos+0)).toNat) (b1:=(s.get! (pos+1)).toNat) (b2:=(s.get! (pos+2)).toNat) (b3:=(s.get! (pos+3)).toNat) (s1:=pos+1<s.size) (s2:=pos+2<s.size) (s3:=pos+3<s.size) (by omega);rw[<-pS] at hd;have⟨h1,h2,h3,h4,h5,_⟩:=hd;refine⟨h1,λk k0 k1=>?_⟩;have:k=1\/k=2\/k=3:=by omega
 rw[Int.natCast_add];rcases this with rfl|rfl|rfl
 .have:=h2 k1;omega
 .have:=h3 k1;omega
 have:=h4 k1;omega
theorem Jj {s:aj}{pos:ah}(h:pos<s.size):pos+(bn s pos).2<=s.size:=by
 by_cases hl:pE s pos<128
 .rw[N1 hl];exact h
 have e0:=tj s pos 0;simp only[aqi,aqj] at e0;have hd:=Ji (b0:=(s.get! (pos+0)).toNat) (b1:=(s.get! (pos+1)).toNat) (b2:=(s.get! (pos+2)).toNat) (b3:=(s.get! (pos+3)).toNat) (s1:=pos+1<s.size) (s2:=pos+2<s.size) (s3:=pos+3<s.size) (by omega)
 grind [pS]
theorem Sl {s t:aj}{i:ah}(h:i<s.size):(s++t).get! i=s.get! i:=by
 have h:i<s.data.size:=h;show(s++t).data[i]! =s.data[i]!;rw[dD]
 grind
theorem Sm (s t:aj)(i:ah):(s++t).get! (s.size+i)=t.get! i:=by
 show(s++t).data[s.data.size+i]! =t.data[i]!;rw[dD]
 grind
theorem U8 {b0 b1 b2 b3:ah}{s1 s2 s3 t1 t2 t3:Prop}[ax s1][ax s2][ax s3][ax t1][ax t2][ax t3](h1:s1↔t1)(h2:s2↔t2)(h3:s3↔t3):
 tw b0 b1 b2 b3 s1 s2 s3=tw b0 b1 b2 b3 t1 t2 t3:=by grind
theorem U9 {b0 b1 b2 b3 c1 c2 c3:ah}{s1 s2 s3 t1 t2 t3:Prop}[ax s1][ax s2][ax s3][ax t1][ax t2][ax t3]
  (h1:s1->t1/\c1=b1) (h2:s2->t2/\c2=b2) (h3:s3->t3/\c3=b3) (h:(tw b0 b1 b2 b3 s1 s2 s3).1≠65533):tw b0 c1 c2 c3 t1 t2 t3=tw b0 b1 b2 b3 s1 s2 s3:=by
 unfold tw at h ⊢
 grind
theorem aj0 (s t:aj)(p:ah):bn (s++t) (s.size+p)=bn t p:=by
 rw[pS,pS,dz,dz,dz,dz,Sm,Sm,Sm,Sm];exact U8 (by rw[m7];omega) (by rw[m7];omega) (by rw[m7];omega)
theorem aj1 {s t:aj}{p:ah}(hp:p<s.size)(h:(bn s p).1≠65533):bn (s++t) p=bn s p:=by
 rw[pS] at h;rw[pS,pS,show(s++t).get! (p+0)=s.get! (p+0) from Sl hp];exact U9 (λq=>⟨by rw[m7];omega,by rw[Sl q]⟩) (λq=>⟨by rw[m7];omega,by rw[Sl q]⟩) (λq=>⟨by rw[m7];omega,by rw[Sl q]⟩) h
def Eb (n:ah)(l:aa (ah×af)):aa (ah×af):=l.map λx=>(n+x.1,x.2)
theorem zX (n:ah)(l m:aa (ah×af)):Eb n (l++m)=Eb n l++Eb n m:=cA
theorem Sn (n m:ah)(l:aa (ah×af)):Eb n (Eb m l)=Eb (n+m) l:=by
 grind [Eb,cz,dm,dz]
def Full (l:aa (ah×af)):Prop:=∀x∈l,x.2≠65533
theorem KU (s t:aj):∀(f q:ah),t.size-q<=f->kY (s++t) (s.size+q)=Eb s.size (kY t q)
 |0,q,h=>by rw[lB _ _ (by rw[m7];omega),lB _ _ (by omega)];rfl
 |f+1,q,h=>by
  by_cases hq:q<t.size
  .have hw:=oS t q hq;rw[jN _ _ (by rw[m7];omega),jN t q hq,aj0,dz,KU s t f (q+(bn t q).2) (by omega)];rfl
  rw[lB _ _ (by rw[m7];omega),lB _ _ hq];rfl
theorem Sq (s t:aj):∀(f p:ah),s.size-p<=f->p<=s.size->Full (kY s p)->kY (s++t) p=kY s p++Eb s.size (kY t 0)
 |0,p,h,hp,hf=>by
  obtain rfl:p=s.size:=by omega
  rw[lB s _ (by omega)];exact KU s t _ 0 (aW _)
 |f+1,p,h,hp,hf=>by
  by_cases hq:p<s.size
  .have hw:=oS s p hq;rw[jN s p hq] at hf ⊢;have h0:(bn s p).1≠65533:=λe=>hf _ aZ (by show((bn s p).1:af)=_;rw[e];rfl);rw[jN _ _ (by rw[m7];omega),aj1 hq h0,eC];exact bh _ (Sq s t f (p+(bn s p).2) (by omega) (Jj hq) λx hx=>hf x (bl _ hx))
  obtain rfl:p=s.size:=by omega
  rw[lB s _ (by omega)];exact KU s t _ 0 (aW _)
theorem xe {s:aj}(t:aj)(h:Full (kY s 0)):kY (s++t) 0=kY s 0++Eb s.size (kY t 0):=Sq s t _ 0 (aW _) (bQ _) h
def clW (r:af):Prop:=cls r≠4/\r≠10/\r≠65533/\(cls r=0->yh r=aC)
def okW (w:aj):Prop:=w.size≠0/\∀x∈kY w 0,clW x.2
theorem okW.full {w:aj}(h:okW w):Full (kY w 0):=λx hx=>(h.2 x hx).2.2.1
theorem Zw {r:af}(h:cls r=1\/cls r=2\/cls r=3):clW r:=by
 refine⟨by omega,λe=>?_,λe=>?_,by omega⟩
 .subst e;revert h;decide+kernel
 subst e;revert h;decide+kernel
theorem Gx:∀(l:aa (ah×af)) (n k:af),mP l n k=aC->∀x∈l,cls x.2=1\/cls x.2=2\/cls x.2=3
 |[],_,_,_,x,hx=>by cases hx
 |(p,r)::l,n,k,h,x,hx=>by
  simp only[mP] at h;have:(cls r=1\/cls r=2\/cls r=3)/\∃n' k',mP l n' k'=aC:=by
   (repeat' split at h)<;>first|(cases h;done)|exact⟨.inl (by assumption),_,_,h⟩|exact⟨.inr (.inl (by assumption)),_,_,h⟩|exact⟨.inr (.inr (by assumption)),_,_,h⟩
  rcases bg.1 hx with rfl|hx
  .exact this.1
  have⟨n',k',h'⟩:=this.2;exact Gx l n' k' h' x hx
theorem B8 {w:aj}(h:kN w=aC):w.size≠0:=λe=>by
 unfold kN at h;rw[lB w 0 (by omega)] at h;cases h
theorem ry {w:aj}(h:kN w=aC):okW w:=⟨B8 h,λx hx=>Zw (Gx _ _ _ h x hx)⟩
theorem N2 {w s:aj}(h:kN w=aC){r:af}(hs:kY s 0=[(0,r)])(hr:clW r):okW (w++s):=by
 refine⟨by have:=B8 h;rw[m7];omega,λx hx=>?_⟩;rw[xe s (ry h).full,hs] at hx;rcases bE.1 hx with hx|hx
 .exact(ry h).2 x hx
 rw[aU.1 hx];exact hr
theorem Zx {w:aj}(h:kN w=aC):okW (w++fB):=N2 h (r:=43) (by kernel_rfl) (by unfold clW;decide+kernel)
theorem Va {w:aj}(h:kN w=aC):okW (w++fy):=N2 h (r:=45) (by kernel_rfl) (by unfold clW;decide+kernel)
theorem KV (A w B:aj):(A++w++B).extract A.size (A.size+w.size)=w:=by
 apply fc;rw[ByteArray.data_extract,dD,dD];have e1:A.size=A.data.size:=rfl;have e2:w.size=w.data.size:=rfl
 grind
theorem Sr (a:aj):a++b0=a:=by apply fc;rw[dD];simp
theorem ac4 (A w:aj):(A++w).extract A.size (A++w).size=w:=by
 have:=KV A w b0
 grind [Sr,m7]
def poW:ah->aa aj->aa (af×aj)
 |_,[]=>[]
 |p,w::ws=>((p:af),w)::poW (p+w.size+1) ws
def ruW:ah->aa aj->aa (ah×af)
 |_,[]=>[]
 |p,[w]=>Eb p (kY w 0)
 |p,w::v::ws=>Eb p (kY w 0)++(p+w.size,32)::ruW (p+w.size+1) (v::ws)
theorem aff:kY vP 0=[(0,32)]:=by kernel_rfl
theorem afg:kY nlB 0=[(0,10)]:=by kernel_rfl
theorem ac5:Full (kY vP 0):=λx hx=>by rw[aff] at hx;rw[aU.1 hx];decide
theorem KW:∀(ws:aa aj) (p:ah),(∀w∈ws,okW w)->Eb p (kY (jG ws vP) 0)=ruW p ws
 |[],p,_=>by
  have:kY (jG [] vP) 0=[]:=by kernel_rfl
  rw[this];rfl
 |[w],p,_=>by rw[join_one];rfl
 |w::v::ws,p,h=>by
  rw[join_cons,xX,xe _ (h w aZ).full,xe _ ac5,aff,zX,zX,zX];simp only[Sn];rw[KW (v::ws) _ λw hw=>h w (bl _ hw)];rfl
theorem afh:∀(ws:aa aj) (p:ah),(∀w∈ws,okW w)->∀x∈ruW p ws,clW x.2\/x.2=32
 |[],_,_,_,hx=>by cases hx
 |[w],p,h,x,hx=>by
  obtain⟨y,hy,rfl⟩:=bz.1 (show x∈(kY w 0).map λx=>(p+x.1,x.2) from hx);exact .inl ((h w aZ).2 y hy)
 |w::v::ws,p,h,x,hx=>by
  rcases bE.1 (show x∈Eb p (kY w 0)++(p+w.size,32)::ruW (p+w.size+1) (v::ws) from hx) with hx|hx
  .obtain⟨y,hy,rfl⟩:=bz.1 hx;exact .inl ((h w aZ).2 y hy)
  rcases bg.1 hx with rfl|hx
  .exact .inr rfl
  exact afh (v::ws) _ (λw hw=>h w (bl _ hw)) x hx
theorem Ss (l:aa (ah×af)):Eb 0 l=l:=by unfold Eb;simp
theorem KX {ws:aa aj}(h:∀w∈ws,okW w):∀x∈kY (jG ws vP) 0,clW x.2\/x.2=32:=λx hx=>by
 rw[<-Ss (kY (jG ws vP) 0),KW ws 0 h] at hx;exact afh ws 0 h x hx
theorem ac6 {l:aa (ah×af)}(h:∀x∈l,clW x.2\/x.2=32):Full l:=λx hx=>(h x hx).elim (λq=>q.2.2.1) λq=>by rw[q];decide
theorem afi {s:aj}:∀(l t:aa (ah×af)) {b:af} (acc:aa (af×aj)),0<=b->(∀x∈l,cls x.2≠4)->sI s (l++t) b acc=sI s t b acc
 |[],t,b,acc,_,_=>rfl
 |(p,r)::l,t,b,acc,hb,h=>by
  rw[eC];simp only[sI];rw[aP (h (p,r) aZ),aP (by omega)];exact afi l t acc hb λx hx=>h x (bl _ hx)
theorem Su {s w:aj}(hw:okW w)(p:ah)(t:aa (ah×af))(acc:aa (af×aj)):sI s (Eb p (kY w 0)++t) (-1) acc=sI s t (p:af) acc:=by
 have h0:0<w.size:=by have:=hw.1;omega
 have hc:=hw.2;rw[jN w 0 h0] at hc ⊢;show sI s ((p+0,((bn w 0).1:af))::(Eb p _++t)) (-1) acc=_;simp only[sI];rw[aP (hc _ aZ).1,aQ (by omega),eH];refine afi _ _ _ (by omega) λx hx=>?_;obtain⟨y,hy,rfl⟩:=bz.1 hx;exact(hc y (bl _ hy)).1
theorem Sv:∀(ws:aa aj) (A s:aj) (acc:aa (af×aj)),s=A++jG ws vP->(∀w∈ws,okW w)->sI s (ruW A.size ws) (-1) acc=acc++poW A.size ws
 |[],A,s,acc,hs,_=>by show sI s [] (-1) acc=acc++[];simp[sI]
 |[w],A,s,acc,hs,h=>by
  rw[join_one] at hs;show sI s (Eb A.size (kY w 0)) (-1) acc=acc++[((A.size:af),w)];have:=Su (s:=s) (h w aZ) A.size [] acc;rw[bW] at this;rw[this];simp only[sI];rw[aQ (by omega),hs,dw,ac4]
 |w::v::ws,A,s,acc,hs,h=>by
  rw[join_cons] at hs;show sI s (Eb A.size (kY w 0)++(A.size+w.size,32)::ruW (A.size+w.size+1) (v::ws)) (-1) acc=_;rw[Su (h w aZ)];simp only[sI];rw[aQ (show cls 32=4 by decide+kernel),aQ (by omega),dw,dw];have e1:s.extract A.size (A.size+w.size)=w:=by rw[hs,xX w,<-xX A];exact KV _ _ _
  have e2:s=(A++w++vP)++jG (v::ws) vP:=by rw[hs];simp only[xX]
  have e3:(A++w++vP).size=A.size+w.size+1:=by rw[m7,m7];rfl
  have:=Sv (v::ws) (A++w++vP) s (acc++[((A.size:af),w)]) e2 λw hw=>h w (bl _ hw);rw[e3] at this;rw[e1,this,cx];rfl
theorem Qs {ws:aa aj}(h:∀w∈ws,okW w):mc (jG ws vP)=poW 0 ws:=by
 have:=Sv ws b0 (jG ws vP) [] (by rw[NQ]) h;unfold mc;rw[<-Ss (kY (jG ws vP) 0),KW ws 0 h];exact this
def poL:ah->aa (aa aj)->aa (af×aj)
 |_,[]=>[]
 |p,ws::ls=>((p:af),jG ws vP)::poL (p+(jG ws vP).size+1) ls
def ruL:ah->aa (aa aj)->aa (ah×af)
 |_,[]=>[]
 |p,ws::ls=>Eb p (kY (jG ws vP) 0)++(p+(jG ws vP).size,10)::ruL (p+(jG ws vP).size+1) ls
theorem EF:∀(ls:aa (aa aj)) (q:aj),oQ q ls=q++oQ b0 ls
 |[],q=>(Sr q).symm
 |ws::ls,q=>by
  show oQ (xY q ws) ls=q++oQ (xY b0 ws) ls;rw[EF ls (xY q ws),EF ls (xY b0 ws)]
  grind [xY,xX,NQ]
theorem ac7:Full (kY nlB 0):=λx hx=>by rw[afg] at hx;rw[aU.1 hx];decide
theorem Qt:∀(ls:aa (aa aj)) (p:ah),(∀ws∈ls,∀w∈ws,okW w)->Eb p (kY (oQ b0 ls) 0)=ruL p ls
 |[],p,_=>by
  have:kY (oQ b0 []) 0=[]:=by kernel_rfl
  rw[this];rfl
 |ws::ls,p,h=>by
  show Eb p (kY (oQ (xY b0 ws) ls) 0)=_;have hj:=KX (h ws aZ);rw[EF];unfold xY;rw[NQ,xX,xe _ (ac6 hj),xe _ ac7,afg,zX,zX,zX];simp only[Sn];rw[Qt ls _ λws hw=>h ws (bl _ hw)];rfl
theorem Sw {s:aj}{rest:aa (ah×af)}{from_:af}:∀(l:aa (ah×af)) (pos:ah),pos<=s.size->kY s pos=l++rest->(∀x∈l,x.2≠10)->
  ∃pos',pos'<=s.size/\kY s pos'=rest/\DU s (s.size-pos) pos from_=DU s (s.size-pos') pos' from_
 |[],pos,hp,h,_=>⟨pos,hp,h,rfl⟩
 |x::l,pos,hp,h,hx=>by
  by_cases q:pos<s.size
  .rw[jN s pos q,eC] at h;obtain⟨h1,h2⟩:=eZ h;have hn:¬((bn s pos).1:af)=10:=λe=>hx x aZ (by rw[<-h1];exact e);obtain⟨e,hle⟩:=Gv (from_:=from_) q hn;obtain⟨pos',k1,k2,k3⟩:=Sw (from_:=from_) l _ hle h2 λy hy=>hx y (bl _ hy);exact⟨pos',k1,k2,e.trans k3⟩
  rw[lB s pos q] at h;cases h
theorem Zy {s:aj}:∀(ls:aa (aa aj)) (A:aj),s=oQ A ls->(∀ws∈ls,∀w∈ws,okW w)->kY s A.size=ruL A.size ls->
  (DU s (s.size-A.size) A.size (A.size:af)).map (A8 s)=poL A.size ls
 |[],A,hs,_,_=>by
  have hs:s=A:=hs;subst hs;rw[Nat.sub_self];simp only[DU];rw[aP (by omega)];rfl
 |ws::ls,A,hs,h,hr=>by
  have hj:=KX (h ws aZ);have aj2:s=A++jG ws vP++(nlB++oQ b0 ls):=by
   rw[hs];show oQ (xY A ws) ls=_;rw[EF];unfold xY;simp only[xX]
  have oC:A.size+(jG ws vP).size+1<=s.size:=by rw[aj2,m7,m7,m7,show nlB.size=1 from rfl];omega
  obtain⟨pos,k1,k2,k3⟩:=Sw (from_:=(A.size:af)) (Eb A.size (kY (jG ws vP) 0)) A.size (by omega) hr λx hx=>by
   obtain⟨y,hy,rfl⟩:=bz.1 hx;exact(hj y hy).elim (λq=>q.2.1) λq=>by show y.2≠10;rw[q];decide
  by_cases q:pos<s.size
  .rw[jN s pos q] at k2;obtain⟨e1,e2⟩:=eZ k2;obtain⟨e3,e4⟩:=Prod.mk.inj e1;obtain⟨g1,g2⟩:=Gw (from_:=(A.size:af)) q e4;rw[k3,g1,bO];rw[g2] at e2 ⊢;have ea:(xY A ws).size=pos+1:=by rw[wY];omega
   have:=Zy ls (xY A ws) hs (λws hw=>h ws (bl _ hw)) (by rw[ea,e2,e3]);rw[ea] at this;show A8 s ((A.size:af),(pos:af))::_=((A.size:af),jG ws vP)::poL (A.size+(jG ws vP).size+1) ls;rw[show((pos:af)+1)=((pos+1:ah):af) from rfl,this,<-e3];refine bh (· ::_) ?_;show((A.size:af),s.extract (A.size:af).toNat (pos:af).toNat)=_;rw[dw,dw,e3]
   congr 1
   rw[aj2];exact KV _ _ _
  rw[lB s pos q] at k2;cases k2
theorem Vb {ls:aa (aa aj)}(h:∀ws∈ls,∀w∈ws,okW w):nu (oQ b0 ls)=poL 0 ls:=by
 have:=Zy (s:=oQ b0 ls) ls b0 rfl h (by rw[<-Qt ls b0.size h];exact(Ss _).symm);exact this
theorem Zz:∀(l:aa (ah×af)),(∀x∈l,cls x.2=0->yh x.2=aC)->Aw l=(0,aD)
 |[],_=>rfl
 |(p,r)::l,h=>by
  simp only[Aw];rw[aP λq=>by have:=h (p,r) aZ q.1;rw[q.2] at this;cases this];exact Zz l λx hx=>h x (bl _ hx)
theorem ZA:∀(ls:aa (aa aj)) (p:ah),(∀ws∈ls,∀w∈ws,okW w)->∀x∈ruL p ls,cls x.2=0->yh x.2=aC
 |[],_,_,_,hx=>by cases hx
 |ws::ls,p,h,x,hx=>by
  rcases bE.1 (show x∈Eb p (kY (jG ws vP) 0)++(p+(jG ws vP).size,10)::ruL (p+(jG ws vP).size+1) ls from hx) with hx|hx
  .obtain⟨y,hy,rfl⟩:=bz.1 hx;rcases KX (h ws aZ) y hy with q|q
   .exact q.2.2.2
   show cls y.2=0->_;rw[q];decide+kernel
  rcases bg.1 hx with rfl|hx
  .exact λ_=>show yh 10=aC by decide+kernel
  exact ZA ls _ (λws hw=>h ws (bl _ hw)) x hx
theorem ac8 {ls:aa (aa aj)}(h:∀ws∈ls,∀w∈ws,okW w):B4 (oQ b0 ls)=(0,aD):=by
 unfold B4;refine Zz _ ?_;rw[<-Ss (kY (oQ b0 ls) 0),Qt ls 0 h];exact ZA ls 0 h
theorem Gy (w:aj):∀(f pos i:ah),w.size-pos<=f->pos<=i->i<w.size->(∀x∈kY w pos,cls x.2=1\/cls x.2=2\/cls x.2=3)->pE w (i:af)≠43/\pE w (i:af)≠45
 |0,pos,i,h,h1,h2,_=>by omega
 |f+1,pos,i,h,h1,h2,hc=>by
  have hp:pos<w.size:=by omega
  have hw:=oS w pos hp;rw[jN w pos hp] at hc
  by_cases q:i<pos+(bn w pos).2
  .by_cases hl:pE w pos<128
   .rw[N1 hl] at q hc;obtain rfl:i=pos:=by simp only at q;omega
    have:=hc _ aZ;have hb:=Qi w i;have e:(((pE w (i:af)).toNat:ah):af)=pE w (i:af):=eM (by omega);simp only[e] at this;constructor<;>(intro z;rw[z] at this;revert this;decide+kernel)
   obtain⟨k,rfl⟩:∃k,i=pos+k:=⟨i-pos,by omega⟩
   by_cases k0:k=0
   .subst k0;exact⟨λz=>hl (by rw[eH] at z;rw[z];decide),λz=>hl (by rw[eH] at z;rw[z];decide)⟩
   have:=(U7 hl).2 k (by omega) (by omega);exact⟨λz=>by omega,λz=>by omega⟩
  exact Gy w f _ i (by omega) (by omega) h2 λx hx=>hc x (bl _ hx)
theorem Dg {w:aj}(h:kN w=aC):∀b∈w.data.toList,([43,45]:aa UInt8).contains b=aD:=λb hb=>by
 obtain⟨i,hi,e⟩:=List.mem_iff_getElem.1 hb;have Cx:i<w.size:=by rw[cU] at hi;exact hi
 obtain⟨h1,h2⟩:=Gy w _ 0 i (aW _) (bQ _) Cx (Gx _ _ _ h);have eb:w.get! i=b:=by
  show w.data[i]! =b
  grind
 rw[qJ,eb] at h1 h2;have a1:b≠43:=λz=>h1 (by rw[z];rfl);have a2:b≠45:=λz=>h2 (by rw[z];rfl);simp[a1,a2]
def trimB (w:aj):aj:=⟨(anK w.data.toList [43,45]).toArray⟩
theorem Gz {l cs:aa UInt8}(h:∀b∈l,cs.contains b=aD):anK l cs=l:=by
 unfold Lib.trimRightS;cases hr:l.reverse with
 |nil=>rw[List.reverse_eq_nil_iff.1 hr];rfl
 |cons b r=>
  grind [aZ,arG,List.reverse_reverse]
theorem Jk {l cs:aa UInt8}{b:UInt8}(h:cs.contains b=aC):anK (l++[b]) cs=anK l cs:=by
 unfold Lib.trimRightS;rw[List.reverse_append,List.reverse_singleton,List.singleton_append,arG,aQ h]
theorem Vc {w:aj}(h:kN w=aC):trimB w=w:=by
 apply fc;show(anK w.data.toList [43,45]).toArray=w.data;rw[Gz (Dg h)]
theorem Vd {w:aj}(h:kN w=aC):trimB (w++fB)=w:=by
 apply fc;show(anK (w++fB:aj).data.toList [43,45]).toArray=w.data;rw[dD,an9,show(#[43]:aq UInt8).toList=[43] from rfl,Jk (by decide),Gz (Dg h)]
theorem Qu {w:aj}(h:kN w=aC):trimB (w++fy)=w:=by
 apply fc;show(anK (w++fy:aj).data.toList [43,45]).toArray=w.data;rw[dD,an9,show(#[45]:aq UInt8).toList=[45] from rfl,Jk (by decide),Gz (Dg h)]
def HE (w:aj):ak:=apA w.data.toList [45]
theorem ZB (l:aa UInt8)(b:UInt8):apA (l++[b]) [45]=(b==45):=by
 unfold Lib.hasSuffix;rw[anR,List.isSuffixOf_iff_suffix,beq_iff_eq];constructor
 .rintro⟨t,e⟩
  grind [List.append_inj_right',eZ]
 rintro rfl;exact⟨l,rfl⟩
theorem ZC (w:aj):HE (w++fB)=aD:=by
 unfold HE;rw[dD,an9,show(#[43]:aq UInt8).toList=[43] from rfl,ZB];decide
theorem Ve (w:aj):HE (w++fy)=aC:=by
 unfold HE;rw[dD,an9,show(#[45]:aq UInt8).toList=[45] from rfl];simp[apA]
structure RS where
 k:af
 b:ak
 t:af
 W:aa aj
 E:aa mS
 m:mZ
 hv:aa (af×Unit)
 he:aa (af×Unit)
 tu:aa (af×aa af)
 S:aa (aa af)
def uG (m:mZ)(x:aj):af:=if x.size=(trimB x).size then(p6 m (trimB x)).getD 0 else if HE x then 2*(p6 m (trimB x)).getD 0+1 else 2*(p6 m (trimB x)).getD 0
structure ov (m:mZ)(vx:ak)(x:aj):Prop where
 pos:(trimB x).size≠0
 le:x.size<=(trimB x).size+1
 ge:(trimB x).size<=x.size
 ZD:x.size=(trimB x).size->vx=aC
 some:∃k,p6 m (trimB x)=az k/\(k<0↔x.size=(trimB x).size)
inductive sP (s:RS):aa aj->RS->Prop
 |kind (K:af) (hb:s.b=aD) (h0:s.k=0) (hK:K=0\/K=1):sP s [if K=0 then wZ else uv] {s with k:=K,b:=aC}
 |ZD (n:aj) (hb:s.b=aC) (ht:s.t<=0) (hn:kN n=aC) (hl:p6 s.m n=aA):
  sP s [yl,n] {s with t:=0,W:=s.W++[n],m:=vZ s.m n (-1-(s.W.length:af))}
 |ac9 (i:af) (n a b:aj) (A B:af) (hb:s.b=aC) (ht:s.t<=1) (hi:i=0\/(i=1\/i=2)/\s.k=1) (hn:kN n=aC) (hl:p6 s.m n=aA)
  (ha:p6 s.m a=az (-1-A)) (h0:0<=A) (rN:p6 s.m b=az (-1-B)) (h0':0<=B):
  sP s [kE i,n,a,b] {s with t:=1,E:=s.E++[(n,(A,(B,i)))],m:=vZ s.m n (s.E.length:af)}
 |afj (n:aj) (j:af) (hb:s.b=aC) (hk:s.k=0) (ht:s.t<=2) (hl:p6 s.m n=az j) (h0:0<=j) (h1:j<(s.E.length:af)):
  sP s [uw,n] {s with t:=2,he:=kZ s.he j (),hv:=kZ (kZ s.hv (s.E.getD j.toNat mK).2.1 ()) (s.E.getD j.toNat mK).2.2.1 ()}
 |afk (n:aj) (v:af) (hb:s.b=aC) (hk:s.k=0) (ht:s.t<=2) (hl:p6 s.m n=az (-1-v)) (h0:0<=v):
  sP s [uw,n] {s with t:=2,hv:=kZ s.hv v ()}
 |ZE (n:aj) (v:af) (l:aa aj) (hb:s.b=aC) (hk:s.k=0) (ht:s.t<=3) (hl:p6 s.m n=az (-1-v)) (h0:0<=v) (hv:jr s.tu v=aA) (hx:∀x∈l,ov s.m aD x):
  sP s (wAr::n::l) {s with t:=3,tu:=kZ s.tu v (l.map (uG s.m))}
 |region (l:aa aj) (hb:s.b=aC) (hk:s.k=0) (ht:s.t<=4) (h2:2<=l.length) (hx:∀x∈l,ov s.m aC x):
  sP s (wRg::l) {s with t:=4,S:=s.S++[l.map (uG s.m)]}
inductive qK:RS->aa (aa aj)->RS->Prop
 |nil (s:RS):qK s [] s
 |cons {s t u:RS} {ws:aa aj} {ls:aa (aa aj)} (h:sP s ws t) (hr:qK t ls u):qK s (ws::ls) u
theorem qK.app {s t u:RS}{A B:aa (aa aj)}(h:qK s A t)(h2:qK t B u):qK s (A++B) u:=by
 induction h with
 |nil=>exact h2
 |cons q _ ih=>exact .cons q (ih h2)
theorem qK.one {s t:RS}{ws:aa aj}(h:sP s ws t):qK s [ws] t:=.cons h (.nil _)
theorem qK.seg {α:Type}{f:α->aa (aa aj)}{d:α}(l:aa α)(st:ah->RS)(h:∀i,i<l.length->qK (st i) (f (l.getD i d)) (st (i+1))):qK (st 0) (l.flatMap f) (st l.length):=by
 have key:∀k,k<=l.length->qK (st 0) ((l.take k).flatMap f) (st k):=by
  intro k
  induction k with
  |zero=>intro _;exact .nil _
  |succ k ih=>
   intro hk;have hg:l.getD k d=l[k]:=by rw[bD,bN (by omega)];rfl
   rw[dV (show k<l.length by omega),anZ];refine(ih (by omega)).app ?_;have:=h k (by omega);rw[hg] at this;simpa using this
 have:=key l.length (aW _);rwa[cg] at this
def N3 (l:aa (aj×af))(m:mZ):mZ:=l.foldl (λm p=>vZ m p.1 p.2) m
theorem N4 (l:aa (aj×af))(m:mZ)(p:aj×af):N3 (l++[p]) m=vZ (N3 l m) p.1 p.2:=by unfold N3;rw[List.foldl_append];rfl
theorem KY {x:aj}:∀(l:aa (aj×af)) (m:mZ),x∉l.map (·.1)->p6 (N3 l m) x=p6 m x
 |[],_,_=>rfl
 |p::l,m,h=>by
  rw[bO,bg,not_or] at h;show p6 (N3 l (vZ m p.1 p.2)) x=_;rw[KY l _ h.2,y8,aP (λe=>h.1 e.symm)]
theorem KZ {x:aj}{v:af}:∀(l:aa (aj×af)) (m:mZ),(l.map (·.1)).Nodup->(x,v)∈l->p6 (N3 l m) x=az v
 |p::l,m,hn,h=>by
  rw[bO,anM] at hn;show p6 (N3 l (vZ m p.1 p.2)) x=_;rcases bg.1 h with e|h
  .grind [KY,y8]
  exact KZ l _ hn.2 h
def nmP (W:aa aj)(E:aa mS)(i j:ah):aa (aj×af):=((bT i).map λk=>(W.getD k b0,-1-(k:af)))++(bT j).map λk=>((E.getD k mK).1,(k:af))
def G6 (W:aa aj)(E:aa mS)(i j:ah):mZ:=N3 (nmP W E i j) []
theorem ama (W:aa aj)(E:aa mS)(i:ah):G6 W E (i+1) 0=vZ (G6 W E i 0) (W.getD i b0) (-1-(i:af)):=by
 grind [G6,nmP,aoA,N4]
theorem amb (W:aa aj)(E:aa mS)(i j:ah):G6 W E i (j+1)=vZ (G6 W E i j) (E.getD j mK).1 (j:af):=by
 grind [G6,nmP,aoA,cx,N4]
theorem GC {α:Type}(l:aa α)(d:α){i:ah}(h:i<=l.length):(bT i).map (λk=>l.getD k d)=l.take i:=by
 apply anG
 .simp;omega
 grind
theorem GD {W:aa aj}{E:aa mS}{i j:ah}(hi:i<=W.length)(hj:j<=E.length):(nmP W E i j).map (·.1)=W.take i++(E.take j).map (·.1):=by
 unfold nmP;rw[cA,cz,cz,<-GC W b0 hi,<-GC E mK hj,cz];rfl
section
variable {W:aa aj}{E:aa mS}(hn:(W++E.map (·.1)).Nodup)
include hn
theorem Sz {i j:ah}(hi:i<=W.length)(hj:j<=E.length):((nmP W E i j).map (·.1)).Nodup:=by
 rw[GD hi hj]
 grind
theorem B9 {i j k:ah}(hi:i<=W.length)(hj:j<=E.length)(hk:k<i):p6 (G6 W E i j) (W.getD k b0)=az (-1-(k:af)):=
 KZ _ _ (Sz hn hi hj) (bU _ (bz.2 ⟨k,de.2 hk,rfl⟩))
theorem SA {i j k:ah}(hi:i<=W.length)(hj:j<=E.length)(hk:k<j):p6 (G6 W E i j) (E.getD k mK).1=az (k:af):=
 KZ _ _ (Sz hn hi hj) (bV _ (bz.2 ⟨k,de.2 hk,rfl⟩))
theorem ada {i:ah}(hi:i<W.length):p6 (G6 W E i 0) (W.getD i b0)=aA:=by
 refine(KY _ _ λh=>?_).trans rfl;have:=Sz hn (i:=i+1) (j:=0) hi (bQ _);rw[GD hi (bQ _),dJ,cC,bW,dV hi] at this;rw[GD (apC hi) (bQ _),dJ,cC,bW,bD,bN hi] at h
 grind
theorem adb {j:ah}(hj:j<E.length):p6 (G6 W E W.length j) (E.getD j mK).1=aA:=by
 refine(KY _ _ λh=>?_).trans rfl;have:=Sz hn (i:=W.length) (j:=j+1) (aW _) hj;rw[GD (aW _) hj,dV hj,cA,<-cx,bO,cC] at this;rw[GD (aW _) (apC hj),bD,bN hj] at h
 grind
end
def Ag (W:aa aj)(E:aa mS)(d:af):Prop:= -(aM W:af)<=d/\d<2*(aM E:af)
theorem SB (w:aj)(b:UInt8):(w++⟨#[b]⟩:aj).size=w.size+1:=by rw[m7];rfl
section
variable {W:aa aj}{E:aa mS}(hn:(W++E.map (·.1)).Nodup)(hw:∀j:ah,j<W.length->kN (W.getD j b0)=aC)(he:∀j:ah,j<E.length->kN (E.getD j mK).1=aC){d:af}(hd:Ag W E d)
include hn hw he hd
theorem SC:ov (G6 W E W.length E.length) (aE (d<0)) (sj W E d)/\uG (G6 W E W.length E.length) (sj W E d)=d:=by
 unfold Ag at hd;unfold sj
 by_cases h0:d<0
 .have hi:(-1-d).toNat<W.length:=by omega
  rw[aQ h0,aQ (by omega),cT h0];have ht:=Vc (hw _ hi);have hl:=B9 hn (aW W.length) (aW E.length) hi;have e: -1-(((-1-d).toNat:ah):af)=d:=by omega
  rw[e] at hl;refine⟨⟨?_,?_,?_,λ_=>rfl,⟨d,?_,?_⟩⟩,?_⟩
  .rw[ht];exact B8 (hw _ hi)
  .rw[ht];omega
  .rw[ht];exact aW _
  .rw[ht];exact hl
  .rw[ht];exact⟨λ_=>rfl,λ_=>h0⟩
  unfold uG;rw[ht,aQ rfl,hl];rfl
 have hi:(d/2).toNat<E.length:=by omega
 rw[aP h0,aP (by omega),cV h0];have hl:=SA hn (aW W.length) (aW E.length) hi;have e:(((d/2).toNat:ah):af)=d/2:=by omega
 rw[e] at hl;split
 .have ht:=Vd (he _ hi);have hs:((E.getD (d/2).toNat mK).1++(fB:aj)).size=(E.getD (d/2).toNat mK).1.size+1:=SB _ 43;refine⟨⟨?_,?_,?_,?_,⟨d/2,?_,?_⟩⟩,?_⟩
  .rw[ht];exact B8 (he _ hi)
  .rw[ht];omega
  .rw[ht];omega
  .rw[ht];omega
  .rw[ht];exact hl
  .rw[ht];omega
  unfold uG;rw[ht,aP (by omega),ZC,aP (by decide),hl];show 2*(d/2)=d;omega
 have ht:=Qu (he _ hi);have hs:((E.getD (d/2).toNat mK).1++(fy:aj)).size=(E.getD (d/2).toNat mK).1.size+1:=SB _ 45;refine⟨⟨?_,?_,?_,?_,⟨d/2,?_,?_⟩⟩,?_⟩
 .rw[ht];exact B8 (he _ hi)
 .rw[ht];omega
 .rw[ht];omega
 .rw[ht];omega
 .rw[ht];exact hl
 .rw[ht];omega
 unfold uG;rw[ht,aP (by omega),Ve,aQ rfl,hl];show 2*(d/2)+1=d;omega
end
def v7 {α:Type}(m:aa (af×α)):Prop:=IV (m.map (·.1))
theorem SD {α:Type}(p:af×α):∀(m:aa (af×α)),v7 m->(∀q∈m,q.1≠p.1)->v7 (sQ (k:=.int) p m)
 |[],_,_=>arB _ _
 |q::m,h,hn=>by
  have h':IV (q.1::m.map (·.1)):=h;show v7 (if Wj .int p.1 q.1 then p::q::m else q::sQ (k:=.int) p m);have e:Wj .int p.1 q.1=aE (p.1<q.1):=rfl
  by_cases c:p.1<q.1
  .rw[aQ (e.trans (cT c))];refine arH (λx hx=>?_) h';rcases bg.1 hx with rfl|hx
   .exact c
   exact Int.lt_trans c ((aoY.1 h').1 x hx)
  rw[aP (by rw[e];exact λz=>c (bq z))];refine arH (λx hx=>?_) (SD p m (aoY.1 h').2 λz hz=>hn z (bl _ hz));obtain⟨z,hz,rfl⟩:=bz.1 hx;rcases(EY (k:=.int)).1 hz with rfl|hz
  .have:=hn q aZ;show q.1<_;omega
  exact(aoY.1 h').1 _ (bz.2 ⟨z,hz,rfl⟩)
theorem ze {α:Type}{m:aa (af×α)}(h:v7 m)(x:af)(v:α):v7 (kZ m x v):=by
 refine SD _ _ ?_ λq hq=>?_
 .exact ar6 ((List.filter_sublist (l:=m)).map _) h
 have:=(bX.1 hq).2
 grind
theorem EG {α:Type}:v7 ([]:aa (af×α)):=ary
theorem GF {α:Type}{m:aa (af×α)}{x:af}:(jr m x).isSome=aC↔x∈m.map (·.1):=by
 constructor
 .intro h;obtain⟨v,hv⟩:=bS.1 h;exact bz.2 ⟨_,xB hv,rfl⟩
 intro h;obtain⟨p,hp,rfl⟩:=bz.1 h;cases e:jr m p.1 with
 |some v=>rfl
 |none=>exact ay hp (wB.1 e p.2)
theorem N5 {α:Type}{m:aa (af×α)}{V:aa af}(h:v7 m)(hV:IV V)(hm:∀x,(jr m x).isSome=aC↔x∈V):m.map (·.1)=V:=
 RL h hV λx=>by rw[<-GF];exact hm x
theorem qK.ade {α:Type}{f:α->aa (aa aj)}{d:α}(l:aa α)(I:ah->RS->Prop){s:RS}(h0:I 0 s)(h:∀i s,i<l.length->I i s->∃t,qK s (f (l.getD i d)) t/\I (i+1) t):∃t,qK s (l.flatMap f) t/\I l.length t:=by
 have key:∀k,k<=l.length->∃t,qK s ((l.take k).flatMap f) t/\I k t:=by
  intro k
  induction k with
  |zero=>intro _;exact⟨s,.nil _,h0⟩
  |succ k ih=>
   intro hk;have hg:l.getD k d=l[k]:=by rw[bD,bN (by omega)];rfl
   obtain⟨t,r,i⟩:=ih (by omega);obtain⟨u,r2,i2⟩:=h k t (by omega) i;refine⟨u,?_,i2⟩;rw[dV (show k<l.length by omega),anZ];refine r.app ?_;rw[hg] at r2;simpa using r2
 have:=key l.length (aW _);rwa[cg] at this
theorem K0 {α:Type}(l:aa α)(d:α){i:ah}(h:i<l.length):l.take (i+1)=l.take i++[l.getD i d]:=by
 rw[dV h,bD,bN h];rfl
def MV:RS:=⟨0,aD,0,[],[],[],[],[],[],[]⟩
theorem SE (K:af)(h:K=0\/K=1):qK MV (kL K) ⟨K,aC,0,[],[],[],[],[],[],[]⟩:=.one (.kind (s:=MV) K rfl rfl h)
section
variable {K:af}{W:aa aj}{E:aa mS}(hn:(W++E.map (·.1)).Nodup)(hw:∀j:ah,j<W.length->kN (W.getD j b0)=aC)(he:∀j:ah,j<E.length->kN (E.getD j mK).1=aC)
include hn hw in
theorem SF:qK ⟨K,aC,0,[],[],[],[],[],[],[]⟩ (W.flatMap fV) ⟨K,aC,0,W,[],G6 W E W.length 0,[],[],[],[]⟩:=by
 have:=qK.seg (f:=fV) (d:=b0) W (λi=>⟨K,aC,0,W.take i,[],G6 W E i 0,[],[],[],[]⟩) λi hi=>by
  have q:=sP.ZD (s:=⟨K,aC,0,W.take i,[],G6 W E i 0,[],[],[],[]⟩) (W.getD i b0) rfl (bM _) (hw i hi) (ada hn hi);have e:(W.take i).length=i:=by grind
  refine .one ?_;show sP _ [yl,W.getD i b0] _;rw[ama,K0 W b0 hi];rwa[e] at q
 rwa[cg,dJ] at this
include hn he in
theorem SG (hE:Qn W E)(hk:∀j:ah,j<E.length->(E.getD j mK).2.2.2=0\/((E.getD j mK).2.2.2=1\/(E.getD j mK).2.2.2=2)/\K=1):
  qK ⟨K,aC,0,W,[],G6 W E W.length 0,[],[],[],[]⟩ (E.flatMap (fE W)) ⟨K,aC,if E.length=0 then 0 else 1,W,E,G6 W E W.length E.length,[],[],[],[]⟩:=by
 have:=qK.seg (f:=fE W) (d:=mK) E (λj=>⟨K,aC,if j=0 then 0 else 1,W,E.take j,G6 W E W.length j,[],[],[],[]⟩) λj hj=>by
  obtain⟨⟨a0,a1⟩,⟨b0_,b1⟩,_⟩:=hE j hj;have ha:=B9 hn (aW W.length) (apC hj) (show(E.getD j mK).2.1.toNat<W.length by omega);have hb:=B9 hn (aW W.length) (apC hj) (show(E.getD j mK).2.2.1.toNat<W.length by omega);rw[eM a0] at ha;rw[eM b0_] at hb;have q:=sP.ac9 (s:=⟨K,aC,if j=0 then 0 else 1,W,E.take j,G6 W E W.length j,[],[],[],[]⟩) (E.getD j mK).2.2.2 (E.getD j mK).1 _ _ _ _ rfl (by show(if j=0 then(0:af) else 1)<=1;split<;>omega) (hk j hj) (he j hj) (adb hn hj) ha a0 hb b0_;have e:(E.take j).length=j:=by rw[bJ];omega
  refine .one ?_;show sP _ [kE (E.getD j mK).2.2.2,(E.getD j mK).1,W.getD (E.getD j mK).2.1.toNat b0,W.getD (E.getD j mK).2.2.1.toNat b0] _;rw[amb,K0 E mK hj,aP (Nat.succ_ne_zero j)];rwa[e] at q
 rwa[cg,dJ] at this
end
structure SH (W:aa aj)(E:aa mS)(t:af)(A B:aa af)(T:af->ai (aa af))(S:aa (aa af))(s:RS):Prop where
 b:s.b=aC
 k:s.k=0
 t:s.t<=t
 m:s.m=G6 W E W.length E.length
 hW:s.W=W
 hE:s.E=E
 hv:v7 s.hv
 he:v7 s.he
 mv:∀x,(jr s.hv x).isSome=aC↔x∈A
 me:∀x,(jr s.he x).isSome=aC↔x∈B
 tu:∀v,jr s.tu v=T v
 hS:s.S=S
theorem SI {α:Type}{p q:Prop}[ax p][ax q](h:p↔q)(a b:α):(if p then a else b)=if q then a else b:=by
 grind
theorem EH {m:aa (af×Unit)}{A:aa af}(h:∀x,(jr m x).isSome=aC↔x∈A)(y:af):∀x,(jr (kZ m y ()) x).isSome=aC↔x∈A++[y]:=Gk y h
section
variable {W:aa aj}{E:aa mS}{V L:aa af}{T S:aa (aa af)}(hn:(W++E.map (·.1)).Nodup)(hw:∀j:ah,j<W.length->kN (W.getD j b0)=aC)(he:∀j:ah,j<E.length->kN (E.getD j mK).1=aC)
 (hV:∀v∈V,0<=v/\v<(aM W:af)) (hL:∀e∈L,0<=e/\e<(aM E:af))
theorem La {l:aa af}{i:ah}(h:i<l.length):l.getD i 0∈l:=by
 grind
include hn hL in
theorem adf {s:RS}(h:SH W E 2 [] [] (λ_=>aA) [] s):∃t,qK s (L.flatMap (fH E)) t/\SH W E 2 (VT E L) L (λ_=>aA) [] t:=by
 have:=qK.ade (f:=fH E) (d:=0) L (λi s=>SH W E 2 (VT E (L.take i)) (L.take i) (λ_=>aA) [] s) h λi s hi h=>by
  obtain⟨e0,e1⟩:=hL _ (La hi);have hl:=SA hn (aW W.length) (aW E.length) (show(L.getD i 0).toNat<E.length by omega);rw[eM e0] at hl;have q:=sP.afj (s:=s) (E.getD (L.getD i 0).toNat mK).1 (L.getD i 0) h.b h.k h.t (by rw[h.m];exact hl) e0 (by rw[h.hE];exact e1);refine⟨_,.one q,⟨h.b,h.k,bM _,h.m,h.hW,h.hE,ze (ze h.hv _ _) _ _,ze h.he _ _,?_,?_,h.tu,h.hS⟩⟩
  .intro x;refine(EH (EH h.mv _) _ x).trans ?_;rw[K0 L 0 hi,h.hE];unfold VT;rw[anZ,cx];simp
  intro x;refine(EH h.me _ x).trans ?_;rw[K0 L 0 hi]
 rwa[cg] at this
include hn hV in
theorem adg {s:RS}{A B:aa af}{g:af->ak}(h:SH W E 2 A B (λ_=>aA) [] s):∃t,qK s (V.flatMap (fW W g)) t/\SH W E 2 (A++V.filter λv=>!g v) B (λ_=>aA) [] t:=by
 have:=qK.ade (f:=fW W g) (d:=0) V (λi s=>SH W E 2 (A++(V.take i).filter λv=>!g v) B (λ_=>aA) [] s) (by rw[dJ,aqk,bW];exact h) λi s hi h=>by
  obtain⟨e0,e1⟩:=hV _ (La hi);rw[K0 V 0 hi,List.filter_append,<-cx];unfold fW;cases hg:g (V.getD i 0) with
  |true=>
   rw[show([V.getD i 0].filter λv=>!g v)=[] by simp only[ao2,hg,aqk];rfl,bW];exact⟨s,.nil _,h⟩
  |false=>
   rw[show([V.getD i 0].filter λv=>!g v)=[V.getD i 0] by simp only[ao2,hg,aqk];rfl];have hl:=B9 hn (aW W.length) (aW E.length) (show(V.getD i 0).toNat<W.length by omega);rw[eM e0] at hl;have q:=sP.afk (s:=s) (W.getD (V.getD i 0).toNat b0) (V.getD i 0) h.b h.k h.t (by rw[h.m];exact hl) e0;exact⟨_,.one q,⟨h.b,h.k,bM _,h.m,h.hW,h.hE,ze h.hv _ _,h.he,EH h.mv _,h.me,h.tu,h.hS⟩⟩
 rwa[cg] at this
include hn hw he hV in
theorem Vf {s:RS}{A B:aa af}{g:af->ak}(hnd:V.Nodup)(hT:∀v∈V,∀d∈T.getD v.toNat [],0<=d/\d<2*(aM E:af))(h:SH W E 3 A B (λ_=>aA) [] s):
  ∃t,qK s (V.flatMap (fA W E T g)) t/\SH W E 3 A B (λv=>if v∈V/\g v=aC then az (ju (T.getD v.toNat [])) else aA) [] t:=by
 have:=qK.ade (f:=fA W E T g) (d:=0) V (λi s=>SH W E 3 A B (λv=>if v∈V.take i/\g v=aC then az (ju (T.getD v.toNat [])) else aA) [] s)
  (by
   have e:(λv:af=>if v∈V.take 0/\g v=aC then az (ju (T.getD v.toNat [])) else aA)=λ_=>aA:=funext λv=>aP λz=>(by cases z.1);rw[e];exact h) λi s hi h=>by
  obtain⟨e0,e1⟩:=hV _ (La hi);unfold fA;cases hg:g (V.getD i 0) with
  |true=>
   have hl:=B9 hn (aW W.length) (aW E.length) (show(V.getD i 0).toNat<W.length by omega);rw[eM e0] at hl;have hk:∀d∈ju (T.getD (V.getD i 0).toNat []),0<=d/\Ag W E d:=λd hd=>by
    have:=hT _ (La hi) d (tf.1 hd);exact⟨this.1,by unfold Ag;omega⟩
   have hni:V.getD i 0∉V.take i:=by
    have:(V.take (i+1)).Nodup:=hnd.sublist (arz _ _);rw[K0 V 0 hi] at this;exact(AZ.1 this).2
   have q:=sP.ZE (s:=s) (W.getD (V.getD i 0).toNat b0) (V.getD i 0) ((ju (T.getD (V.getD i 0).toNat [])).map (sj W E)) h.b h.k h.t (by rw[h.m];exact hl) e0 (by rw[h.tu,aP λz=>hni z.1])
    (λx hx=>by
     obtain⟨d,hd,rfl⟩:=bz.1 hx;have:=(SC hn hw he (hk d hd).2).1;rw[cV (by have:=(hk d hd).1;omega)] at this;rw[h.m];exact this)
   have em:((ju (T.getD (V.getD i 0).toNat [])).map (sj W E)).map (uG s.m)=ju (T.getD (V.getD i 0).toNat []):=by
    rw[cz];refine(dm λd hd=>?_).trans (aot _);show uG s.m (sj W E d)=d;rw[h.m];exact(SC hn hw he (hk d hd).2).2
   rw[em] at q;refine⟨_,.one q,⟨h.b,h.k,bM _,h.m,h.hW,h.hE,h.hv,h.he,h.mv,h.me,λv=>?_,h.hS⟩⟩;show jr (kZ s.tu _ _) v=_;rw[lF,h.tu,K0 V 0 hi]
   by_cases e:V.getD i 0=v
   .subst e;rw[aQ rfl,aQ ⟨bV _ (aU.2 rfl),hg⟩]
   rw[aP e];have:v∈V.take i++[V.getD i 0]↔v∈V.take i:=by rw[bE,aU];exact⟨λz=>z.elim id λz=>ay z.symm e,.inl⟩
   exact SI ⟨λz=>⟨this.2 z.1,z.2⟩,λz=>⟨this.1 z.1,z.2⟩⟩ _ _
  |false=>
   refine⟨s,.nil _,⟨h.b,h.k,h.t,h.m,h.hW,h.hE,h.hv,h.he,h.mv,h.me,λv=>?_,h.hS⟩⟩;rw[h.tu,K0 V 0 hi];have:(v∈V.take i++[V.getD i 0]/\g v=aC)↔(v∈V.take i/\g v=aC):=by
    rw[bE,aU];exact⟨λz=>⟨z.1.elim id λy=>(by rw[y,hg] at z;cases z.2),z.2⟩,λz=>⟨.inl z.1,z.2⟩⟩
   exact SI ⟨λz=>this.2 z,λz=>this.1 z⟩ _ _
 rwa[cg] at this
include hn hw he in
theorem Vg {s:RS}{A B:aa af}{g:af->ai (aa af)}(hS:∀l∈S,2<=l.length/\∀x∈l,Ag W E x)(h:SH W E 4 A B g [] s):∃t,qK s (S.flatMap (fR W E)) t/\SH W E 4 A B g S t:=by
 have:=qK.ade (f:=fR W E) (d:=[]) S (λi s=>SH W E 4 A B g (S.take i) s) h λi s hi h=>by
  have hm:S.getD i []∈S:=by rw[bD,bN hi];exact dY hi
  obtain⟨h2,hk⟩:=hS _ hm;have q:=sP.region (s:=s) ((S.getD i []).map (sj W E)) h.b h.k h.t (by rw[bH];exact h2)
   (λx hx=>by
    obtain⟨d,hd,rfl⟩:=bz.1 hx;have:=(SC hn hw he (hk d hd)).1;rw[h.m];exact⟨this.pos,this.le,this.ge,λ_=>rfl,this.some⟩)
  have em:((S.getD i []).map (sj W E)).map (uG s.m)=S.getD i []:=by
   rw[cz];refine(dm λd hd=>?_).trans (aot _);show uG s.m (sj W E d)=d;rw[h.m];exact(SC hn hw he (hk d hd)).2
  rw[em] at q;exact⟨_,.one q,⟨h.b,h.k,bM _,h.m,h.hW,h.hE,h.hv,h.he,h.mv,h.me,h.tu,by show s.S++_=_;rw[h.hS,K0 S [] hi]⟩⟩
 rwa[cg] at this
end
section
variable {K:af}{W:aa aj}{E:aa mS}{V L:aa af}{T S:aa (aa af)}
theorem ZF (h:nS K W E V L T S=0):(W++E.map (·.1)).Nodup:=by
 unfold nS at h;split at h
 .cases h
 split at h
 .cases h
 grind
theorem Lb (h:nS K W E V L T S=0)(j:ah)(hj:j<W.length):kN (W.getD j b0)=aC:=by
 have:=KR h j (by simp[yz];omega)
 grind
theorem Lc (h:nS K W E V L T S=0)(j:ah)(hj:j<E.length):kN (E.getD j mK).1=aC:=by
 have:=KR h (W.length+j) (by simp[yz];omega)
 grind
theorem SJ (h:nS K W E V L T S=0)(hk:K=0)(j:ah)(hj:j<E.length):(E.getD j mK).2.2.2=0:=by
 obtain⟨hc,_⟩:=Gt h hk;unfold kX at hc;rw[aQ hk] at hc;split at hc
 .rename_i q;exact q j (by omega)
 grind
theorem ZG (h:nS K W E V L T S=0)(j:ah)(hj:j<E.length):(E.getD j mK).2.2.2=0\/((E.getD j mK).2.2.2=1\/(E.getD j mK).2.2.2=2)/\K=1:=by
 rcases De h with hk|hk
 .grind [SJ]
 have:=(Df h j hj).2.2;omega
theorem SK (h:nS K W E V L T S=0)(hk:K=0){v:af}(hv:v∈VT E L):v∈V:=by
 obtain⟨hp,_,_⟩:=uj h hk;obtain⟨_,hV,hL,ho⟩:=kA hp;obtain⟨e,he,hx⟩:=cQ.1 hv;have e1:=(jC.1 hL).2 e he;rw[sr] at e1;have hg:(DQ E).getD e.toNat (0,0)=((E.getD e.toNat mK).2.1,(E.getD e.toNat mK).2.2.1):=by
  rw[getD_eq (by rw[sr];omega),getD_eq (by omega)];unfold DQ;rw[List.getElem_map]
 obtain⟨j,hj,rfl⟩:=jJ (z:=(0:af)).1 he;obtain⟨o1,o2⟩:=ho j hj;rw[hg,M7 hV] at o1 o2;rcases bg.1 hx with rfl|hx
 .exact bq o1
 rw[aU.1 hx];exact bq o2
theorem ZH (h:nS K W E V L T S=0)(hk:K=0):∀v∈V,∀d∈T.getD v.toNat [],0<=d/\d<2*(aM E:af):=λv hv d hd=>by
 obtain⟨hp,_,hT⟩:=uj h hk;obtain⟨_,hV,hL,_⟩:=kA hp;have h1:=(jC.1 hV).2 v hv;have hl:=hT.len;have:=(jC.1 hL).2 _ ((hT.mem _ (by omega) d).1 hd).1;rw[sr] at this;omega
theorem SL (h:nS K W E V L T S=0)(hk:K=0):∀l∈S,2<=l.length/\∀x∈l,Ag W E x:=λl hl=>by
 obtain⟨_,FH,_⟩:=uj h hk;obtain⟨hp,_,hw⟩:=si (vh (rq FH).1);obtain⟨_,hV,hL,_⟩:=kA hp;refine⟨?_,λx hx=>?_⟩
 .obtain⟨_,z,hz,_⟩:=rq FH;obtain⟨j,hj,rfl⟩:=jJ (z:=([]:aa af)).1 hl;exact BZ hz j hj
 obtain⟨w,hm,rfl⟩:=Gp FH (aoZ.2 ⟨l,hl,hx⟩);unfold Ag;rcases hw.key w hm with⟨_,q⟩|⟨_,q⟩
 .have:=(jC.1 hV).2 _ q;omega
 have:=(jC.1 hL).2 _ q;rw[sr] at this;omega
theorem Vh (h:nS K W E V L T S=0)(hk:K=0):∃s,qK MV (Db K W E V L T S (hE E L)) s/\s.b=aC/\s.k=0/\s.W=W/\s.E=E/\s.S=S/\s.hv.map (·.1)=V/\s.he.map (·.1)=L/\
  ∀v,jr s.tu v=if v∈V/\hE E L v=aC then az (ju (T.getD v.toNat [])) else aA:=by
 have hn:=ZF h;have hw:=Lb h;have he:=Lc h;obtain⟨hp,_,hT⟩:=uj h hk;obtain⟨_,hV,hL,_⟩:=kA hp;obtain⟨o1,o2⟩:=KT h hk;have oV:∀v∈V,0<=v/\v<(aM W:af):=λv hv=>⟨(o1 v hv).1,(o1 v hv).2.1⟩;obtain⟨s1,r1,i1⟩:=adf hn o2 (s:=⟨K,aC,if E.length=0 then 0 else 1,W,E,G6 W E W.length E.length,[],[],[],[]⟩)
  ⟨rfl,hk,by show(if E.length=0 then(0:af) else 1)<=2;split<;>omega,rfl,rfl,rfl,EG,EG,λx=>⟨λz=>(by cases z),λz=>(by cases z)⟩,λx=>⟨λz=>(by cases z),λz=>(by cases z)⟩,λ_=>rfl,rfl⟩
 obtain⟨s2,r2,i2⟩:=adg hn oV (g:=hE E L) i1;obtain⟨s3,r3,i3⟩:=Vf hn hw he oV (T:=T) (g:=hE E L) (mw (jC.1 hV).1) (ZH h hk) (⟨i2.b,i2.k,aql i2.t (by decide),i2.m,i2.hW,i2.hE,i2.hv,i2.he,i2.mv,i2.me,i2.tu,i2.hS⟩:SH W E 3 _ _ _ _ s2);obtain⟨s4,r4,i4⟩:=Vg hn hw he (SL h hk) (⟨i3.b,i3.k,aql i3.t (by decide),i3.m,i3.hW,i3.hE,i3.hv,i3.he,i3.mv,i3.me,i3.tu,i3.hS⟩:SH W E 4 _ _ _ _ s3);refine⟨s4,?_,i4.b,i4.k,i4.hW,i4.hE,i4.hS,N5 i4.hv (jC.1 hV).1 λx=>?_,N5 i4.he (jC.1 hL).1 i4.me,i4.tu⟩
 .rw[UZ hk];unfold EE;refine(((SE K (.inl hk)).app (SF hn hw)).app (SG hn he (Df h) (ZG h))).app ?_;exact((r1.app r2).app r3).app r4
 rw[i4.mv,bE,bX];constructor
 .rintro(q|⟨q,_⟩)
  .exact SK h hk q
  exact q
 intro q
 by_cases z:x∈VT E L
 .exact .inl z
 exact .inr ⟨q,by unfold hE;rw[cV z];rfl⟩
theorem Vi (h:nS K W E V L T S=0)(hk:K=1):∃s,qK MV (Db K W E V L T S (hE E L)) s/\s.b=aC/\s.k=1/\s.W=W/\s.E=E:=by
 have hn:=ZF h;refine⟨⟨K,aC,if E.length=0 then 0 else 1,W,E,G6 W E W.length E.length,[],[],[],[]⟩,?_,rfl,hk,rfl,rfl⟩;rw[U0 (by omega)];exact((SE K (.inr hk)).app (SF hn (Lb h))).app (SG hn (Lc h) (Df h) (ZG h))
end
abbrev v8:Type:=aa (af×aj)
abbrev lT (ws:v8)(i:ah):aj:=(ws.getD i (0,⟨#[]⟩)).2
structure LnB (wa:af)(ws:v8):Prop where
 a0:0<=wa
 a1:wa<=1000000
 len:(aM ws:af)<=1000000
 pos:∀i:ah,i<ws.length->0<=(ws.getD i (0,⟨#[]⟩)).1/\(ws.getD i (0,⟨#[]⟩)).1<=1000000/\(ws.getD i (0,⟨#[]⟩)).2.size<=1000000
theorem LnB.wd {wa:af}{ws:v8}(h:LnB wa ws){n:af}(h0:0<=n)(h1:n<(aM ws:af)):
  (0<=n/\n<(aM ws:af)/\n<=1000000)/\-9223372036854775808<=wa+(ws.getD n.toNat (0,⟨#[]⟩)).1/\wa+(ws.getD n.toNat (0,⟨#[]⟩)).1<=9223372036854775807:=by
 have:=h.pos n.toNat (by omega);have:=h.a0;have:=h.a1;have:=h.len
 grind
theorem LnB.sz {wa:af}{ws:v8}(h:LnB wa ws){n:ah}(h1:n<ws.length):(ws.getD n (0,⟨#[]⟩)).2.size<=1000000:=(h.pos n h1).2.2
abbrev zY (m:mZ)(x:aj):af:=(jo (k:=.str) m x).getD 0
structure Ah (m:mZ)(nW nE:ah):Prop where
 len:m.length<=nW+nE
 get:∀(x:aj) (k:af),jo (k:=.str) m x=az k->-(nW:af)<=k/\k<(nE:af)
theorem Ah.gt {m:mZ}{nW nE:ah}(h:Ah m nW nE){x:aj}(hx:(jo (k:=.str) m x).isSome=aC): -(nW:af)<=zY m x/\zY m x<(nE:af):=by
 obtain⟨k,hk⟩:=bS.1 hx;have:=h.get x k hk
 grind
theorem Ah.nil:Ah [] 0 0:=⟨aW _,λ_ _ h=>by cases h⟩
theorem Ah.ZD {m:mZ}{nW nE:ah}(h:Ah m nW nE)(n:aj):Ah (vZ m n (-1-(nW:af))) (nW+1) nE:=by
 refine⟨?_,λx k hk=>?_⟩
 .have:=Gg m n (-1-(nW:af));have:=h.len;omega
 have hk:p6 (vZ m n (-1-(nW:af))) x=az k:=hk;rw[y8] at hk;split at hk
 .cases hk;omega
 have:=h.get x k hk;omega
theorem Ah.ac9 {m:mZ}{nW nE:ah}(h:Ah m nW nE)(n:aj):Ah (vZ m n (nE:af)) nW (nE+1):=by
 refine⟨?_,λx k hk=>?_⟩
 .have:=Gg m n (nE:af);have:=h.len;omega
 have hk:p6 (vZ m n (nE:af)) x=az k:=hk;rw[y8] at hk;split at hk
 .cases hk;omega
 have:=h.get x k hk;omega
def kV (k:af)(w:aj):af×ak:=
 if w=yl then(0,aC) else if w=R8 then(1,aC) else if w=Zd then(1,aE (k=1)) else if w=Ze then(1,aE (k=1))
 else if w=uw then(2,!decide (k=1)) else if w=wAr then(3,!decide (k=1)) else if w=wRg then(4,!decide (k=1)) else(0,aD)
abbrev Vj (w:aj):af:=if w=Zd then 1 else if w=Ze then 2 else 0
def Vk (s:RS)(ws:v8):Prop:=ws.length=2/\kN (lT ws 1)=aC/\(jo (k:=.str) s.m (lT ws 1)).isSome=aD
def Qv (s:RS)(ws:v8):Prop:=ws.length=4/\kN (lT ws 1)=aC/\(jo (k:=.str) s.m (lT ws 1)).isSome=aD/\((jo (k:=.str) s.m (lT ws 2)).isSome=aC/\zY s.m (lT ws 2)<0)/\(jo (k:=.str) s.m (lT ws 3)).isSome=aC/\zY s.m (lT ws 3)<0
def Qw (s:RS)(ws:v8):Prop:=ws.length=2/\(jo (k:=.str) s.m (lT ws 1)).isSome=aC
def ZI (s:RS)(ws:v8):Prop:=2<=ws.length/\((jo (k:=.str) s.m (lT ws 1)).isSome=aC/\zY s.m (lT ws 1)<0)/\(jr s.tu (-1-zY s.m (lT ws 1))).isSome=aD/\∀i,2<=i->i<ws.length->ov s.m aD (lT ws i)
def ZJ (s:RS)(ws:v8):Prop:=3<=ws.length/\∀i,1<=i->i<ws.length->ov s.m aC (lT ws i)
def nxK (s:RS)(ws:v8):RS:={s with k:=if lT ws 0=uv then 1 else s.k,b:=aC}
def nxV (s:RS)(ws:v8):RS:={s with t:=0,W:=s.W++[lT ws 1],m:=nG (k:=.str) s.m (lT ws 1) (-1-(s.W.length:af))}
def nxE (s:RS)(ws:v8):RS:={s with t:=1,E:=s.E++[(lT ws 1,(-1-zY s.m (lT ws 2),(-1-zY s.m (lT ws 3),Vj (lT ws 0))))],m:=nG (k:=.str) s.m (lT ws 1) (s.E.length:af)}
def HF (ha:aa (af×Unit))(ee:aa mS)(k:af):aa (af×Unit):=if k<0 then kZ ha (-1-k) () else kZ (kZ ha (ee.getD k.toNat mK).2.1 ()) (ee.getD k.toNat mK).2.2.1 ()
def HG (hb:aa (af×Unit))(k:af):aa (af×Unit):=if k<0 then hb else kZ hb k ()
abbrev hlV (s:RS)(k:af):aa (af×Unit):=HF s.hv s.E k
abbrev hlE (s:RS)(k:af):aa (af×Unit):=HG s.he k
def nxH (s:RS)(ws:v8):RS:={s with t:=2,hv:=hlV s (zY s.m (lT ws 1)),he:=hlE s (zY s.m (lT ws 1))}
def nxA (s:RS)(ws:v8):RS:={s with t:=3,tu:=kZ s.tu (-1-zY s.m (lT ws 1)) ((ws.drop 2).map λp=>uG s.m p.2)}
def nxR (s:RS)(ws:v8):RS:={s with t:=4,S:=s.S++[(ws.drop 1).map λp=>uG s.m p.2]}
def VW (g:af)(s:RS)(ws:v8):Prop:=if g=0 then Vk s ws else if g=1 then Qv s ws else if g=2 then Qw s ws else if g=3 then ZI s ws else ZJ s ws
def nxG (g:af)(s:RS)(ws:v8):RS:=if g=0 then nxV s ws else if g=1 then nxE s ws else if g=2 then nxH s ws else if g=3 then nxA s ws else nxR s ws
def Ld (s:RS)(ws:v8):Prop:=0<ws.length/\if s.b=aD then(lT ws 0=wZ\/lT ws 0=uv)/\ws.length=1
 else(kV s.k (lT ws 0)).2=aC/\s.t<=(kV s.k (lT ws 0)).1/\VW (kV s.k (lT ws 0)).1 s ws
def mU (s:RS)(ws:v8):RS:=if s.b=aD then nxK s ws else nxG (kV s.k (lT ws 0)).1 s ws
theorem agZ {ws:v8}{l:aa aj}(h:ws.map (·.2)=l)(i:ah):lT ws i=l.getD i ⟨#[]⟩:=by
 grind
theorem aj3 {i:af}(h:i=0\/i=1\/i=2):Vj (kE i)=i:=by
 rcases h with rfl|rfl|rfl<;>rfl
theorem DV {m:mZ}{ws:v8}{l:aa aj}{a:aj}{n:ah}(h:(ws.drop n).map (·.2)=l):(ws.drop n).map (λp=>uG m p.2)=l.map (uG m):=by
 rw[<-h,cz];rfl
theorem Vm {s t:RS}{ws:v8}{l:aa aj}(hl:ws.map (·.2)=l)(h:sP s l t):Ld s ws/\mU s ws=t:=by
 have hlen:ws.length=l.length:=by rw[<-hl,bH]
 have hw:=agZ hl;cases h with
 |kind K hb h0 hK=>
  rcases hK with rfl|rfl
  .have e0:lT ws 0=wZ:=hw 0;refine⟨⟨by rw[hlen];exact arI,by rw[aQ hb];exact⟨.inl e0,hlen⟩⟩,?_⟩;unfold mU nxK;rw[aQ hb,e0,aP (by decide),h0]
  have e0:lT ws 0=uv:=hw 0;refine⟨⟨by rw[hlen];exact arI,by rw[aQ hb];exact⟨.inr e0,hlen⟩⟩,?_⟩;unfold mU nxK;rw[aQ hb,e0,aQ rfl]
 |ZD n hb ht hn hl'=>
  have e0:lT ws 0=yl:=hw 0;have e1:lT ws 1=n:=hw 1;have es:kV s.k yl=(0,aC):=rfl;refine⟨⟨by rw[hlen];exact aqm,?_⟩,?_⟩
  .rw[aP (by rw[hb];decide),e0,es];refine⟨rfl,ht,?_⟩;unfold VW Vk;rw[aQ rfl,e1];exact⟨hlen,hn,by rw[show jo (k:=.str) s.m n=aA from hl'];rfl⟩
  unfold mU nxG;rw[aP (by rw[hb];decide),e0,es,aQ rfl];unfold nxV;rw[e1];rfl
 |ac9 i n a b A B hb ht hi hn hl' ha h0 rN h0'=>
  have e0:lT ws 0=kE i:=hw 0;have e1:lT ws 1=n:=hw 1;have e2:lT ws 2=a:=hw 2;have e3:lT ws 3=b:=hw 3;have es:kV s.k (kE i)=(1,aC):=by
   rcases hi with rfl|⟨rfl|rfl,hk⟩
   .rfl
   .show(1,aE (s.k=1))=_;rw[hk];rfl
   show(1,aE (s.k=1))=_;rw[hk];rfl
  have ea:jo (k:=.str) s.m a=az (-1-A):=ha;have eb:jo (k:=.str) s.m b=az (-1-B):=rN;have ga:zY s.m a= -1-A:=by show(jo (k:=.str) s.m a).getD 0=_;rw[ea];rfl
  have gb:zY s.m b= -1-B:=by show(jo (k:=.str) s.m b).getD 0=_;rw[eb];rfl
  refine⟨⟨by rw[hlen];exact ao3 _,?_⟩,?_⟩
  .rw[aP (by rw[hb];decide),e0,es];refine⟨rfl,ht,?_⟩;unfold VW Qv;rw[aP (by decide),aQ rfl,e1,e2,e3,ga,gb,ea,eb];exact⟨hlen,hn,by rw[show jo (k:=.str) s.m n=aA from hl'];rfl,⟨rfl,by omega⟩,rfl,by omega⟩
  unfold mU nxG;rw[aP (by rw[hb];decide),e0,es,aP (by decide),aQ rfl];unfold nxE;rw[e0,e1,e2,e3,ga,gb,aj3 (hi.imp id λq=>q.1),show -1-(-1-A)=A by omega,show -1-(-1-B)=B by omega];rfl
 |afj n j hb hk ht hl' h0 h1=>
  have e0:lT ws 0=uw:=hw 0;have e1:lT ws 1=n:=hw 1;have es:kV s.k uw=(2,aC):=by show(2,!decide (s.k=1))=_;rw[hk];rfl
  have el:jo (k:=.str) s.m n=az j:=hl';have gl:zY s.m n=j:=by show(jo (k:=.str) s.m n).getD 0=_;rw[el];rfl
  refine⟨⟨by rw[hlen];exact aqm,?_⟩,?_⟩
  .rw[aP (by rw[hb];decide),e0,es];refine⟨rfl,ht,?_⟩;unfold VW Qw;rw[aP (by decide),aP (by decide),aQ rfl,e1,el];exact⟨hlen,rfl⟩
  unfold mU nxG;rw[aP (by rw[hb];decide),e0,es,aP (by decide),aP (by decide),aQ rfl];unfold nxH;rw[e1,gl,show hlV s j=kZ (kZ s.hv (s.E.getD j.toNat mK).2.1 ()) (s.E.getD j.toNat mK).2.2.1 () from aP (by omega),show hlE s j=kZ s.he j () from aP (by omega)]
 |afk n v hb hk ht hl' h0=>
  have e0:lT ws 0=uw:=hw 0;have e1:lT ws 1=n:=hw 1;have es:kV s.k uw=(2,aC):=by show(2,!decide (s.k=1))=_;rw[hk];rfl
  have el:jo (k:=.str) s.m n=az (-1-v):=hl';have gl:zY s.m n= -1-v:=by show(jo (k:=.str) s.m n).getD 0=_;rw[el];rfl
  refine⟨⟨by rw[hlen];exact aqm,?_⟩,?_⟩
  .rw[aP (by rw[hb];decide),e0,es];refine⟨rfl,ht,?_⟩;unfold VW Qw;rw[aP (by decide),aP (by decide),aQ rfl,e1,el];exact⟨hlen,rfl⟩
  unfold mU nxG;rw[aP (by rw[hb];decide),e0,es,aP (by decide),aP (by decide),aQ rfl];unfold nxH;rw[e1,gl,show hlV s (-1-v)=kZ s.hv (-1-(-1-v)) () from aQ (by omega),show hlE s (-1-v)=s.he from aQ (by omega),show -1-(-1-v)=v by omega]
 |ZE n v l hb hk ht hl' h0 hv hx=>
  have e0:lT ws 0=wAr:=hw 0;have e1:lT ws 1=n:=hw 1;have es:kV s.k wAr=(3,aC):=by show(3,!decide (s.k=1))=_;rw[hk];rfl
  have el:jo (k:=.str) s.m n=az (-1-v):=hl';have gl:zY s.m n= -1-v:=by show(jo (k:=.str) s.m n).getD 0=_;rw[el];rfl
  have ed:(ws.drop 2).map (·.2)=l:=by rw[aov,hl];rfl
  refine⟨⟨by rw[hlen];exact ao3 _,?_⟩,?_⟩
  .rw[aP (by rw[hb];decide),e0,es];refine⟨rfl,ht,?_⟩;unfold VW ZI;rw[aP (by decide),aP (by decide),aP (by decide),aQ rfl,e1,gl,el,show -1-(-1-v)=v by omega,hv];refine⟨by rw[hlen];exact Nat.le_add_left 2 _,⟨rfl,by omega⟩,rfl,λi h2 hi=>?_⟩;rw[hw i];obtain⟨j,rfl⟩:∃j,i=j+2:=⟨i-2,by omega⟩;have hj:j<l.length:=by rw[hlen] at hi;simpa using hi
   show ov s.m aD (l.getD j _);rw[bD,bN hj];exact hx _ (dY hj)
  unfold mU nxG;rw[aP (by rw[hb];decide),e0,es,aP (by decide),aP (by decide),aP (by decide),aQ rfl];unfold nxA;rw[e1,gl,show -1-(-1-v)=v by omega,DV (a:=n) ed]
 |region l hb hk ht h2 hx=>
  have e0:lT ws 0=wRg:=hw 0;have es:kV s.k wRg=(4,aC):=by show(4,!decide (s.k=1))=_;rw[hk];rfl
  have ed:(ws.drop 1).map (·.2)=l:=by rw[aov,hl];rfl
  refine⟨⟨by rw[hlen];exact ao3 _,?_⟩,?_⟩
  .rw[aP (by rw[hb];decide),e0,es];refine⟨rfl,ht,?_⟩;unfold VW ZJ;rw[aP (by decide),aP (by decide),aP (by decide),aP (by decide)];refine⟨by rw[hlen,b7];omega,λi h1 hi=>?_⟩;rw[hw i];obtain⟨j,rfl⟩:∃j,i=j+1:=⟨i-1,by omega⟩;have hj:j<l.length:=by rw[hlen] at hi;simpa using hi
   show ov s.m aC (l.getD j _);rw[bD,bN hj];exact hx _ (dY hj)
  unfold mU nxG;rw[aP (by rw[hb];decide),e0,es,aP (by decide),aP (by decide),aP (by decide),aP (by decide)];unfold nxR;rw[DV (a:=wRg) ed]
def OY (m:mZ)(ws:v8)(k:ah)(n:af):aa af:=((ws.take n.toNat).drop k).map λp=>uG m p.2
theorem SM (m:mZ)(ws:v8)(k:ah)(n:af):(OY m ws k n).length<=ws.length:=by unfold OY;rw[bH,List.length_drop,bJ];omega
theorem SN (m:mZ)(ws:v8)(k:ah):OY m ws k (aM ws:af)=(ws.drop k).map λp=>uG m p.2:=by unfold OY;rw[dw,cg]
theorem N6 {m:mZ}{ws:v8}{k:ah}{n:af}(h0:(k:af)<=n)(h1:n<(aM ws:af)):OY m ws k n++[uG m (ws.getD n.toNat (0,⟨#[]⟩)).2]=OY m ws k (n+1):=by
 have e:(n+1).toNat=n.toNat+1:=by omega
 grind [OY,dV,bJ,bN]
theorem adh {m:mZ}{ws:v8}(h:3<=ws.length):OY m ws 1 3=[uG m (ws.getD 1 (0,⟨#[]⟩)).2,uG m (ws.getD 2 (0,⟨#[]⟩)).2]:=by
 match ws,h with
 |a::b::c::l,_=>rfl
theorem SO {k:Kc}{α:Type}(p:ko k×α):∀l:aa (ko k×α),rP (sQ p l) p.1=rP l p.1
 |[]=>by
  show List.filter _ [p]=[]
  grind
 |q::l=>by
  have ih:=SO p l
  grind [rP,Wj,sQ,List.filter_cons_of_neg]
theorem ZK {k:Kc}{α:Type}(m:aa (ko k×α))(x:ko k)(a b:α):nG (nG m x a) x b=nG m x b:=by
 show sQ (x,b) (rP (sQ (x,a) (rP m x)) x)=sQ (x,b) (rP m x)
 grind [rP,sQ,SO,List.filter_filter,List.filter_congr]
theorem ag0 {α:Type}(m:aa (af×α))(x:af)(a b:α):kZ (kZ m x a) x b=kZ m x b:=ZK (k:=.int) m x a b
theorem ZL {α:Type}{m:aa (af×aa α)}{x:af}{l:aa α}:(jr (kZ m x l) x).getD []=l:=by grind [lF]
theorem adi {m:mZ}{tu:aa (af×aa af)}{ws:v8}{v n:af}(h0:(2:af)<=n)(h1:n<(aM ws:af)):kZ (kZ tu v (OY m ws 2 n)) v ((jr (kZ tu v (OY m ws 2 n)) v).getD []++[uG m (ws.getD n.toNat (0,⟨#[]⟩)).2])=kZ tu v (OY m ws 2 (n+1)):=by
 rw[ag0,ZL,N6 h0 h1]
theorem aj4 {m:mZ}{x:aj}(h:x.size=(trimB x).size):uG m x=zY m (trimB x):=aQ h
theorem aj5 {m:mZ}{x:aj}(h:x.size≠(trimB x).size)(q:HE x=aC):uG m x=2*zY m (trimB x)+1:=(aP h).trans (aQ q)
theorem aj6 {m:mZ}{x:aj}(h:x.size≠(trimB x).size)(q:HE x=aD):uG m x=2*zY m (trimB x):=(aP h).trans (aP (by rw[q];decide))
theorem ZM {m:mZ}{vx:ak}{x:aj}(h:ov m vx x):(((¬(trimB x=(⟨#[]⟩:aj)))/\(¬((1:af)<(x.size:af)-((trimB x).size:af))))/\((¬((x.size:af)-((trimB x).size:af)=0))\/(vx=aC)))/\
  (((jo (k:=.str) m (trimB x)).isSome=aC)/\(((aE ((jo (k:=.str) m (trimB x)).getD 0<0))==(aE ((x.size:af)-((trimB x).size:af)=0)))=aC)):=by
 have⟨h1,h2,h3,h4,k,h5,h6⟩:=h;have h5:jo (k:=.str) m (trimB x)=az k:=h5;refine⟨⟨⟨λe=>h1 (by rw[e];rfl),by omega⟩,?_⟩,by rw[h5];rfl,?_⟩
 .grind
 grind
def DW (ee:aa mS):Prop:=∀j:ah,j<ee.length->0<=(ee.getD j mK).2.1/\(ee.getD j mK).2.1<=1000000/\0<=(ee.getD j mK).2.2.1/\(ee.getD j mK).2.2.1<=1000000
theorem DW.snoc {ee:aa mS}(h:DW ee){n:aj}{a b i:af}(ha:0<=a/\a<=1000000)(hb:0<=b/\b<=1000000):DW (ee++[(n,(a,(b,i)))]):=λj hj=>by
 by_cases q:j<ee.length
 .rw[bD,eY q,<-bD];exact h j q
 grind
structure Le (s:RS)(n:ah):Prop where
 nm:Ah s.m s.W.length s.E.length
 sz:s.W.length+s.E.length<=n
 hv:s.hv.length<=2*n
 he:s.he.length<=n
 tu:s.tu.length<=n
 S:s.S.length<=n
 ed:DW s.E
theorem vp {α:Type}(m:aa (af×α))(x:af)(v:α):(kZ m x v).length<=m.length+1:=uQ (k:=.int) m x v
theorem Le.next {s:RS}{ws:v8}{n:ah}(h:Le s n)(hn:n<=1000000)(hk:Ld s ws):Le (mU s ws) (n+1):=by
 have hm:=h.nm;have h1:=h.sz;have h2:=h.hv;have h3:=h.he;have h4:=h.tu;have h5:=h.S;have h6:=h.ed;have hk:=hk.2;unfold mU
 by_cases hb:s.b=aD
 .rw[aQ hb];exact⟨hm,by show s.W.length+s.E.length<=_;omega,by show s.hv.length<=_;omega,by show s.he.length<=_;omega,by show s.tu.length<=_;omega,by show s.S.length<=_;omega,h6⟩
 rw[aP hb] at hk ⊢;have⟨_,_,hk⟩:=hk
 by_cases g1:(kV s.k (lT ws 0)).1=1
 .unfold VW Qv at hk;unfold nxG;rw[g1,aP (by decide),aQ rfl] at hk ⊢;have⟨_,_,_,⟨k1,k2⟩,k3,k4⟩:=hk;have q1:=hm.gt k1;have q2:=hm.gt k3;refine⟨?_,?_,by show s.hv.length<=_;omega,by show s.he.length<=_;omega,by show s.tu.length<=_;omega,by show s.S.length<=_;omega,h6.snoc ⟨by omega,by omega⟩ ⟨by omega,by omega⟩⟩
  .show Ah _ _ (s.E++[_]).length;rw[bA];exact hm.ac9 _
  show s.W.length+(s.E++[_]).length<=_;rw[bA];show _+(s.E.length+1)<=_;omega
 unfold nxG;split
 .refine⟨?_,?_,by show s.hv.length<=_;omega,by show s.he.length<=_;omega,by show s.tu.length<=_;omega,by show s.S.length<=_;omega,h6⟩
  .show Ah _ (s.W++[_]).length _;rw[bA];exact hm.ZD _
  show(s.W++[_]).length+s.E.length<=_;rw[bA];show s.W.length+1+_<=_;omega
 split
 .refine⟨hm,by show s.W.length+s.E.length<=_;omega,?_,?_,by show s.tu.length<=_;omega,by show s.S.length<=_;omega,h6⟩
  .show(HF s.hv s.E (zY s.m (lT ws 1))).length<=_;unfold HF;split
   .have:=vp s.hv (-1-zY s.m (lT ws 1)) ();omega
   have:=vp s.hv (s.E.getD (zY s.m (lT ws 1)).toNat mK).2.1 ();have:=vp (kZ s.hv (s.E.getD (zY s.m (lT ws 1)).toNat mK).2.1 ()) (s.E.getD (zY s.m (lT ws 1)).toNat mK).2.2.1 ();omega
  show(HG s.he (zY s.m (lT ws 1))).length<=_;unfold HG;split
  .omega
  have:=vp s.he (zY s.m (lT ws 1)) ();omega
 split
 .refine⟨hm,by show s.W.length+s.E.length<=_;omega,by show s.hv.length<=_;omega,by show s.he.length<=_;omega,?_,by show s.S.length<=_;omega,h6⟩;have:=vp s.tu (-1-zY s.m (lT ws 1)) ((ws.drop 2).map λp=>uG s.m p.2);show(kZ s.tu _ _).length<=_;omega
 refine⟨hm,by show s.W.length+s.E.length<=_;omega,by show s.hv.length<=_;omega,by show s.he.length<=_;omega,by show s.tu.length<=_;omega,?_,h6⟩;show(s.S++[_]).length<=_;rw[bA];show s.S.length+1<=_;omega
theorem afl {s:RS}{ws:v8}(h:Ld s ws)(hb:s.b=aD):(lT ws 0=wZ\/lT ws 0=uv)/\ws.length=1:=by have:=h.2;rwa[aQ hb] at this
theorem ZN {s:RS}{ws:v8}(h:Ld s ws)(hb:s.b=aC):(kV s.k (lT ws 0)).2=aC/\s.t<=(kV s.k (lT ws 0)).1/\VW (kV s.k (lT ws 0)).1 s ws:=by have:=h.2;rwa[aP (by rw[hb];decide)] at this
section
variable {s:RS}{ws:v8}{g:af}(h:VW g s ws)
include h
theorem aj7 (e:g=0):Vk s ws:=by subst e;exact h
theorem aj8 (e:g=1):Qv s ws:=by subst e;exact h
theorem aj9 (e:g=2):Qw s ws:=by subst e;exact h
theorem aka (e:g=3):ZI s ws:=by subst e;exact h
theorem akb (e:g=4):ZJ s ws:=by subst e;exact h
end
theorem SP (k:af)(w:aj):0<=(kV k w).1/\(kV k w).1<=4:=by
 grind [kV]
theorem adk {s:RS}{ws:v8}(hb:s.b=aD)(h:lT ws 0=wZ):mU s ws={s with b:=aC}:=by
 grind [mU,nxK]
theorem adl {s:RS}{ws:v8}(hb:s.b=aD)(h:lT ws 0=uv):mU s ws={s with k:=1,b:=aC}:=by
 grind [mU,nxK]
theorem Ca {s:RS}{ws:v8}{g:af}(hb:s.b=aC)(h:(kV s.k (lT ws 0)).1=g):mU s ws=nxG g s ws:=by
 grind [mU]
theorem Le.zero:Le MV 0:=⟨Ah.nil,aW _,aW _,aW _,aW _,aW _,λj hj=>by cases hj⟩
theorem Tryz.akc:G8 aR 104 135 (Data.size (af×aj)) 24:=abC (z:=.agg #[.int .i64 0,.string ⟨#[]⟩]) Tryz.underlying104 (by kernel_rfl) rfl (by decide)
theorem Qx (r:af)(w:aN):
 aI aR 83 [.int .i32 r].toArray w (VL (.bool (KM r)) w):=by
 refine enter f83 44 func83 λa hA=>?_;replace hA:=nJ [(0,.int .i32 r)] hA;have H:=Fr.start (wh w);refine jx λK1 mR=>?_;refine jV [(0,.int .i32 r)] hA H λa w2 hA H hG=>?_;refine mR _ _ ?_;refine jx λK3 wo=>?_;refine qg 0 ?_;refine jx λK4 HH=>?_;refine jx λK5 ZO=>?_;refine jV [(0,.int .i32 r),(3,.bool ((aE ((97:af)<=r)) && (aE (r<=122))))] hA H λa w6 hA H hG=>?_;refine ZO _ _ ?_;refine kI hA (.tmp 3) ((aE ((97:af)<=r)) && (aE (r<=122))) (λhb7=>?_) (λhb7=>?_)
 .have amc:=(⟨bq ((aT hb7).1),bq ((aT hb7).2)⟩:_/\_);refine go_skip ?_;refine HH _ _ ?_;refine kI hA (.tmp 3) ((aE ((97:af)<=r)) && (aE (r<=122))) (λ_=>?_) (λh=>ay (h.symm.trans hb7) (by decide));refine jx λK9 hK9=>?_;refine jV [(2,.bool aC)] hA H λa w10 hA H hG=>?_;refine hK9 _ _ ?_;refine mL ?_;refine m8 2 (.bool aC) hA ?_;exact vO (by rw[anR,vi];unfold xW;simp<;>omega) H.below
 have amc:=(aF hb7).imp (λh=>bL h) (λh=>bL h);refine jV [(0,.int .i32 r),(3,.bool ((aE ((65:af)<=r)) && (aE (r<=90))))] hA H λa w11 hA H hG=>?_;refine HH _ _ ?_;refine kI hA (.tmp 3) ((aE ((65:af)<=r)) && (aE (r<=90))) (λadm=>?_) (λadm=>?_)
 .have akd:=(⟨bq ((aT adm).1),bq ((aT adm).2)⟩:_/\_);refine jx λK13 amd=>?_;refine jV [(2,.bool aC)] hA H λa w14 hA H hG=>?_;refine amd _ _ ?_;refine mL ?_;refine m8 2 (.bool aC) hA ?_;exact vO (by rw[anR,vi];unfold xW;simp<;>omega) H.below
 have akd:=(aF adm).imp (λh=>bL h) (λh=>bL h);refine jx λK15 ag1=>?_;refine jV [(0,.int .i32 r),(16,.bool ((aE ((192:af)<=r)) && (aE (r<=591))))] hA H λa w16 hA H hG=>?_;refine ag1 _ _ ?_;refine kI hA (.tmp 16) ((aE ((192:af)<=r)) && (aE (r<=591))) (λLf=>?_) (λLf=>?_)
 .have ZP:=(⟨bq ((aT Lf).1),bq ((aT Lf).2)⟩:_/\_);refine jx λK18 Lg=>?_;refine jV [(2,.bool ((!decide (r=215)) && (!decide (r=247))))] hA H λa w19 hA H hG=>?_;refine Lg _ _ ?_;refine mL ?_;refine m8 2 (.bool ((!decide (r=215)) && (!decide (r=247)))) hA ?_;exact vO (by rw[anR,vi];unfold xW;simp<;>omega) H.below
 have ZP:=(aF Lf).imp (λh=>bL h) (λh=>bL h);refine jx λK20 ZQ=>?_;refine jV [(0,.int .i32 r),(29,.bool ((aE ((913:af)<=r)) && (aE (r<=969))))] hA H λa w21 hA H hG=>?_;refine ZQ _ _ ?_;refine kI hA (.tmp 29) ((aE ((913:af)<=r)) && (aE (r<=969))) (λLh=>?_) (λLh=>?_)
 .have ZR:=(⟨bq ((aT Lh).1),bq ((aT Lh).2)⟩:_/\_);refine jx λK23 Qy=>?_;refine jV [(2,.bool (!decide (r=930)))] hA H λa w24 hA H hG=>?_;refine Qy _ _ ?_;refine mL ?_;refine m8 2 (.bool (!decide (r=930))) hA ?_;exact vO (by rw[anR,vi];unfold xW;simp<;>omega) H.below
 have ZR:=(aF Lh).imp (λh=>bL h) (λh=>bL h);refine go_skip ?_;refine wo _ _ ?_;refine jx λK25 Qz=>?_;refine jV [(2,.bool ((aE ((1040:af)<=r)) && (aE (r<=1103))))] hA H λa w26 hA H hG=>?_;refine Qz _ _ ?_;refine mL ?_;refine m8 2 (.bool ((aE ((1040:af)<=r)) && (aE (r<=1103)))) hA ?_;exact vO (by rw[anR,vi];unfold xW;simp<;>omega) H.below
theorem ZS (r:af)(w:aN):
 aI aR 56 [.int .i32 r].toArray w (VL (.bool (yh r)) w):=by
 refine enter f56 21 func56 λa hA=>?_;replace hA:=nJ [(0,.int .i32 r)] hA;have H:=Fr.start (wh w);refine jx λK1 mR=>?_;refine jV [(0,.int .i32 r)] hA H λa w2 hA H hG=>?_;refine mR _ _ ?_;refine jx λK3 wo=>?_;refine jV [(2,.bool ((((aE (r=10))||((aE ((43:af)<=r)) && (aE (r<=47))))||(aE (r=58)))||(aE (r=124))))] hA H λa w4 hA H hG=>?_;refine wo _ _ ?_;refine mL ?_;refine m8 2 (.bool ((((aE (r=10))||((aE ((43:af)<=r)) && (aE (r<=47))))||(aE (r=58)))||(aE (r=124)))) hA ?_;exact vO (by unfold yh;rw[anR];simp<;>omega) H.below
theorem Dh (r:af)(w:aN):
 aI aR 55 [.int .i32 r].toArray w (VL (.int .i64 (cls r)) w):=by
 refine enter f55 25 func55 λa hA=>?_;replace hA:=nJ [(0,.int .i32 r)] hA;have H:=Fr.start (wh w);refine jx λK1 mR=>?_;refine jV [(0,.int .i32 r)] hA H λa w2 hA H hG=>?_;refine mR _ _ ?_;refine jx λK3 wo=>?_;refine qg 0 ?_;refine jx λK4 HH=>?_;refine jV [(0,.int .i32 r),(3,.bool (aE (r=32)))] hA H λa w5 hA H hG=>?_;refine HH _ _ ?_;refine kI hA (.tmp 3) (aE (r=32)) (λhb6=>?_) (λhb6=>?_)
 .have ame:=bq hb6;refine jx λK7 hK7=>?_;refine jV [(2,iv 4)] hA H λa w8 hA H hG=>?_;refine hK7 _ _ ?_;refine mL ?_;refine m8 2 (.int .i64 4) hA ?_;exact Ja (by unfold cls xW;(repeat' split)<;>omega) H.below
 have ame:=bL hb6;refine jx λK9 hK9=>?_;refine jV [(0,.int .i32 r),(6,.bool ((aE ((48:af)<=r)) && (aE (r<=57))))] hA H λa w10 hA H hG=>?_;refine hK9 _ _ ?_;refine kI hA (.tmp 6) ((aE ((48:af)<=r)) && (aE (r<=57))) (λadn=>?_) (λadn=>?_)
 .have ake:=(⟨bq ((aT adn).1),bq ((aT adn).2)⟩:_/\_);refine jx λK12 ado=>?_;refine jV [(2,iv 2)] hA H λa w13 hA H hG=>?_;refine ado _ _ ?_;refine mL ?_;refine m8 2 (.int .i64 2) hA ?_;exact Ja (by unfold cls xW;(repeat' split)<;>omega) H.below
 have ake:=(aF adn).imp (λh=>bL h) (λh=>bL h);refine jx λK14 Li=>?_;refine jx λK15 ag1=>?_;refine jV [(0,.int .i32 r),(13,.bool (aE (r=95)))] hA H λa w16 hA H hG=>?_;refine ag1 _ _ ?_;refine kI hA (.tmp 13) (aE (r=95)) (λLf=>?_) (λLf=>?_)
 .have ZP:=bq Lf;refine go_skip ?_;refine Li _ _ ?_;refine kI hA (.tmp 13) (aE (r=95)) (λ_=>?_) (λh=>ay (h.symm.trans Lf) (by decide));refine jx λK19 ag2=>?_;refine jV [(2,iv 3)] hA H λa w20 hA H hG=>?_;refine ag2 _ _ ?_;refine mL ?_;refine m8 2 (.int .i64 3) hA ?_;exact Ja (by unfold cls xW;(repeat' split)<;>omega) H.below
 have ZP:=bL Lf;refine jV [(0,.int .i32 r),(13,.bool ((aE ((8242:af)<=r)) && (aE (r<=8244))))] hA H λa w21 hA H hG=>?_;refine Li _ _ ?_;refine kI hA (.tmp 13) ((aE ((8242:af)<=r)) && (aE (r<=8244))) (λLh=>?_) (λLh=>?_)
 .have ZR:=(⟨bq ((aT Lh).1),bq ((aT Lh).2)⟩:_/\_);refine jx λK23 Qy=>?_;refine jV [(2,iv 3)] hA H λa w24 hA H hG=>?_;refine Qy _ _ ?_;refine mL ?_;refine m8 2 (.int .i64 3) hA ?_;exact Ja (by unfold cls xW;(repeat' split)<;>omega) H.below
 have ZR:=(aF Lh).imp (λh=>bL h) (λh=>bL h);refine jx λK25 Qz=>?_;refine q_reg [(24,.bool (KM r))] [(22,.bool (KM r))] ((uN aR 83/\AD aR (On w21) 83 [.int .i32 r].toArray (.bool (KM r)))/\av) hA H ⟨⟨tJ,wA λw hw=>by exact Qx r w⟩,tv⟩ λa w26 hA H hG=>?_;refine Qz _ _ ?_;refine kI hA (.tmp 22) (KM r) (λDi=>?_) (λDi=>?_)
 .have pI:=Di;refine jx λK28 ZT=>?_;refine jV [(2,iv 1)] hA H λa w29 hA H hG=>?_;refine ZT _ _ ?_;refine mL ?_;refine m8 2 (.int .i64 1) hA ?_;exact Ja (by simp only[vi,I9] at pI;unfold xW at pI;unfold cls xW;(repeat' split)<;>omega) H.below
 have pI:=Di;refine go_skip ?_;refine wo _ _ ?_;refine jx λK30 amf=>?_;refine jV [(2,iv 0)] hA H λa w31 hA H hG=>?_;refine amf _ _ ?_;refine mL ?_;refine m8 2 (.int .i64 0) hA ?_;exact Ja (by simp only[vi,I9] at pI;unfold xW at pI;unfold cls xW;(repeat' split)<;>omega) H.below
theorem ZU (s:aj)(w:aN):
 aI aR 40 [.string s].toArray w (VL (.bool (kN s)) w):=by
 refine enter f40 42 func40 λa hA=>?_;replace hA:=nJ [(0,.string s)] hA;have H:=Fr.start (wh w);refine jx λK1 mR=>?_;refine jV [(0,.string s)] hA H λa w2 hA H hG=>?_;refine mR _ _ ?_;refine jx λK3 wo=>?_;refine jV [(0,.string s),(3,iv 0),(4,iv 0)] hA H λa w4 hA H hG=>?_;refine wo _ _ ?_;refine jx λK5 ZO=>?_;refine jx λK6 hK6=>?_;refine nD ?_;refine qS 0 1 [] [(3,iv 0),(4,iv 0),(7,.string s)] (av) hA H tv λa w7 hA H hG=>?_;refine rC 1 ?_;refine Ef 1 8 9 (.tmp 7) s [(3,iv 0),(4,iv 0)] hA H Tryz.underlying9 λb8 a w9 H hA hG ag3=>?_;clear ag3;refine oe ?_;refine hK6 _ _ ?_;refine qg 0 ?_;refine Bj (ah×af×af) (λx_ a W=>(λ(pos:ah) (n:af) (k:af)=>kP 42 a (lY [(3,iv n),(4,iv k),(8,pv b8)])/\(∃S,Fr (wh w) W S [.iter b8 s pos])/\0<=n/\n<=16/\0<=k/\k<=3/\mP (kY s pos) n k=kN s) x_.1 x_.2.1 x_.2.2) (λx_=>(λ(pos:ah) (n:af) (k:af)=>s.size-pos) x_.1 x_.2.1 x_.2.2) (0,0,0) ?_ (λx_ a w11 hI=>?_)
 ·(try dsimp only);exact⟨nJ _ hA,⟨_,H⟩,by omega,by omega,by omega,by omega,rfl⟩
 obtain⟨pos,n,k⟩:=x_;have⟨hA,⟨S,H⟩,h1,h2,h3,h4,hi⟩:=hI
 try dsimp only at h1 h2 h3 h4 hi
 replace H:Fr _ _ _ [.iter b8 s pos]:=H;refine jx λK12 ado=>?_;refine nD ?_;refine rC 0 ?_;refine JK 0 9 (.tmp 8) 0 b8 s pos [(3,iv n),(4,iv k),(8,pv b8)] hA H rfl (λsu a w14 H hA hG=>?_) (λsu a hA=>?_)
 .replace H:Fr _ _ _ [.iter b8 s (pos+(bn s pos).2)]:=H;have hwd:=oS s pos su;refine qS 1 1 [] [(3,iv n),(4,iv k),(8,pv b8),(9,.tuple #[.bool aC,.int .i64 (pos:af),.int .i32 ((bn s pos).1:af)]),(10,.bool aC)] (TT/\av) hA H ⟨tv,tv⟩ λa w15 hA H hG=>?_;refine oe ?_;refine ado _ _ ?_;refine jx λK16 ZV=>?_;refine kI hA (.tmp 10) aC (λ_=>?_) (λh=>by cases h);refine go_skip ?_;refine ZV _ _ ?_;refine qg 1 ?_;refine jx λK18 Lg=>?_;refine q_reg [] [(3,iv n),(4,iv k),(6,.int .i32 ((bn s pos).1:af)),(8,pv b8)] (TT/\av) hA H ⟨tv,tv⟩ λa w19 hA H hG=>?_;refine Lg _ _ ?_;refine jx λK20 ZQ=>?_;refine q_reg [] [(3,iv (n+1)),(4,iv k),(6,.int .i32 ((bn s pos).1:af)),(8,pv b8)] ((jX .i64 (n+1))/\av) hA H ⟨⟨by omega,by omega⟩,tv⟩ λa w21 hA H hG=>?_;refine ZQ _ _ ?_;refine jx λK22 QA=>?_;refine jx λK23 Qy=>?_;refine q_reg [(15,iv (cls ((bn s pos).1:af)))] [(3,iv (n+1)),(4,iv k),(8,pv b8),(15,iv (cls ((bn s pos).1:af)))] ((uN aR 55/\AD aR (On w21) 55 [.int .i32 ((bn s pos).1:af)].toArray (.int .i64 (cls ((bn s pos).1:af))))/\av) hA H ⟨⟨tJ,wA λw hw=>by exact Dh ((bn s pos).1:af) w⟩,tv⟩ λa w24 hA H hG=>?_;refine Qy _ _ ?_;refine qg 2 ?_;refine jx λK25 Qz=>?_;refine jV [(3,iv (n+1)),(4,iv k),(8,pv b8),(15,iv (cls ((bn s pos).1:af))),(16,.bool (aE (cls ((bn s pos).1:af)=1)))] hA H λa w26 hA H hG=>?_;refine Qz _ _ ?_;refine kI hA (.tmp 16) (aE (cls ((bn s pos).1:af)=1)) (λDi=>?_) (λDi=>?_)
  .have pI:=bq Di;refine jx λK28 ZT=>?_;refine jV [(3,iv (n+1)),(4,iv k),(8,pv b8),(19,.bool (aE ((0:af)<k)))] hA H λa w29 hA H hG=>?_;refine ZT _ _ ?_;refine kI hA (.tmp 19) (aE ((0:af)<k)) (λag4=>?_) (λag4=>?_)
   .have Jl:=bq ag4;refine jx λK31 akf=>?_;refine jV [(2,.bool aD)] hA H λa w32 hA H hG=>?_;refine akf _ _ ?_;refine mL ?_;refine m8 2 (.bool aD) hA ?_;exact vO (by rw[<-hi];first|(rw[jN s pos su];simp only[mP];simp[pI,Jl];done)|(rw[jN s pos su];simp only[mP];simp[pI,Jl];intros;omega)|(rw[lB s pos su];rfl)) H.below
   have Jl:=bL ag4;refine go_skip ?_;refine QA _ _ ?_;refine jx λK33 ag5=>?_;refine jV [(3,iv (n+1)),(4,iv k),(8,pv b8),(39,.bool ((aE ((16:af)<n+1))||(aE ((3:af)<k))))] hA H λa w34 hA H hG=>?_;refine ag5 _ _ ?_;refine kI hA (.tmp 39) ((aE ((16:af)<n+1))||(aE ((3:af)<k))) (λN7=>?_) (λN7=>?_)
   .have Jm:=(oT N7).imp (λh=>bq h) (λh=>bq h);refine jx λK36 ag6=>?_;refine jV [(2,.bool aD)] hA H λa w37 hA H hG=>?_;refine ag6 _ _ ?_;refine mL ?_;refine m8 2 (.bool aD) hA ?_;exact vO (by rw[<-hi];first|(rw[jN s pos su];simp only[mP];simp[pI,Jl,Jm];done)|(rw[jN s pos su];simp only[mP];simp[pI,Jl,Jm];intros;omega)|(rw[lB s pos su];rfl)) H.below
   have Jm:=(⟨bL ((oF N7).1),bL ((oF N7).2)⟩:_/\_);refine go_skip ?_;refine⟨(pos+(bn s pos).2,n+1,k),⟨nJ _ hA,⟨_,H⟩,?_⟩,?_⟩
   ·(try dsimp only);exact⟨by omega,by omega,by omega,by omega,by have rR:=hi;rw[jN s pos su] at rR;simp only[mP] at rR;simp[pI,Jl,Jm] at rR;exact rR⟩
   (try dsimp only);omega
  have pI:=bL Di;refine jx λK38 amg=>?_;refine jV [(3,iv (n+1)),(4,iv k),(8,pv b8),(15,iv (cls ((bn s pos).1:af))),(20,.bool (aE (cls ((bn s pos).1:af)=2)))] hA H λa w39 hA H hG=>?_;refine amg _ _ ?_;refine kI hA (.tmp 20) (aE (cls ((bn s pos).1:af)=2)) (λag7=>?_) (λag7=>?_)
  .have xg:=bq ag7;refine jx λK41 amh=>?_;refine jV [(3,iv (n+1)),(4,iv k),(8,pv b8),(27,.bool ((aE (n+1=1))||(aE ((0:af)<k))))] hA H λa w42 hA H hG=>?_;refine amh _ _ ?_;refine kI hA (.tmp 27) ((aE (n+1=1))||(aE ((0:af)<k))) (λadp=>?_) (λadp=>?_)
   .have Jn:=(oT adp).imp (λh=>bq h) (λh=>bq h);refine jx λK44 akg=>?_;refine jV [(2,.bool aD)] hA H λa w45 hA H hG=>?_;refine akg _ _ ?_;refine mL ?_;refine m8 2 (.bool aD) hA ?_;exact vO (by rw[<-hi];first|(rw[jN s pos su];simp only[mP];simp[pI,xg,Jn];done)|(rw[jN s pos su];simp only[mP];simp[pI,xg,Jn];intros;omega)|(rw[lB s pos su];rfl)) H.below
   have Jn:=(⟨bL ((oF adp).1),bL ((oF adp).2)⟩:_/\_);refine go_skip ?_;refine QA _ _ ?_;refine jx λK46 adq=>?_;refine jV [(3,iv (n+1)),(4,iv k),(8,pv b8),(39,.bool ((aE ((16:af)<n+1))||(aE ((3:af)<k))))] hA H λa w47 hA H hG=>?_;refine adq _ _ ?_;refine kI hA (.tmp 39) ((aE ((16:af)<n+1))||(aE ((3:af)<k))) (λadr=>?_) (λadr=>?_)
   .have SQ:=(oT adr).imp (λh=>bq h) (λh=>bq h);refine jx λK49 ami=>?_;refine jV [(2,.bool aD)] hA H λa w50 hA H hG=>?_;refine ami _ _ ?_;refine mL ?_;refine m8 2 (.bool aD) hA ?_;exact vO (by rw[<-hi];first|(rw[jN s pos su];simp only[mP];simp[pI,xg,Jn,SQ];done)|(rw[jN s pos su];simp only[mP];simp[pI,xg,Jn,SQ];intros;omega)|(rw[lB s pos su];rfl)) H.below
   have SQ:=(⟨bL ((oF adr).1),bL ((oF adr).2)⟩:_/\_);refine go_skip ?_;refine⟨(pos+(bn s pos).2,n+1,k),⟨nJ _ hA,⟨_,H⟩,?_⟩,?_⟩
   ·(try dsimp only);exact⟨by omega,by omega,by omega,by omega,by have rR:=hi;rw[jN s pos su] at rR;simp only[mP] at rR;simp[pI,xg,Jn,SQ] at rR;exact rR⟩
   (try dsimp only);omega
  have xg:=bL ag7;refine jx λK51 amj=>?_;refine jV [(3,iv (n+1)),(4,iv k),(8,pv b8),(28,.bool (aE (cls ((bn s pos).1:af)=3)))] hA H λa w52 hA H hG=>?_;refine amj _ _ ?_;refine kI hA (.tmp 28) (aE (cls ((bn s pos).1:af)=3)) (λag8=>?_) (λag8=>?_)
  .have DX:=bq ag8;refine jx λK54 amk=>?_;refine jx λK55 aml=>?_;refine jV [(3,iv (n+1)),(4,iv k),(8,pv b8),(31,.bool (aE (n+1=1)))] hA H λa w56 hA H hG=>?_;refine aml _ _ ?_;refine kI hA (.tmp 31) (aE (n+1=1)) (λag9=>?_) (λag9=>?_)
   .have Jo:=bq ag9;refine jx λK58 aha=>?_;refine jV [(2,.bool aD)] hA H λa w59 hA H hG=>?_;refine aha _ _ ?_;refine mL ?_;refine m8 2 (.bool aD) hA ?_;exact vO (by rw[<-hi];first|(rw[jN s pos su];simp only[mP];simp[pI,xg,DX,Jo];done)|(rw[jN s pos su];simp only[mP];simp[pI,xg,DX,Jo];intros;omega)|(rw[lB s pos su];rfl)) H.below
   have Jo:=bL ag9;refine go_skip ?_;refine amk _ _ ?_;refine q_reg [] [(3,iv (n+1)),(4,iv (k+1)),(8,pv b8)] ((jX .i64 (k+1))/\av) hA H ⟨⟨by omega,by omega⟩,tv⟩ λa w60 hA H hG=>?_;refine QA _ _ ?_;refine jx λK61 amm=>?_;refine jV [(3,iv (n+1)),(4,iv (k+1)),(8,pv b8),(39,.bool ((aE ((16:af)<n+1))||(aE ((3:af)<k+1))))] hA H λa w62 hA H hG=>?_;refine amm _ _ ?_;refine kI hA (.tmp 39) ((aE ((16:af)<n+1))||(aE ((3:af)<k+1))) (λads=>?_) (λads=>?_)
   .have SR:=(oT ads).imp (λh=>bq h) (λh=>bq h);refine jx λK64 amn=>?_;refine jV [(2,.bool aD)] hA H λa w65 hA H hG=>?_;refine amn _ _ ?_;refine mL ?_;refine m8 2 (.bool aD) hA ?_;exact vO (by rw[<-hi];first|(rw[jN s pos su];simp only[mP];simp[pI,xg,DX,Jo,SR];done)|(rw[jN s pos su];simp only[mP];simp[pI,xg,DX,Jo,SR];intros;omega)|(rw[lB s pos su];rfl)) H.below
   have SR:=(⟨bL ((oF ads).1),bL ((oF ads).2)⟩:_/\_);refine go_skip ?_;refine⟨(pos+(bn s pos).2,n+1,k+1),⟨nJ _ hA,⟨_,H⟩,?_⟩,?_⟩
   ·(try dsimp only);exact⟨by omega,by omega,by omega,by omega,by have rR:=hi;rw[jN s pos su] at rR;simp only[mP] at rR;simp[pI,xg,DX,Jo,SR] at rR;exact rR⟩
   (try dsimp only);omega
  have DX:=bL ag8;refine jx λK66 amo=>?_;refine jV [(2,.bool aD)] hA H λa w67 hA H hG=>?_;refine amo _ _ ?_;refine mL ?_;refine m8 2 (.bool aD) hA ?_;exact vO (by rw[<-hi];first|(rw[jN s pos su];simp only[mP];simp[pI,xg,DX];done)|(rw[jN s pos su];simp only[mP];simp[pI,xg,DX];intros;omega)|(rw[lB s pos su];rfl)) H.below
 skip
 refine qS 1 1 [] [(3,iv n),(4,iv k),(8,pv b8),(9,.tuple #[.bool aD]),(10,.bool aD)] (TT/\av) hA H ⟨tv,tv⟩ λa w68 hA H hG=>?_;refine oe ?_;refine ado _ _ ?_;refine jx λK69 ann=>?_;refine kI hA (.tmp 10) aD (λh=>by cases h) (λ_=>?_);refine Bi 0 ?_;refine ZO _ _ ?_;refine jx λK71 amq=>?_;refine jV [(2,.bool (aE ((0:af)<n)))] hA H λa w72 hA H hG=>?_;refine amq _ _ ?_;refine mL ?_;refine m8 2 (.bool (aE ((0:af)<n))) hA ?_;exact vO (by rw[<-hi];first|(rw[jN s pos su];simp only[mP];simp[];done)|(rw[jN s pos su];simp only[mP];simp[];intros;omega)|(rw[lB s pos su];rfl)) H.below
theorem adt (s:aj)(w:aN):
 aI aR 33 [.string s].toArray w (VL (.tuple #[.int .i64 (B4 s).1,.bool (B4 s).2]) w):=by
 refine enter f33 21 func33 λa hA=>?_;replace hA:=nJ [(0,.string s)] hA;have H:=Fr.start (wh w);refine jx λK1 mR=>?_;refine jV [(0,.string s)] hA H λa w2 hA H hG=>?_;refine mR _ _ ?_;refine jx λK3 wo=>?_;refine jx λK4 HH=>?_;refine nD ?_;refine qS 0 1 [] [(6,.string s)] (av) hA H tv λa w5 hA H hG=>?_;refine rC 1 ?_;refine Ef 1 7 9 (.tmp 6) s [] hA H Tryz.underlying9 λb6 a w7 H hA hG GG=>?_;clear GG;refine oe ?_;refine HH _ _ ?_;refine qg 0 ?_;refine Bj (ah) (λx_ a W=>(λ(pos:ah)=>kP 21 a (lY [(7,pv b6)])/\(∃S,Fr (wh w) W S [.iter b6 s pos])/\Aw (kY s pos)=B4 s) x_) (λx_=>(λ(pos:ah)=>s.size-pos) x_) (0) ?_ (λpos a w9 hI=>?_)
 ·(try dsimp only);exact⟨nJ _ hA,⟨_,H⟩,rfl⟩
 have⟨hA,⟨S,H⟩,hi⟩:=hI
 try dsimp only at hi
 refine jx λK10 ZW=>?_;refine nD ?_;refine rC 0 ?_;refine JK 0 8 (.tmp 7) 0 b6 s pos [(7,pv b6)] hA H rfl (λCb a w12 H hA hG=>?_) (λCb a hA=>?_)
 .replace H:Fr _ _ _ [.iter b6 s (pos+(bn s pos).2)]:=H;have hwd:=oS s pos Cb;refine qS 1 1 [] [(7,pv b6),(8,.tuple #[.bool aC,.int .i64 (pos:af),.int .i32 ((bn s pos).1:af)]),(9,.bool aC)] (TT/\av) hA H ⟨tv,tv⟩ λa w13 hA H hG=>?_;refine oe ?_;refine ZW _ _ ?_;refine jx λK14 Li=>?_;refine kI hA (.tmp 9) aC (λ_=>?_) (λh=>by cases h);refine go_skip ?_;refine Li _ _ ?_;refine qg 1 ?_;refine jx λK16 ZV=>?_;refine q_reg [] [(4,iv (pos:af)),(5,.int .i32 ((bn s pos).1:af)),(7,pv b6)] (TT/\TT/\av) hA H ⟨tv,tv,tv⟩ λa w17 hA H hG=>?_;refine ZV _ _ ?_;refine jx λK18 Lg=>?_;refine q_reg [(13,iv (cls ((bn s pos).1:af))),(17,.bool (yh ((bn s pos).1:af)))] [(4,iv (pos:af)),(7,pv b6),(19,.bool ((aE (cls ((bn s pos).1:af)=0)) && (!(yh ((bn s pos).1:af)))))] ((uN aR 55/\AD aR (On w17) 55 [.int .i32 ((bn s pos).1:af)].toArray (.int .i64 (cls ((bn s pos).1:af))))/\((aE (cls ((bn s pos).1:af)=0))=aC->uN aR 56/\AD aR (On w17) 56 [.int .i32 ((bn s pos).1:af)].toArray (.bool (yh ((bn s pos).1:af))))/\av) hA H ⟨⟨tJ,wA λw hw=>by exact Dh ((bn s pos).1:af) w⟩,λ_=>⟨tJ,wA λw hw=>by exact ZS ((bn s pos).1:af) w⟩,tv⟩ λa w19 hA H hG=>?_;refine Lg _ _ ?_;refine kI hA (.tmp 19) ((aE (cls ((bn s pos).1:af)=0)) && (!(yh ((bn s pos).1:af)))) (λadu=>?_) (λadu=>?_)
  .have SS:=(⟨bq ((aT adu).1),(nT ((aT adu).2))⟩:_/\_);refine jx λK21 amr=>?_;refine jV [(2,iv (pos:af)),(3,.bool aC)] hA H λa w22 hA H hG=>?_;refine amr _ _ ?_;refine mL ?_;refine Q6 2 3 (.int .i64 (pos:af)) (.bool aC) hA ?_;exact Y3 (by rw[<-hi,jN s pos Cb];simp only[Aw];rw[aQ ⟨SS.1,SS.2⟩];exact⟨rfl,rfl⟩) H.below
  have SS:=(aF adu).imp (λh=>bL h) (λh=>(nF h));refine go_skip ?_;refine⟨(pos+(bn s pos).2),⟨nJ _ hA,⟨_,H⟩,?_⟩,?_⟩
  ·(try dsimp only);exact by have rR:=hi;rw[jN s pos Cb] at rR;simp only[Aw] at rR;rw[aP (by intro hh;have h:=SS;simp_all)] at rR;exact rR
  (try dsimp only);omega
 skip
 refine qS 1 1 [] [(7,pv b6),(8,.tuple #[.bool aD]),(9,.bool aD)] (TT/\av) hA H ⟨tv,tv⟩ λa w23 hA H hG=>?_;refine oe ?_;refine ZW _ _ ?_;refine jx λK24 ahb=>?_;refine kI hA (.tmp 9) aD (λh=>by cases h) (λ_=>?_);refine Bi 0 ?_;refine wo _ _ ?_;refine jx λK26 ams=>?_;refine jV [(2,iv 0),(3,.bool aD)] hA H λa w27 hA H hG=>?_;refine ams _ _ ?_;refine mL ?_;refine Q6 2 3 (.int .i64 0) (.bool aD) hA ?_;exact Y3 (by rw[<-hi,lB s pos Cb];exact⟨rfl,rfl⟩) H.below
theorem Vn (s:aj)(o:Orig)(hs:s.size<=1000000000):
 aI aR 36 [.string s].toArray o.w (He o (λS v w'=>Rd S w' v (mc s))):=by
 refine enter f36 49 func36 λa hA=>?_;replace hA:=nJ [(0,.string s)] hA;have H:=Fr.start o;refine jx λK1 mR=>?_;refine jV [(0,.string s)] hA H λa w2 hA H hG=>?_;refine mR _ _ ?_;refine jx λK3 wo=>?_;refine jV [(0,.string s),(3,(.slice aA 0 0))] hA H λa w4 hA H hG=>?_;refine wo _ _ ?_;refine jx λK5 ZO=>?_;refine jV [(0,.string s),(3,(.slice aA 0 0)),(4,iv (-1))] hA H λa w6 hA H hG=>?_;refine ZO _ _ ?_;refine jx λK7 hK7=>?_;refine jx λK8 hK8=>?_;refine nD ?_;refine qS 0 1 [] [(0,.string s),(3,(.slice aA 0 0)),(4,iv (-1)),(8,.string s)] (av) hA H tv λa w9 hA H hG=>?_;refine rC 1 ?_;refine Ef 1 9 9 (.tmp 8) s [(0,.string s),(3,(.slice aA 0 0)),(4,iv (-1))] hA H Tryz.underlying9 λG7 a w11 H hA hG adv=>?_;clear adv;refine oe ?_;refine hK8 _ _ ?_;refine qg 0 ?_;replace H:=H.newRow (α:=af×aj) 135;replace H:Fr _ _ _ [.iter G7 s 0,.row 135 (.slice aA 0 0) ([]:aa (af×aj))]:=H.swap;refine Bj (ah×aO×af×aa (af×aj)) (λx_ a W=>(λ(pos:ah) (v:aO) (b:af) (l:aa (af×aj))=>kP 49 a (lY [(0,.string s),(3,v),(4,iv b),(9,pv G7)])/\(∃S,Fr o W S [.iter G7 s pos,.row 135 v l])/\-1<=b/\b<=(pos:af)/\b<=(s.size:af)/\(l.length<=pos/\l.length<=s.size)/\sI s (kY s pos) b l=mc s) x_.1 x_.2.1 x_.2.2.1 x_.2.2.2) (λx_=>(λ(pos:ah) (v:aO) (b:af) (l:aa (af×aj))=>s.size-pos) x_.1 x_.2.1 x_.2.2.1 x_.2.2.2) (0,.slice aA 0 0,-1,[]) ?_ (λx_ a w13 hI=>?_)
 ·(try dsimp only);exact⟨nJ _ hA,⟨_,H⟩,by omega,by omega,by omega,by simp,rfl⟩
 obtain⟨pos,v,b,l⟩:=x_;have⟨hA,⟨S,H⟩,h1,h2,h3,h4,hi⟩:=hI
 try dsimp only at h1 h2 h3 h4 hi
 replace H:Fr _ _ _ [.iter G7 s pos,.row 135 v l]:=H;refine jx λK14 Li=>?_;refine nD ?_;refine rC 0 ?_;refine JK 0 10 (.tmp 9) 0 G7 s pos [(0,.string s),(3,v),(4,iv b),(9,pv G7)] hA H rfl (λQB a w16 H hA hG=>?_) (λQB a hA=>?_)
 .replace H:Fr _ _ _ [.iter G7 s (pos+(bn s pos).2),.row 135 v l]:=H;have hwd:=oS s pos QB;refine qS 1 1 [] [(0,.string s),(3,v),(4,iv b),(9,pv G7),(10,.tuple #[.bool aC,.int .i64 (pos:af),.int .i32 ((bn s pos).1:af)]),(11,.bool aC)] (TT/\av) hA H ⟨tv,tv⟩ λa w17 hA H hG=>?_;refine oe ?_;refine Li _ _ ?_;refine jx λK18 Lg=>?_;refine kI hA (.tmp 11) aC (λ_=>?_) (λh=>by cases h);refine go_skip ?_;refine Lg _ _ ?_;refine qg 1 ?_;refine jx λK20 ZQ=>?_;refine q_reg [] [(0,.string s),(3,v),(4,iv b),(5,iv (pos:af)),(6,.int .i32 ((bn s pos).1:af)),(9,pv G7)] (TT/\TT/\av) hA H ⟨tv,tv,tv⟩ λa w21 hA H hG=>?_;refine ZQ _ _ ?_;refine jx λK22 QA=>?_;refine q_reg [(15,iv (cls ((bn s pos).1:af)))] [(0,.string s),(3,v),(4,iv b),(5,iv (pos:af)),(7,.bool (aE (cls ((bn s pos).1:af)=4))),(9,pv G7)] ((uN aR 55/\AD aR (On w21) 55 [.int .i32 ((bn s pos).1:af)].toArray (.int .i64 (cls ((bn s pos).1:af))))/\av) hA H ⟨⟨tJ,wA λw hw=>by exact Dh ((bn s pos).1:af) w⟩,tv⟩ λa w23 hA H hG=>?_;refine QA _ _ ?_;refine jx λK24 ahb=>?_;refine jx λK25 Qz=>?_;refine jV [(0,.string s),(3,v),(4,iv b),(5,iv (pos:af)),(7,.bool (aE (cls ((bn s pos).1:af)=4))),(9,pv G7),(21,.bool ((aE (cls ((bn s pos).1:af)=4)) && (aE ((0:af)<=b))))] hA H λa w26 hA H hG=>?_;refine Qz _ _ ?_;refine kI hA (.tmp 21) ((aE (cls ((bn s pos).1:af)=4)) && (aE ((0:af)<=b))) (λDi=>?_) (λDi=>?_)
  .have pI:=(⟨bq ((aT Di).1),bq ((aT Di).2)⟩:_/\_);refine jx λK28 ZT=>?_;refine nD ?_;refine qS 0 7 [(27,.string (s.extract (b).toNat ((pos:af)).toNat)),(28,.agg #[.int .i64 b,.string (s.extract (b).toNat ((pos:af)).toNat)])] [(0,.string s),(5,iv (pos:af)),(7,.bool (aE (cls ((bn s pos).1:af)=4))),(9,pv G7),(22,v),(28,.agg #[.int .i64 b,.string (s.extract (b).toNat ((pos:af)).toNat)])] ((∀w,(cX 9 (.string s) (az (.int .i64 b)) (az (.int .i64 (pos:af))) aA).run aR w= .ok (.string (s.extract (b).toNat ((pos:af)).toNat)) w)/\(∀w,(ao8 135 #[(0,iv b),(1,.string (s.extract (b).toNat ((pos:af)).toNat))]).run aR w= .ok (.agg #[.int .i64 b,.string (s.extract (b).toNat ((pos:af)).toNat)]) w)/\av) hA H ⟨λw=>Bn Tryz.underlying9 w (by omega) (by omega) (by omega),λw=>by kernel_rfl,tv⟩ λa w29 hA H hG=>?_;refine rC 7 ?_;refine aeE 7 29 104 1 #[(0,.tmp 28)] 135 [(0,.agg #[.int .i64 b,.string (s.extract (b).toNat ((pos:af)).toNat)])] [.int .i64 b,.string (s.extract (b).toNat ((pos:af)).toNat)] [(0,.string s),(5,iv (pos:af)),(7,.bool (aE (cls ((bn s pos).1:af)=4))),(9,pv G7),(22,v)] hA H λb30 a w31 H hA hG adw=>?_;clear adw;refine rC 8 ?_;refine Wh 8 30 (.tmp 22) (.tmp 29) 2 0 b30 1 1 v l [(b,s.extract (b).toNat ((pos:af)).toNat)] [.int .i64 b,.string (s.extract (b).toNat ((pos:af)).toNat)] [(0,.string s),(5,iv (pos:af)),(7,.bool (aE (cls ((bn s pos).1:af)=4))),(9,pv G7)] hA H Tryz.akc rfl rfl (by exact(kR.single (α:=af×aj) ⟨[_],_,rfl,rfl,rfl⟩)) rfl (by simp only[b7,cK,bA];omega) (by decide) λv32 a w33 H hA hG=>?_;replace H:Fr _ _ _ [.iter G7 s (pos+(bn s pos).2),.row 135 v32 (l++[(b,s.extract (b).toNat ((pos:af)).toNat)])]:=H.drop 0;refine qS 9 1 [] [(0,.string s),(3,v32),(5,iv (pos:af)),(7,.bool (aE (cls ((bn s pos).1:af)=4))),(9,pv G7)] (av) hA H tv λa w34 hA H hG=>?_;refine oe ?_;refine ZT _ _ ?_;refine jV [(0,.string s),(3,v32),(4,iv (-1)),(5,iv (pos:af)),(7,.bool (aE (cls ((bn s pos).1:af)=4))),(9,pv G7)] hA H λa w35 hA H hG=>?_;refine ahb _ _ ?_;refine jx λK36 ag6=>?_;refine jV [(0,.string s),(3,v32),(4,iv (-1)),(5,iv (pos:af)),(9,pv G7),(36,.bool ((!(aE (cls ((bn s pos).1:af)=4))) && (aE ((-1:af)<0))))] hA H λa w37 hA H hG=>?_;refine ag6 _ _ ?_;refine kI hA (.tmp 36) ((!(aE (cls ((bn s pos).1:af)=4))) && (aE ((-1:af)<0))) (λh=>by simp[(aT Di).1] at h) (λ_=>?_);refine go_skip ?_;refine⟨(pos+(bn s pos).2,v32,-1,l++[(b,s.extract (b).toNat ((pos:af)).toNat)]),⟨nJ _ hA,⟨_,H⟩,?_⟩,?_⟩
   ·(try dsimp only);exact⟨by omega,by omega,by omega,by first|omega|(rw[bA];simp only[b7,cK];omega),by have rR:=hi;rw[jN s pos QB] at rR;simp only[sI] at rR;(repeat' split at rR)<;>first|exact rR|(exfalso;omega)⟩
   (try dsimp only);omega
  have pI:=(aF Di).imp (λh=>bL h) (λh=>bL h);refine go_skip ?_;refine ahb _ _ ?_;refine jx λK39 amt=>?_;refine jV [(0,.string s),(3,v),(4,iv b),(5,iv (pos:af)),(9,pv G7),(36,.bool ((!(aE (cls ((bn s pos).1:af)=4))) && (aE (b<0))))] hA H λa w40 hA H hG=>?_;refine amt _ _ ?_;refine kI hA (.tmp 36) ((!(aE (cls ((bn s pos).1:af)=4))) && (aE (b<0))) (λadx=>?_) (λadx=>?_)
  .have akh:=(⟨bL (nT ((aT adx).1)),bq ((aT adx).2)⟩:_/\_);refine jV [(0,.string s),(3,v),(4,iv (pos:af)),(9,pv G7)] hA H λa w42 hA H hG=>?_;refine⟨(pos+(bn s pos).2,v,(pos:af),l),⟨nJ _ hA,⟨_,H⟩,?_⟩,?_⟩
   ·(try dsimp only);exact⟨by omega,by omega,by omega,by first|omega|(rw[bA];simp only[b7,cK];omega),by have rR:=hi;rw[jN s pos QB] at rR;simp only[sI] at rR;(repeat' split at rR)<;>first|exact rR|(exfalso;omega)⟩
   (try dsimp only);omega
  have akh:=(aF adx).imp (λh=>bq (nF h)) (λh=>bL h);refine go_skip ?_;refine⟨(pos+(bn s pos).2,v,b,l),⟨nJ _ hA,⟨_,H⟩,?_⟩,?_⟩
  ·(try dsimp only);exact⟨by omega,by omega,by omega,by first|omega|(rw[bA];simp only[b7,cK];omega),by have rR:=hi;rw[jN s pos QB] at rR;simp only[sI] at rR;(repeat' split at rR)<;>first|exact rR|(exfalso;omega)⟩
  (try dsimp only);omega
 skip
 refine qS 1 1 [] [(0,.string s),(3,v),(4,iv b),(9,pv G7),(10,.tuple #[.bool aD]),(11,.bool aD)] (TT/\av) hA H ⟨tv,tv⟩ λa w43 hA H hG=>?_;refine oe ?_;refine Li _ _ ?_;refine jx λK44 akg=>?_;refine kI hA (.tmp 11) aD (λh=>by cases h) (λ_=>?_);refine Bi 0 ?_;refine hK7 _ _ ?_;refine jx λK46 adq=>?_;refine jx λK47 amu=>?_;refine jV [(0,.string s),(3,v),(4,iv b),(39,.bool (aE ((0:af)<=b)))] hA H λa w48 hA H hG=>?_;refine amu _ _ ?_;refine kI hA (.tmp 39) (aE ((0:af)<=b)) (λahc=>?_) (λahc=>?_)
 .have ZX:=bq ahc;refine nD ?_;refine qS 0 6 [(44,.string (s.extract (b).toNat s.size)),(45,.agg #[.int .i64 b,.string (s.extract (b).toNat s.size)])] [(40,v),(45,.agg #[.int .i64 b,.string (s.extract (b).toNat s.size)])] ((∀w,(cX 9 (.string s) (az (.int .i64 b)) aA aA).run aR w= .ok (.string (s.extract (b).toNat s.size)) w)/\(∀w,(ao8 135 #[(0,iv b),(1,.string (s.extract (b).toNat s.size))]).run aR w= .ok (.agg #[.int .i64 b,.string (s.extract (b).toNat s.size)]) w)/\av) hA H ⟨λw=>Du Tryz.underlying9 w (by omega) (by omega),λw=>by kernel_rfl,tv⟩ λa w50 hA H hG=>?_;refine rC 6 ?_;refine aeE 6 46 104 1 #[(0,.tmp 45)] 135 [(0,.agg #[.int .i64 b,.string (s.extract (b).toNat s.size)])] [.int .i64 b,.string (s.extract (b).toNat s.size)] [(40,v)] hA H λb51 a w52 H hA hG ady=>?_;clear ady;refine rC 7 ?_;refine Wh 7 47 (.tmp 40) (.tmp 46) 2 0 b51 1 1 v l [(b,s.extract (b).toNat s.size)] [.int .i64 b,.string (s.extract (b).toNat s.size)] [] hA H Tryz.akc rfl rfl (by exact(kR.single (α:=af×aj) ⟨[_],_,rfl,rfl,rfl⟩)) rfl (by simp only[b7,cK,bA];omega) (by decide) λv53 a w54 H hA hG=>?_;replace H:Fr _ _ _ [.iter G7 s pos,.row 135 v53 (l++[(b,s.extract (b).toNat s.size)])]:=H.drop 0;refine qS 8 1 [] [(3,v53)] (av) hA H tv λa w55 hA H hG=>?_;refine oe ?_;refine adq _ _ ?_;refine jx λK56 amv=>?_;refine jV [(2,v53)] hA H λa w57 hA H hG=>?_;refine amv _ _ ?_;refine mL ?_;refine m8 2 v53 hA ?_;have ho:=H.afV 1 rfl;rw[lB s pos QB] at hi;simp only[sI] at hi;simp only[ZX,if_true,if_false] at hi;rw[hi] at ho;exact⟨_,rfl,ho,H.below⟩
 have ZX:=bL ahc;refine go_skip ?_;refine adq _ _ ?_;refine jx λK58 aha=>?_;refine jV [(2,v)] hA H λa w59 hA H hG=>?_;refine aha _ _ ?_;refine mL ?_;refine m8 2 v hA ?_;have ho:=H.afV 1 rfl;rw[lB s pos QB] at hi;simp only[sI] at hi;simp only[ZX,if_true,if_false] at hi;rw[hi] at ho;exact⟨_,rfl,ho,H.below⟩
def afm (ops:aq Oper):ak:=ops.toList.all λo=>match o.op with| .defer _=>aD|_=>aC
theorem adz {ops:aq Oper}(h:afm ops=aC){o:Oper}(ho:o∈ops.toList):∀c,o.op≠.defer c:=by
 intro c e;have:=bG.1 h o ho;rw[e] at this;cases this
abbrev Rnd (l:ah):Fence:=bK.inRound l
section
variable {P:aY}{ops:aq Oper}{Q:Exit->Act->aN->Prop}{a:Act}{w:aN}
theorem aki {G:Fence}{n:ah}(By:∀f,G.fn f)(hd:G.depth=aA)(uO:∀f args w R,aI P f args w R->CallsIn G (n-1) P f args w R)(pX:∀row args w R,Rows P row args w R->RowsIn G (n-1) P row args w R)(hQ:¬LetsOut Q){o:Oper}{K:Act->aN->Prop}(hdf:∀c,o.op≠.defer c)
  (h:o.wp P a w K Q\/(o.asks P a w/\LetsOut Q)):o.wpIn G n P a w K Q:=by
 rcases h with h|⟨_,h⟩
 .refine⟨λf _=>By f,?_⟩;rw[Oper.semAt_eq _ _ _ hdf];unfold Oper.wp at h;generalize (execOp a.eval o).run P w=r at*
  cases r with
  |ok x w'=>
   cases x<;>simp only[an2,an3] at h ⊢ <;>first
    |exact⟨λe=>(by rw[hd] at e;cases e),uO _ _ _ _ h⟩
    |exact⟨λe=>(by rw[hd] at e;cases e),pX _ _ _ _ h⟩
    |exact h
    |exact(h:False).elim
  |halt x w'=>cases x<;>simp only[an2,an3] at h ⊢ <;>exact h
 exact(hQ h).elim
theorem SU {G:Fence}{n:ah}(By:∀f,G.fn f)(hd:G.depth=aA)(uO:∀f args w R,aI P f args w R->CallsIn G (n-1) P f args w R)(pX:∀row args w R,Rows P row args w R->RowsIn G (n-1) P row args w R)(hQ:¬LetsOut Q):
  ∀(l:aa Oper) (a:Act) (w:aN),(∀o∈l,∀c,o.op≠.defer c)->wpList P ops Q l a w->wpListIn G n P ops Q l a w
 |[],a,w,_,h=>h
 |o::l,a,w,hl,h=>by
  simp only[wpList] at h;simp only[wpListIn];have ih:=λa w=>SU By hd uO pX hQ l a w (λo' LM=>hl o' (bl _ LM))
  by_cases hw:dh o (yielded ops a.tmps)=aC
  .rw[aQ hw] at h ⊢;exact arJ ih (aki By hd uO pX hQ (hl o aZ) h)
  rw[aP hw] at h ⊢;exact⟨λf _=>By f,ih _ _ h⟩
end
section
variable {P:aY}{B:Code}{p:aa ah}{Q:oL}{a:Act}{w:aN}{l n:ah}
theorem aln (row:String)(args:aq aO)(w:aN)(R:aO->aN->Prop)(h:Rows P row args w R):RowsIn (Rnd l) n P row args w R:=
 λc cs _=>let⟨v,w',r,s⟩:=h c cs;⟨v,w',r,stepsIn_wide.2 s⟩
end
section
variable {P:aY}{ops:aq Oper}{Q:Exit->Act->aN->Prop}{n:ah}
theorem ZY {k:ah}(row:String)(args:aq aO)(w:aN)(R:aO->aN->Prop)(h:Rows P row args w R):RowsIn bK k P row args w R:=
 λc cs _=>let⟨v,w',r,s⟩:=h c cs;⟨v,w',r,stepsIn_wide.2 s⟩
theorem we {F:Fence}{rest:aa Oper}:∀(l:aa Oper) (a:Act) (w:aN),wpListIn F n P ops (Exit.then (wpListIn F n P ops Q rest) Q) l a w->wpListIn F n P ops Q (l++rest) a w
 |[],a,w,h=>h
 |o::l,a,w,h=>by
  simp only[wpListIn,eC] at h ⊢
  by_cases hw:dh o (yielded ops a.tmps)=aC
  .rw[aQ hw] at h ⊢;refine arJ (we l) ⟨h.1,?_⟩;have h2:=h.2;generalize (o.semAt F.round a.eval).run P w=r at*
   cases r with
   |ok x w'=>cases x<;>exact h2
   |halt x w'=>cases x<;>exact h2
  rw[aP hw] at h ⊢;exact⟨h.1,we l _ _ h.2⟩
variable {B:Code}{p:aa ah}{a:Act}{w:aN}
theorem Jp (n:ah)(k:wpListIn bK n P (opsOf (sub B p)) Q ((opsOf (sub B p)).toList.drop 0) a w)(hd:Cu (sub B p)=az aD:=by kernel_rfl):(sub B p).wp P Q a w:=by
 cases Ab:sub B p<;>rw[Ab] at hd<;>first|(cases hd;done)|skip
 rename_i id ops d;simp only[Cu,cr] at hd;subst hd;rw[Ab] at k;exact wpIn_wide.1 (wpIn_region_list k)
theorem Lj {m:ah}{env:Env}{w0:Orig}{S:jv}{rs:aa sD}(i k:ah)(n9:aa (ah×aO))(keep:aa (ah×aO))(pr:Prop)(ha:kP m a env)(H:Fr w0 w S rs)(hp:pr)(hQ:¬LetsOut Q)
  (kk:∀a' w',kP m a' (lY keep)->Fr w0 w' S rs->Below w.heap.size w w'->wpListIn bK n P ops Q (ops.toList.drop (i+k)) a' w')
  (h:Bk P (On w) m ops n9 ((ops.toList.drop i).take k) env keep pr:=by delta Bk;kernel_rfl) (hc:afm ops=aC:=by kernel_rfl):wpListIn bK n P ops Q (ops.toList.drop i) a w:=by
 obtain⟨wv,h1,hk⟩:=EV h;have h2:=uz (P:=P) (ops:=ops) (Q:=Exit.then (wpListIn bK n P ops Q (ops.toList.drop (i+k))) Q) (rest:=[]) (K:=λa'=>kP m a' (lY keep)) ((ops.toList.drop i).take k) a w (On.self w)
  (ES ha h1 hp λa' ha'=>JJ keep ha' hk) (λa' w' Bc ha'=>kk a' w' ha' (H.on Bc) Bc)
 rw[bW] at h2;have h3:=SU (G:=bK) (n:=n) (Q:=Exit.then (wpListIn bK n P ops Q (ops.toList.drop (i+k))) Q) (λ_=>trivial) rfl (λf args w R h=>callsIn_wide.2 h) (λrow args w R h=>ZY row args w R h) (λ⟨a,w,h⟩=>hQ ⟨a,w,h⟩) _ a w
  (λo ho=>adz hc (List.mem_of_mem_drop (List.mem_of_mem_take ho))) h2
 have h4:=we _ a w h3;rw[<-List.drop_drop,List.take_append_drop] at h4;exact h4
theorem Jq {i:ah}(k:Q .normal a w)(h:aE (ops.size<=i)=aC:=by kernel_rfl):wpListIn bK n P ops Q (ops.toList.drop i) a w:=by
 rw[List.drop_of_length_le (by simpa using bq h)];exact k
theorem SV {m:ah}{env:Env}(i d l:ah)(x:bu)(args:aq bu)(ats:aq aV)(us:aa aO){R:bY->aN->Prop}(keep:aa (ah×aO))(ha:kP m a env)
  (hy:YieldAt bK (n-1) P l us.toArray w R)
  (k:∀e w',R e w'->(∃v,e= .returned v/\∀a',kP m a' (lY ((d,v)::keep))->wpListIn bK n P ops Q (ops.toList.drop (i+1)) a' w')\/∃ch,e= .panicked ch/\Q (.panic ch) a w')
  (h:TW ops i=az (.call {callee:=.value x,args:=args,argTypes:=ats},az d,aA):=by kernel_rfl) (hx:getOp env [] x=az (.func (.yield l) #[] #[]):=by kernel_rfl) (mg:(args.toList.map (getOp env [])).mapM id=az us:=by kernel_rfl)
  (hk:uP m d env keep:=by delta uP;kernel_rfl):wpListIn bK n P ops Q (ops.toList.drop i) a w:=by
 obtain⟨o,ho,he⟩:=bF.1 h;simp only[Prod.mk.injEq] at he;have⟨h1,h2,h3⟩:=he;obtain⟨Cx,LM⟩:=cF.1 ho;rw[eE Cx,LM];refine wpListIn_plain h3 λK hK=>⟨λf _=>trivial,?_⟩;have yp:oK a []:=λl hl=>by simp at hl
 have Fi:=wu (ρ:=a.eval) (λx u hx=>nQ ha yp x u hx) args us mg;have⟨fn,tmps,assign,body,hy1,hy2⟩:=hy;have e:(o.semAt (bK).round a.eval).run P w= .ok (.round l fn tmps assign body) w:=by
  show(execOp a.eval o).run P w=_;have amw:=hy1;simp[execOp,h1,resolve,Fi,nQ ha yp _ _ hx,aoK,invoke,amw]
 rw[e];refine⟨λe=>(by cases e),hy2.mono λe w' hR=>?_⟩;rcases k e w' hR with⟨v,rfl,hv⟩|⟨ch,rfl,h⟩
 .exact hK _ _ (hv _ (Bl (o:=o) keep ha h2 hk))
 exact h
end
abbrev akj (w:aN):Orig:=⟨{w with heap:= #[]},λ_=>False,λ_ h=>h.elim⟩
theorem ahd {w:aN}{b:ah}{t:aV}{vs:aa aO}(hb:w.heap[b]?=az (.cells vs.toArray t (0,0))):Fr (akj w) w (λ_=>False) [.box b t vs] where
 below:=⟨rfl,rfl,rfl,bQ _,λk hk=>ay hk (aoE k)⟩
 src _ h:=h.elim
 pT _ h:=h.elim
 ok r hr:=by rw[aU.1 hr];exact hb
 own r hr b' rN:=by
  rw[aU.1 hr] at rN;cases rN;exact⟨bQ _,(di.1 hb).1,λh=>h⟩
 nodup:=by show List.Nodup [b];simp
structure KpB (b:ah)(A C:aN):Prop where
 os:C.os=A.os
 tape:C.tape=A.tape
 output:C.output=A.output
 box:C.heap[b]?=A.heap[b]?
 size:A.heap.size<=C.heap.size
 walks:∀(r:ah) (s:aj) (p:ah),A.heap[r]?=az (dW s p)->C.heap[r]?=az (dW s p)
def AbS {β:Type}(B:ah)(J:β->aN->Prop):Prop:=
 ∀(x:β) (W W':aN) (row:ai ah),J x W->W.grownBy W' row->(∀r,row=az r->B<=r/\∃s p,W.heap[r]?=az (dW s p))->J x W'
theorem SW {o:Orig}{w w':aN}{S:jv}{b bi pos:ah}{s:aj}{t:aV}{vs:aa aO}(ho:o.w.heap.size=0)(H:Fr o w S [.iter bi s pos,.box b t vs])(hk:KpB b w w'):Fr o w' (λ_=>False) [.iter bi s pos,.box b t vs] where
 below:=⟨hk.os.trans H.below.os,hk.tape.trans H.below.tape,hk.output.trans H.below.output,by rw[ho];exact bQ _,λk hk=>by rw[ho] at hk;exact ay hk (aoE k)⟩
 src _ h:=h.elim
 pT _ h:=h.elim
 ok r hr:=by
  have:=H.ok r hr;simp only[bg,aod,or_false] at hr;rcases hr with rfl|rfl
  .exact hk.walks _ _ _ this
  exact hk.box.trans this
 own r hr k hk':=by
  obtain⟨h1,h2,h3⟩:=H.own r hr k hk';exact⟨h1,bR h2 hk.size,λh=>h⟩
 nodup:=H.nodup
abbrev Has {β:Type}(J:β->aN->Prop)(B:ah)(x:β)(w:aN):Prop:=J x w/\B<=w.heap.size
theorem Has.on {β:Type}{J:β->aN->Prop}{B:ah}{x:β}{w w':aN}(hJ:AbS B J)(h:Has J B x w)(hb:Below w.heap.size w w'):Has J B x w':=
 ⟨hJ x w w' aA h.1 ⟨hb.os,hb.tape,hb.output,hb.size,λk hk _=>hb.block k hk⟩ (λr e=>by cases e),bC h.2 hb.size⟩
theorem Has.next {β:Type}{J:β->aN->Prop}{B b pos:ah}{s:aj}{x:β}{w w':aN}(hJ:AbS B J)(h:Has J B x w)(hb:B<=b)(hi:w.heap[b]?=az (dW s pos))(hg:w.grownBy w' (az b)):Has J B x w':=
 ⟨hJ x w w' (az b) h.1 hg (λr e=>by cases e;exact⟨hb,_,_,hi⟩),bC h.2 hg.size⟩
theorem Has.kp {β:Type}{J:β->aN->Prop}{B b:ah}{x:β}{w w':aN}(h:J x w')(hB:B<=w.heap.size)(hk:KpB b w w'):Has J B x w':=⟨h,bC hB hk.size⟩
theorem QC (l b:ah)(s:aj)(J:aa (af×aj)->aN->Prop)(Px:aa PanicEntry->aN->Prop)(w:aN)(hs:s.size<=1000000000)(hb:w.heap[b]?=az (.cells #[.string s] 9 (0,0)))(hJ:AbS w.heap.size J)(hY:∀(pre:aa (af×aj)) (x:af×aj) (W1:aN),J pre W1->(∃rest,pre++x::rest=nu s)->YieldAt bK 0 aR l #[.int .i64 x.1,.string x.2] W1 λe W'=>(e= .returned (.bool aC)/\J (pre++[x]) W'/\KpB b W1 W')\/∃ch,e= .panicked ch/\Px ch W')(h0:J [] w):
 aI aR 57 [.func (.yield l) #[] #[],.pointer (az ⟨b,0,aA⟩)].toArray w (λe W'=>((∃v,e= .returned v)/\J (nu s) W')\/∃ch,e= .panicked ch/\Px ch W'):=by
 refine enter f57 34 func57 λa hA=>?_;replace hA:=nJ [(0,.func (.yield l) #[] #[]),(1,pv b)] hA;have H:=ahd hb;have hj:Has J w.heap.size [] w:=⟨h0,aW _⟩;refine jx λK1 mR=>?_;refine jV [(0,.func (.yield l) #[] #[]),(1,pv b),(3,iv 0)] hA H λa w2 hA H hG=>?_;replace hj:=hj.on hJ hG;refine mR _ _ ?_;refine jx λK3 wo=>?_;refine jx λK4 HH=>?_;refine nD ?_;refine qS 0 1 [(6,.string s)] [(0,.func (.yield l) #[] #[]),(1,pv b),(3,iv 0),(6,.string s)] ((xy (On w2) b (0) (.string s))/\av) hA H ⟨by exact Bp H 0 rfl 0,tv⟩ λa w5 hA H hG=>?_;replace hj:=hj.on hJ hG;refine rC 1 ?_;refine Ef 1 7 9 (.tmp 6) s [(0,.func (.yield l) #[] #[]),(1,pv b),(3,iv 0)] hA H Tryz.underlying9 λb6 a w7 H hA hG GG=>?_;replace GG:=bC hj.2 GG;replace hj:=hj.on hJ hG;refine oe ?_;refine HH _ _ ?_;refine qg 0 ?_;refine Bj (ah×af×aa (af×aj)) (λx_ a W=>(λ(pos:ah) (start:af) (pre:aa (af×aj))=>kP 34 a (lY [(0,.func (.yield l) #[] #[]),(1,pv b),(3,iv start),(7,pv b6)])/\(∃S,Fr (akj w) W S [.iter b6 s pos,.box b 9 [.string s]])/\pos<=s.size/\0<=start/\start<=(pos:af)/\(aM pre:af)<=start/\pre++(DU s (s.size-pos) pos start).map (A8 s)=nu s/\Has J w.heap.size pre W) x_.1 x_.2.1 x_.2.2) (λx_=>(λ(pos:ah) (start:af) (pre:aa (af×aj))=>s.size-pos) x_.1 x_.2.1 x_.2.2) (0,0,[]) ?_ (λx_ a w9 hI=>?_)
 ·(try dsimp only);exact⟨nJ _ hA,⟨_,H⟩,by omega,by omega,by omega,by simp,rfl,hj⟩
 obtain⟨pos,start,pre⟩:=x_;have⟨hA,⟨S,H⟩,h1,h2,h3,h4,hi,hj⟩:=hI
 try dsimp only at h1 h2 h3 h4 hi hj
 replace H:Fr _ _ _ [.iter b6 s pos,.box b 9 [.string s]]:=H;refine jx λK10 ZW=>?_;refine nD ?_;have hit:=H.Q0 0 rfl;refine rC 0 ?_;refine JK 0 8 (.tmp 7) 0 b6 s pos [(0,.func (.yield l) #[] #[]),(1,pv b),(3,iv start),(7,pv b6)] hA H rfl (λCb a w12 H hA hG=>?_) (λCb a hA=>?_)
 .replace H:Fr _ _ _ [.iter b6 s (pos+(bn s pos).2),.box b 9 [.string s]]:=H;have hwd:=oS s pos Cb;replace hj:=hj.next hJ GG hit hG;refine qS 1 1 [] [(0,.func (.yield l) #[] #[]),(1,pv b),(3,iv start),(7,pv b6),(8,.tuple #[.bool aC,.int .i64 (pos:af),.int .i32 ((bn s pos).1:af)]),(9,.bool aC)] (TT/\av) hA H ⟨tv,tv⟩ λa w13 hA H hG=>?_;replace hj:=hj.on hJ hG;refine oe ?_;refine ZW _ _ ?_;refine jx λK14 Li=>?_;refine kI hA (.tmp 9) aC (λ_=>?_) (λh=>by cases h);refine go_skip ?_;refine Li _ _ ?_;refine qg 1 ?_;refine jx λK16 ZV=>?_;refine q_reg [] [(0,.func (.yield l) #[] #[]),(1,pv b),(3,iv start),(4,iv (pos:af)),(5,.int .i32 ((bn s pos).1:af)),(7,pv b6)] (TT/\TT/\av) hA H ⟨tv,tv,tv⟩ λa w17 hA H hG=>?_;replace hj:=hj.on hJ hG;refine ZV _ _ ?_;refine jx λK18 Lg=>?_;refine jx λK19 ag2=>?_;refine jV [(0,.func (.yield l) #[] #[]),(1,pv b),(3,iv start),(4,iv (pos:af)),(7,pv b6),(13,.bool (!decide (((bn s pos).1:af)=10)))] hA H λa w20 hA H hG=>?_;replace hj:=hj.on hJ hG;refine ag2 _ _ ?_;refine kI hA (.tmp 13) (!decide (((bn s pos).1:af)=10)) (λahe=>?_) (λahe=>?_)
  .have SX:=bL (nT ahe);refine Bi 1 ?_;refine⟨(pos+(bn s pos).2,start,pre),⟨nJ _ hA,⟨_,H⟩,?_⟩,?_⟩
   ·(try dsimp only);exact⟨by have:=(Gv (from_:=start) Cb SX).2;omega,by omega,by omega,by omega,by rw[(Gv Cb SX).1] at hi;exact hi,hj⟩
   (try dsimp only);omega
  have SX:=bq (nF ahe);refine go_skip ?_;refine Lg _ _ ?_;refine jx λK22 QA=>?_;refine jx λK23 Qy=>?_;have hnl:=SX;refine Jp 1 ?_;refine Lj 0 6 [(16,.string s),(19,.string (s.extract (start).toNat ((pos:af)).toNat))] [(0,.func (.yield l) #[] #[]),(1,pv b),(4,iv (pos:af)),(7,pv b6),(14,.func (.yield l) #[] #[]),(15,iv start),(19,.string (s.extract (start).toNat ((pos:af)).toNat))] ((xy (On w20) b (0) (.string s))/\(∀w,(cX 9 (.string s) (az (.int .i64 start)) (az (.int .i64 (pos:af))) aA).run aR w= .ok (.string (s.extract (start).toNat ((pos:af)).toNat)) w)/\av) hA H ⟨by exact Bp H 1 rfl 0,λw=>Bn Tryz.underlying9 w (by omega) (by omega) (by omega),tv⟩ (λ⟨_,_,h⟩=>by rcases h with⟨⟨v,hv⟩,_⟩|⟨_,hv,_⟩<;>cases hv) λa w24 hA H hG=>?_;replace hj:=hj.on hJ hG;refine SV 6 20 l (.tmp 14) #[.tmp 15,.tmp 19] #[3,9] [.int .i64 start,.string (s.extract (start).toNat ((pos:af)).toNat)] [(0,.func (.yield l) #[] #[]),(1,pv b),(4,iv (pos:af)),(7,pv b6)] hA (hY pre (start,s.extract (start).toNat ((pos:af)).toNat) _ hj.1 ⟨_,by have rR:=hi;rw[(Gw Cb hnl).1,bO] at rR;exact rR⟩) λe w25 amx=>?_;rcases amx with⟨rfl,hjn,hkp⟩|⟨ch,rfl,hp⟩
  rotate_left
  .exact .inr ⟨ch,rfl,And.intro hA.2.1 (.inr ⟨ch,rfl,hp⟩)⟩
  refine .inl ⟨_,rfl,λa hA=>?_⟩;replace H:=SW rfl H hkp;replace hj:=Has.kp hjn hj.2 hkp;refine Lj 7 1 [] [(0,.func (.yield l) #[] #[]),(1,pv b),(4,iv (pos:af)),(7,pv b6),(21,.bool aD)] (av) hA H tv (λ⟨_,_,h⟩=>by rcases h with⟨⟨v,hv⟩,_⟩|⟨_,hv,_⟩<;>cases hv) λa w27 hA H hG=>?_;replace hj:=hj.on hJ hG;refine Jq ?_;refine Qy _ _ ?_;refine kI hA (.tmp 21) aD (λh=>by cases h) (λ_=>?_);refine go_skip ?_;refine QA _ _ ?_;refine q_reg [] [(0,.func (.yield l) #[] #[]),(1,pv b),(3,iv ((pos:af)+1)),(7,pv b6)] ((jX .i64 ((pos:af)+1))/\av) hA H ⟨⟨by omega,by omega⟩,tv⟩ λa w29 hA H hG=>?_;replace hj:=hj.on hJ hG;refine⟨(pos+(bn s pos).2,(pos:af)+1,pre++[(start,s.extract (start).toNat ((pos:af)).toNat)]),⟨nJ _ hA,⟨_,H⟩,?_⟩,?_⟩
  ·(try dsimp only);exact⟨by have:=(Gw (from_:=start) Cb hnl).2;omega,by omega,by have:=(Gw (from_:=start) Cb hnl).2;omega,by rw[bA,b7,cK];omega,by rw[(Gw Cb hnl).1,bO,List.append_cons] at hi;exact hi,hj⟩
  (try dsimp only);omega
 skip
 refine qS 1 1 [] [(0,.func (.yield l) #[] #[]),(1,pv b),(3,iv start),(7,pv b6),(8,.tuple #[.bool aD]),(9,.bool aD)] (TT/\av) hA H ⟨tv,tv⟩ λa w30 hA H hG=>?_;replace hj:=hj.on hJ hG;refine oe ?_;refine ZW _ _ ?_;refine jx λK31 akf=>?_;refine kI hA (.tmp 9) aD (λh=>by cases h) (λ_=>?_);refine Bi 0 ?_;refine wo _ _ ?_;refine jx λK33 ag5=>?_;have D6:pos=s.size:=by omega
 refine q_reg [(25,.string s)] [(0,.func (.yield l) #[] #[]),(1,pv b),(3,iv start),(27,.bool (aE (start<(s.size:af))))] ((xy (On w30) b (0) (.string s))/\TT/\av) hA H ⟨by exact Bp H 1 rfl 0,tv,tv⟩ λa w34 hA H hG=>?_;replace hj:=hj.on hJ hG;refine ag5 _ _ ?_;refine kI hA (.tmp 27) (aE (start<(s.size:af))) (λN7=>?_) (λN7=>?_)
 .have Jm:=bq N7;have ue:pre++[(start,s.extract (start).toNat s.size)]=nu s:=by rw[show s.size-pos=0 by omega] at hi;simp only[DU] at hi;rw[aQ (by omega)] at hi;exact hi
  refine Jp 1 ?_;refine Lj 0 5 [(30,.string s),(32,.string (s.extract (start).toNat s.size))] [(28,.func (.yield l) #[] #[]),(29,iv start),(32,.string (s.extract (start).toNat s.size))] ((xy (On w34) b (0) (.string s))/\(∀w,(cX 9 (.string s) (az (.int .i64 start)) aA aA).run aR w= .ok (.string (s.extract (start).toNat s.size)) w)/\av) hA H ⟨by exact Bp H 1 rfl 0,λw=>Du Tryz.underlying9 w (by omega) (by omega),tv⟩ (λ⟨_,_,h⟩=>by rcases h with⟨⟨v,hv⟩,_⟩|⟨_,hv,_⟩<;>cases hv) λa w36 hA H hG=>?_;replace hj:=hj.on hJ hG;refine SV 5 33 l (.tmp 28) #[.tmp 29,.tmp 32] #[3,9] [.int .i64 start,.string (s.extract (start).toNat s.size)] [] hA (hY pre (start,s.extract (start).toNat s.size) _ hj.1 ⟨_,ue⟩) λe w37 amy=>?_;rcases amy with⟨rfl,hjn,hkp⟩|⟨ch,rfl,hp⟩
  rotate_left
  .exact .inr ⟨ch,rfl,And.intro hA.2.1 (.inr ⟨ch,rfl,hp⟩)⟩
  refine .inl ⟨_,rfl,λa hA=>?_⟩;replace H:=SW rfl H hkp;replace hj:=Has.kp hjn hj.2 hkp;refine Jq ?_;refine HW (P:=aR) (fn:=f57) (R:=(λe W'=>((∃v,e= .returned v)/\J (nu s) W')\/∃ch,e= .panicked ch/\Px ch W')) hA ?_;exact .inl ⟨⟨_,rfl⟩,by rw[<-ue];exact hj.1⟩
 have Jm:=bL N7;refine go_skip ?_;refine HW (P:=aR) (fn:=f57) (R:=(λe W'=>((∃v,e= .returned v)/\J (nu s) W')\/∃ch,e= .panicked ch/\Px ch W')) hA ?_;have akk:pre=nu s:=by rw[show s.size-pos=0 by omega] at hi;simp only[DU] at hi;rw[aP (by omega),cC,bW] at hi;exact hi
 exact .inl ⟨⟨_,rfl⟩,by rw[<-akk];exact hj.1⟩
end Go.Proofs.YtnfdimfepbbbpaaGreatDoor
namespace Go.Proofs.YtnfdimfepbbbpaaGreatDoor
open Go.RowKit Go.Shelf
attribute [local go_sem] Oper.semAt_some
theorem N8 (F:Fence)(n:ah)(h7:F.fn 119)(yJ:F.round=aA)(hn:1<=n)(l Bs rb b off cap:ah)(zs:aa af)(amz:zs.length<=9223372036854775807)(J:ah->aN->Prop)
  (hBs:∀k W,J k W->W.cell? ⟨Bs,0,aA⟩=az (.pointer (az ⟨rb,0,aA⟩))) (hrb:∀k W,J k W->W.cell? ⟨rb,3,aA⟩=az (.slice (az ⟨b,off,aA⟩) zs.length cap))
  (hc:∀k W,J k W->∀j,j<zs.length->W.cell? ⟨b,off+j,aA⟩=az (.int .i64 (zs.getD j 0)))
  (hY:∀k W,J k W->k<zs.length->YieldAt F (n-1) aR l #[.int .i64 (zs.getD k 0)] W λe W'=>e= .returned (.bool aC)/\J (k+1) W')
  (W:aN) (h0:J 0 W):
  CallsIn F n aR 119 #[.func (.yield l) #[] #[],.pointer (az ⟨Bs,0,aA⟩)] W λe W'=>(∃v,e= .returned v)/\J zs.length W':=by
 have amA:=hBs _ _ h0;have amB:=hrb _ _ h0;refine callsIn_of_wp func119 rfl h7 ?_ yJ;simp only[Tryz.ntmps119,dL,b7,cK,arK,arL,arM,arN,arO,arP,dK,eC]
 gi_wp2
 gi_loopw [12] (λi wr=> ∃k:ah,k<=zs.length/\i= .int .i64 k/\J k wr)
  (λi _=>zs.length-(Go.RowKit.intOf i).toNat)
 case atStart=>exact⟨0,bQ _,rfl,h0⟩
 case round=>
  obtain⟨k,hk,rfl,hJs⟩:=hrel;have hcx:k<zs.length->wr.cell? ⟨b,off+k,aA⟩=az (.int .i64 (zs.getD k 0)):=λh=>hc k wr hJs k h
  by_cases rG:k<zs.length
  .obtain⟨fn,tmps,assign,body,hy,hR⟩:=hY _ wr hJs rG;have amC:=hcx rG;generalize zs.getD k 0=x at hy hR amC;clear hcx
   gi_wp2
   refine hR.mono ?_;rintro e W3 ⟨rfl,hJ3⟩
   gi_wp2
   go_roundw
   case rel=>exact⟨k+1,by omega,by simp,hJ3⟩
   case measure=>simp[Go.RowKit.intOf];omega
  obtain rfl:k=zs.length:=by omega
  gi_wp2
  go_end0
  exact⟨⟨_,rfl⟩,hJs⟩
theorem QD (F:Fence)(n:ah)(h7:F.fn 119)(yJ:F.round=aA)(hn:1<=n)(l Bs rb cap:ah)(p:ai Addr)(J:ah->aN->Prop)
  (hBs:∀k W,J k W->W.cell? ⟨Bs,0,aA⟩=az (.pointer (az ⟨rb,0,aA⟩))) (hrb:∀k W,J k W->W.cell? ⟨rb,3,aA⟩=az (.slice p 0 cap))
  (W:aN) (h0:J 0 W):
  CallsIn F n aR 119 #[.func (.yield l) #[] #[],.pointer (az ⟨Bs,0,aA⟩)] W λe W'=>(∃v,e= .returned v)/\J 0 W':=by
 have amA:=hBs _ _ h0;have amB:=hrb _ _ h0;refine callsIn_of_wp func119 rfl h7 ?_ yJ;simp only[Tryz.ntmps119,dL,b7,cK,arK,arL,arM,arN,arO,arP,dK,eC]
 gi_wp2
 gi_loopw [12] (λi wr=>i= .int .i64 0/\J 0 wr)
  (λi _=>0)
 case atStart=>exact⟨rfl,h0⟩
 case round=>
  obtain⟨rfl,hJs⟩:=hrel
  gi_wp2
  go_end0
  exact⟨⟨_,rfl⟩,hJs⟩
def SY (P:aY) (f:bI):Prop:=(∃fn,P.funcs[f]?=az fn/\fn.body.isSome=aC/\(fn.name== "runtime.NumGoroutine")=aD)/\∀(l Bs rb cap:ah) (p:ai Addr) (zs:aa af) (J:ah->aN->Prop),zs.length<=9223372036854775807->
 (∀k W,J k W->W.cell? ⟨Bs,0,aA⟩=az (.pointer (az ⟨rb,0,aA⟩)))->(∀k W,J k W->W.cell? ⟨rb,3,aA⟩=az (.slice p zs.length cap))->
 (zs=[]\/∃b off,p=az ⟨b,off,aA⟩/\∀k W,J k W->∀j,j<zs.length->W.cell? ⟨b,off+j,aA⟩=az (.int .i64 (zs.getD j 0)))->
 (∀k W,J k W->k<zs.length->YieldAt bK 0 P l #[.int .i64 (zs.getD k 0)] W λe W'=>e= .returned (.bool aC)/\J (k+1) W')->
 ∀W,J 0 W->CallsIn bK 0 P f #[.func (.yield l) #[] #[],.pointer (az ⟨Bs,0,aA⟩)] W λe W'=>(∃v,e= .returned v)/\J zs.length W'
theorem N9:SY aR 119:=by
 refine⟨⟨f119,func119,by kernel_rfl,by kernel_rfl⟩,λl Bs rb cap p zs J hz hBs hrb hc hY W h0=>?_⟩;refine callsIn_wide.2 ((callsIn_wide (n:=1)).1 ?_);rcases hc with rfl|⟨b,off,rfl,hc⟩
 .exact QD bK 1 tv rfl (aW _) l Bs rb cap p J hBs hrb W h0
 exact N8 bK 1 tv rfl (aW _) l Bs rb b off cap zs hz J hBs hrb hc hY W h0
abbrev Ec:Ty:=.pair (.list (.list .int)) (.pair (.map .int .int) (.pair (.map .int .int) (.list .int)))
def cD (D:ah):cR:={target:=.collected D,args:= #[]}
def HI (d:cR)(Q:oL):oL:=λe a w=>Q e (lG a [d]) w
abbrev adA (D:ah):oL->oL:=HI (cD D)
def ZZ:aa It->ak
 |[]=>aC
 | .lp _::_=>aD
 |_::r=>ZZ r
structure RGI where
 pt:aa ah
 r:aa It
 p:ah
 f:bI
 q:ah
 j:ah
 t:ah
def Dj (B:Code)(n:ah)(σ:mX):aa It->ai RGI
 | .run p::r=>match sub B p with
  | .rangeFunc (.tmp t) ps _ _=>match ps.toList,p7 σ t with
   |[x],az ⟨[],.one (.sR f [(q,0)])⟩=>match mH σ q with
    |some (.box _ [.pd j])=>match bP x n && ZZ r with
     |true=>az ⟨p,r,x,f,q,j,t⟩
     |false=>aA
    |_=>aA
   |_,_=>aA
  |_=>aA
 |_=>aA
def gI:ai RGI->RGI
 |some x=>x
 |none=>⟨[],[],0,0,0,0,0⟩
def qB (I:RGI)(σ:mX):ak:=match mH σ I.q with
 |some (.box _ [.pd j])=>bp j I.j
 |_=>aD
def scB (k:ah):Sc->ak
 | .v _=>aC
 | .b _=>aC
 | .own j=>bP j k
 | .mp j=>bP j k
 | .ptr j _=>bP j k
 | .pd j=>bP j k
 | .sR _ kH=>kH.all λc=>bP c.1 k
 |_=>aD
def syB (k:ah):Sy->ak
 | .one c=>scB k c
 | .agg cs=>cs.all (scB k)
 | .vt ps=>ps.all λp=>p.2.all (scB k)
def Z0 (k:ah)(env:aa (ah×ai E2)):ak:=env.all λp=>match p.2 with
 |some e=>e.ch.isEmpty && syB k e.sy
 |none=>aC
def Ay (rs:aa (ah×ai R2)):ak:=rs.all λp=>match p.2 with
 |some x=>!uW x
 |none=>aC
def adB (p:ah)(x:af)(σ:mX):mX:=⟨(p,az ⟨[],.one (.v (.int .i64 x))⟩)::σ.env,σ.rs,σ.nx⟩
def adC (D:ah)(σ:mX):mX:=⟨σ.env,(σ.nx,az (.ext (.Ia D)))::σ.rs,σ.nx+1⟩
def Oa (σ:mX):mX:=⟨[],σ.rs,σ.nx⟩
def ahf:aa It->ak
 |[]=>aC
 |_=>aD
def adD:ai ExR->ak
 |some x=>x.cs.isEmpty && (x.hs.isEmpty && (ahf x.st && Ay x.σ.rs))
 |none=>aD
theorem sw {σ:mX}(h:Ay σ.rs=aC){j:ah}{x:R2}(hj:mH σ j=az x):uW x=aD:=by
 have:=bG.1 h _ (pK hj);simpa using this
theorem GH (g:bu)(ps:aq Tmp)(x y:Code):sub (.rangeFunc g ps x y) [0]=x:=by simp only[sub];cases x<;>rfl
theorem GI (g:bu)(ps:aq Tmp)(x y:Code):sub (.rangeFunc g ps x y) [1]=y:=by simp only[sub];cases y<;>rfl
theorem vq {a b:ah}(h:bP a b=aC):a<b:=by simpa[cw] using h
theorem A9 {k:ah}:∀ {c:Sc},scB k c=aC->c.all (· <k)/\∀A,c.lu A
 | .v _,_=>⟨tv,λ_=>trivial⟩
 | .b _,_=>⟨tv,λ_=>trivial⟩
 | .own j,h=>⟨vq h,λ_=>trivial⟩
 | .mp j,h=>⟨vq h,λ_=>trivial⟩
 | .ptr j _,h=>⟨vq h,λ_=>trivial⟩
 | .pd j,h=>⟨vq h,λ_=>trivial⟩
 | .sR _ kH,h=>⟨λc hc=>vq (bG.1 h c hc),λ_=>trivial⟩
 | .el _ _ _ _,h=>by cases h
 | .hd _ _ _,h=>by cases h
theorem ahg {k:ah}:∀ {y:Sy},syB k y=aC->y.all (· <k)/\∀A,y.lu A
 | .one c,h=>A9 h
 | .agg cs,h=>⟨λc hc=>(A9 (bG.1 h c hc)).1,λA c hc=>(A9 (bG.1 h c hc)).2 A⟩
 | .vt ps,h=>⟨λp hp c hc=>(A9 (bG.1 (bG.1 h p hp) c hc)).1,λA p hp c hc=>(A9 (bG.1 (bG.1 h p hp) c hc)).2 A⟩
section
variable {o:jO}{n:ah}{A A' A0:jU}{S S' S0:jv}{F:ah->Prop}{s:ah->ai E2}{f g:ah->ai Rs}{w w' W:aN}{a:Act}{kp l D:ah}{σ σ2:mX}
def oz.wh (H:oz o w S f)(kp:ah)(A:jU):jO:=
 ⟨⟨w,S,H.pT⟩,λb=> ∃j rr,f j=az rr/\rr.has b,λk ⟨j,rr,h1,h2⟩=>(H.own j rr k h1 h2).2.2,λk ⟨j,rr,h1,h2⟩=>(H.own j rr k h1 h2).2.1,(· <kp),A,kp⟩
theorem oz.Z1 (H:oz o w S f)(kp:ah)(A:jU):oz (H.wh kp A) w S f:=
 ⟨rE.refl _ _,λ_ h=>.inl h,H.pT,H.ok,λj r b h1 h2=>⟨.inr ⟨j,r,h1,h2⟩,(H.own j r b h1 h2).2⟩,H.apart⟩
theorem oz.Lm (H:oz o w S f){b:ah}(h:(H.wh kp A).new b):o.new b:=h.elim (λq=>jO.Mj H.sJ q) λ⟨j,rr,h1,h2⟩=>(H.own j rr b h1 h2).1
theorem oz.back (H:oz o w S f)(H2:oz (H.wh kp A) w' S' g):oz o w' S' g:=by
 refine⟨H.sJ.trans H2.sJ λj hj q=>?_,λk hk=>?_,H2.pT,H2.ok,λj r b h1 h2=>?_,H2.apart⟩
 .rcases H.Lm (kp:=kp) (A:=A) (.inr q) with q|q
  .omega
  exact q
 .rcases H2.src k hk with q|q
  .exact H.src k q
  exact .inr (H.Lm q)
 obtain⟨x,y⟩:=H2.own j r b h1 h2;exact⟨H.Lm x,y⟩
theorem oz.other (H:oz o w S f)(hl:o.new l)(hS:¬S l)(hn:∀j r,f j=az r->¬r.has l)(hg:rE w w' (· =l)):oz o w' S f where
 sJ:=H.sJ.trans hg λj hj q=>by
  subst q;rcases hl with q|q
  .omega
  exact q
 src:=H.src
 pT k hk:=bR (H.pT k hk) hg.size
 ok j r hj:=r.keep _ _ _ (H.ok j r hj) (λk hk=>hg.block k (H.pT k hk) λe=>hS (e▸hk)) λb hb=>hg.block b (H.own j r b hj hb).2.1 λe=>hn j r hj (e▸hb)
 own j r b hj hb:=let⟨x,y,z⟩:=H.own j r b hj hb;⟨x,bR y hg.size,z⟩
 apart:=H.apart
theorem adE (w:aN)(l:ah)(x:Obj):rE w (w.putObj l x) (· =l):=⟨rfl,rfl,rfl,by rw[an7];exact aW _,λk _ hn=>eP hn⟩
def Lone (o:jO)(S:jv)(f:ah->ai Rs)(w:aN)(l:ah):Prop:=o.new l/\¬S l/\(∀j r,f j=az r->¬r.has l)/\l<w.heap.size
structure MS (o:jO)(kp:ah)(A0:jU)(S0:jv)(l D:ah)(σ:mX)(A:jU)(S:jv)(W:aN):Prop where
 jM:oz o W S (jL A (mH σ))
 lq:∀j x,mH σ j=az x->j<σ.nx/\x.all (· <σ.nx)/\x.lu A
 QE:lQ (· <kp) A0 A
 s0:∀k,S0 k->(∀j r,jL A (mH σ) j=az r->¬r.has k)/\k<W.heap.size
 l1:Lone o S (jL A (mH σ)) W l
 d1:Lone o S (jL A (mH σ)) W D
theorem MS.lone (m:MS o kp A0 S0 l D σ A S W){k:ah}(hk:Lone o S (jL A (mH σ)) W k)(H2:oz (m.jM.wh kp A) w' S' g):Lone o S' g w' k/\w'.heap[k]?=W.heap[k]?:=by
 have⟨h1,h2,h3,h4⟩:=hk;have Be:¬(m.jM.wh kp A).new k:=λq=>q.elim (λq=>by have q:W.heap.size<=k:=q;omega) λ⟨j,r,q1,q2⟩=>h3 j r q1 q2;refine⟨⟨h1,λq=>?_,λj r q1 q2=>Be (H2.own j r k q1 q2).1,bR h4 H2.sJ.size⟩,H2.sJ.block k h4 λq=>Be (.inr q)⟩;rcases H2.src k q with q|q
 .exact h2 q
 exact Be q
theorem MS.keeps (m:MS o kp A0 S0 l D σ A S W)(H2:oz (m.jM.wh kp A) w' S' g):nC S0 W w':=λk hk=>H2.sJ.block k (m.s0 k hk).2 λ⟨j,r,q1,q2⟩=>(m.s0 k hk).1 j r q1 q2
theorem MS.next (m:MS o kp A0 S0 l D σ A S W)(H2:oz (m.jM.wh kp A) w' S' (jL A' (mH σ2)))(hr:∀j x,mH σ2 j=az x->j<σ2.nx/\x.all (· <σ2.nx)/\x.lu A')(hA:lQ (· <kp) A A'):MS o kp A0 S0 l D σ2 A' S' w' where
 jM:=m.jM.back H2
 lq:=hr
 QE:=m.QE.trans hA
 s0 k hk:=by
  obtain⟨h1,h2⟩:=m.s0 k hk;refine⟨λj r q1 q2=>?_,bR h2 H2.sJ.size⟩;rcases(H2.own j r k q1 q2).1 with q|⟨j,r,q1,q2⟩
  .have q:W.heap.size<=k:=q;omega
  exact h1 j r q1 q2
 l1:=(m.lone m.l1 H2).1
 d1:=(m.lone m.d1 H2).1
theorem MS.put (m:MS o kp A0 S0 l D σ A S W)(x:Obj)(hlD:l≠D):MS o kp A0 S0 l D σ A S (W.putObj l x) where
 jM:=m.jM.other m.l1.1 m.l1.2.1 m.l1.2.2.1 (adE W l x)
 lq:=m.lq
 QE:=m.QE
 s0 k hk:=⟨(m.s0 k hk).1,by rw[an7];exact(m.s0 k hk).2⟩
 l1:=⟨m.l1.1,m.l1.2.1,m.l1.2.2.1,by rw[an7];exact m.l1.2.2.2⟩
 d1:=⟨m.d1.1,m.d1.2.1,m.d1.2.2.1,by rw[an7];exact m.d1.2.2.2⟩
end
theorem Jr {S:jv}{w W:aN}{l:ah}(x:Obj)(h:nC S w W)(hl:∀k,S k->k≠l):nC S w (W.putObj l x):=λk hk=>(eP (hl k hk)).trans (h k hk)
theorem QF {a:Act}(ha:a.defers=[])(D:ah)(ds:aa cR):({lG a ds with defers:=[cD D]++(lG a ds).defers}:Act)=lG (lG a [cD D]) ds:=by
 unfold lG;rw[ha];simp
theorem Cc {o:jO}{n:ah}{A0:jU}{S:jv}{F:ah->Prop}{r:ah->ai R2}{σ0 σ:mX}{a:Act}{w:aN}{kp:ah}(H:kW o n A0 S F (p7 σ0) r a w)(c1:σ.env=σ0.env)(c2:Z0 kp σ0.env=aC)(t:ah)(e:E2)(ht:p7 σ t=az e):
  e.ch=[]/\e.sy.all (· <kp)/\(∀A,e.sy.lu A)/\∀A,lQ (· <kp) A0 A->HR a ⟨t,e.ch,e.sy.den A⟩:=by
 have ht:p7 σ0 t=az e:=by unfold p7 at ht ⊢;rw[<-c1];exact ht
 have hm:(t,az e)∈σ0.env:=(uJ ht).resolve_left λq=>by cases q
 have:=bG.1 c2 _ hm;simp only[bB] at this;obtain⟨k1,k2⟩:=ahg this.2;exact⟨anF.1 this.1,k1,k2,λA hA=>by rw[<-Sy.congr hA k1];exact H.env t e ht⟩
theorem MS.fin {o:jO}{n:ah}{A0 A:jU}{S0 S1 S:jv}{F:ah->Prop}{r:ah->ai R2}{σ0 σ:mX}{a:Act}{w W:aN}{kp l D:ah}(m:MS o kp A0 S0 l D σ A S W)(H:kW o n A0 S1 F (p7 σ0) r a w)(np:∀j,o.pF j->j<o.kp)(c1:σ.env=σ0.env)(c2:Z0 kp σ0.env=aC)
  (c3:Ay σ.rs=aC) (c4:eL kp σ.nx=aC) (c5:eL o.kp kp=aC) (hD:W.heap[D]?=az (.deferred (az []))):lH o n (adC D σ) a W:=by
 have wg:=Cc H c1 c2;have hkp:=anC c5;have Ut:∀j,j<kp->j<σ.nx+1:=λj hj=>aoF (bR hj (anC c4));have H5:kW o n A S (· <σ.nx+1) (p7 σ) (mH σ) a W:=⟨H.size,H.lK,λt e he=>(wg t e he).2.2.2 A m.QE,λt e he _=>⟨Sy.mono Ut (wg t e he).2.1,(wg t e he).2.2.1 A⟩,
  λj x hj=>⟨aoF (m.lq j x hj).1,R2.mono (λj hj=>aoF hj) (m.lq j x hj).2.1,(m.lq j x hj).2.2⟩,m.jM,λj x hj=>oh (sw c3 hj),
  ⟨λj hj=>Ut j (bR (np j hj) hkp),H.wj.2.trans (m.QE.mono λj hj=>bR (np j hj) hkp)⟩⟩
 have H6:=H5.Rh (w':=W) (S':=S) σ.nx (az (.ext (.Ia D))) (λy e=>by cases e;exact⟨dU _,tv,tv⟩) (λy e=>by cases e;exact oh rfl)
  (m.jM.put _ (Ws D) hD λb e=>by
   have e:b=D:=e;subst e;exact⟨m.d1.1,m.d1.2.2.2,m.d1.2.1,λi ri _ hi=>m.d1.2.2.1 i ri hi⟩)
 exact⟨⟨A,S,H6⟩,λt e he=>(wg t e he).1,np⟩
section
variable {mo:Mode}{P:aY}{o:jO}{n:ah}{σ:mX}{a:Act}{w:aN}{T:aa (lM P)}{B:Code}{Q:oL}{st:aa It}
theorem xh {ds:aa cR}(d:cR):∀ {r:aa It} (e:Exit) (a:Act) (w:aN),ZZ r=aC->post ⟨aA,d::ds⟩ P B (HI d Q) r e a w->post ⟨aA,ds⟩ P B Q r e (lG a [d]) w
 |[],e,a,w,_,h=>h
 | .lp _::_,_,_,_,hr,_=>by cases hr
 | .oN i::r,e,a,w,hr,h=>by
  have ih:=λe a w=>xh (ds:=ds) d (r:=r) e a w hr;cases e with
  |exit j=>
   have h:if j=i then post ⟨aA,d::ds⟩ P B (HI d Q) r .normal a w else post ⟨aA,d::ds⟩ P B (HI d Q) r (.exit j) a w:=h;show if j=i then post ⟨aA,ds⟩ P B Q r .normal _ w else post ⟨aA,ds⟩ P B Q r (.exit j) _ w;split
   .rename_i q;rw[aQ q] at h;exact ih _ _ _ h
   rename_i q;rw[aP q] at h;exact ih _ _ _ h
  |_=>exact ih _ _ _ h
 | .run p::r,e,a,w,hr,h=>by
  have ih:=λe a w=>xh (ds:=ds) d (r:=r) e a w hr;cases e with
  |normal=>
   exact ab1 (show(sub B p).qP ⟨aA,d::ds⟩ P (post ⟨aA,d::ds⟩ P B (HI d Q) r) a w from h) λe a w h2=>ih e a w h2
  |_=>exact ih _ _ _ h
theorem Ob {Y:Type}{f:bI}(hit:SY P f)(acc:Y->mX)(kp:ah)(Inv:ah->Y->Prop)(y0:Y)(ρ:aa (ah×ai ah))(pd:vz (El Ec))(d:aa (aa af)×(aa (af×af)×(aa (af×af)×aa af)))
  (h:lH o n σ a w) (hpd:pd=(az d:ai (El Ec))) (hI:Inv 0 y0)
  (round:∀(k:ah) (y:Y) (og:Orig) (G:ah->Prop) (gS:∀b,G b->¬og.S b) (gin:∀b,G b->b<og.w.heap.size) (A:jU) (l:ah) (a:Act) (w:aN) (K:oL),
   (∀(y':Y) (ρ:aa (ah×ai ah)) {wm:mX} {a:Act} {w:aN},lH ⟨og,G,gS,gin,(· <kp),A,kp⟩ n wm a w->Inv (k+1) y'->(h2:mQ ρ wm (Oa (acc y')):=by delta mQ;kernel_rfl)->(h3:uc ρ (Oa (acc y'))=aC:=by kernel_rfl)->(h4:BH ρ kp=aC:=by kernel_rfl)->K .normal a w)->
   k<d.2.2.2.length->Inv k y->lH ⟨og,G,gS,gin,(· <kp),A,kp⟩ n (xS (rT P T [] n B [.run ((gI (Dj B n (acc y0) st)).pt++[0])] (adB (gI (Dj B n (acc y0) st)).p (d.2.2.2.getD k 0) (acc y)))) a w->
   At ⟨az l,[]⟩ P T B K [.run ((gI (Dj B n (acc y0) st)).pt++[1])] a w)
  (after:∀(y:Y) (D:ah) (a:Act) (w:aN),Inv d.2.2.2.length y->lH o n (adC D (acc y)) a w->At ⟨aA,cD D::mo.ds⟩ P T B (adA D Q) (gI (Dj B n (acc y0) st)).r a w)
  (yJ:mo.ro=aA:=by rfl) (ht:(Dj B n (acc y0) st).isSome=aC:=by kernel_rfl) (hf:(gI (Dj B n (acc y0) st)).f=f:=by kernel_rfl)
  (hj:mH (acc y0) (gI (Dj B n (acc y0) st)).j=az (.ext (.Br Ec pd)):=by kernel_rfl)
  (c1:∀y,(acc y).env=(acc y0).env:=by intro y;kernel_rfl) (c2:Z0 kp (acc y0).env=aC:=by kernel_rfl) (c3:∀y,Ay (acc y).rs=aC:=by intro y;kernel_rfl)
  (c4:∀y,eL kp (acc y).nx=aC:=by intro y;kernel_rfl) (c5:eL o.kp kp=aC:=by kernel_rfl)
  (c6:(bP (gI (Dj B n (acc y0) st)).q kp && bP (gI (Dj B n (acc y0) st)).j kp)=aC:=by kernel_rfl) (c7:∀y,qB (gI (Dj B n (acc y0) st)) (acc y)=aC:=by intro y;kernel_rfl)
  (c8:∀y x,adD (rT P T [] n B [.run ((gI (Dj B n (acc y0) st)).pt++[0])] (adB (gI (Dj B n (acc y0) st)).p x (acc y)))=aC:=by intro y x;kernel_rfl)
  (h1:lN ρ σ (acc y0):=by delta lN;kernel_rfl) (h2:mQ ρ σ (acc y0):=by delta mQ;kernel_rfl) (h3:uc ρ (acc y0)=aC:=by kernel_rfl) (h4:BH ρ o.kp=aC:=by kernel_rfl):At mo P T B Q st a w:=by
 have hs:=ud ρ h h1 h2 h3 h4;clear h h1 h2 h3 h4;subst hpd;obtain⟨I,DG⟩:=bS.1 ht;simp only[DG,gI] at round after hf hj c6 c7 c8;clear ht;unfold Dj at DG;split at DG
 .rename_i pt r;split at DG
  .rename_i t ps asg body pG;split at DG
   .rename_i x f' q Ma he;split at DG
    .rename_i bt j hR;split at DG
     .rename_i hg;cases DG;dsimp only at round after hf hj c6 c7 c8;subst hf;obtain⟨⟨A0,S0,H⟩,amD,np⟩:=hs;rw[bB] at hg c6;have hxn:=vq hg.1;have hq:=vq c6.1;have hjk:=vq c6.2;have Z2:ps= #[x]:=by rw[<-aoB,Ma]
      have hv:a.eval (.tmp t)= .func (.func f') #[] #[.pointer (az ⟨A0.b q,0,aA⟩)]:=by
       have hv:=(H.env t _ he).1 (λl hl=>by cases hl);simp only[dH,cP];rw[show a.tmps[t]?=az (.func (.func f') #[] #[.pointer (az ⟨A0.b q,0,aA⟩)]) from hv];rfl
      have wg:=λy=>Cc H (c1 y) c2;have Ut:∀y j,j<kp->j<(acc y).nx:=λy j hj=>bR hj (anC (c4 y));have hm:jL A0 (mH (acc y0)) j=az (R2.den A0 j (.ext (.Br Ec (show vz (El Ec) from(az d:ai (El Ec)))))):=by show(mH (acc y0) j).map _=_;rw[hj];rfl
      have pg:Rd S0 w (.pointer (A0.p j)) (show vz (El Ec) from(az d:ai (El Ec))):=H.jM.ok j _ hm;obtain⟨rb,cur,ct,fz,cs,e1,e2,e3,e4,e5⟩:=(show uR S0 w (.pointer (A0.p j)) (az d:ai (El Ec)) from xD pg);obtain⟨v3,hv3,Az⟩:=(rD Ec e4).get (j:=3) (c:=.l .int d.2.2.2) rfl;have Az:Rd S0 w v3 (show aa af from d.2.2.2):=Az;obtain⟨pp,cap,rfl,z1,z2,z3⟩:=lz Az;have e53:=(e5 3 (by decide)).trans hv3;generalize hzs:d.2.2.2=zs at*
      refine⟨?_⟩;show(sub B pt).qP mo P (post mo P B Q r) a w;rw[pG];have⟨ro,ds⟩:=mo;have yJ:ro=aA:=yJ;subst yJ;show(ap9 (.tmp t) ps asg body).qP ⟨aA,ds⟩ P (post ⟨aA,ds⟩ P B Q r) a w;refine Ap λfn By=>?_;obtain⟨rec,Ai⟩:∃rec:LoopState->ai Code->Loop,rec=λst pe=>{state:=st,pending:=pe,fn,tmps:=a.tmps,params:=ps,assign:=asg,body,defers:=w.heap.size}:=⟨_,rfl⟩;obtain⟨W1,Z3⟩:∃W1,(w.alloc (.deferred (az []))).alloc (.loop (rec .ready aA))=W1:=⟨_,rfl⟩;have hL1:W1.heap[w.heap.size+1]?=az (.loop (rec .ready aA)):=by
       rw[<-Z3];have:=apE (w.alloc (.deferred (az []))) (.loop (rec .ready aA));rwa[arQ] at this
      have mR:W1.heap[w.heap.size]?=az (.deferred (az [])):=by
       rw[<-Z3];exact(Below.heap_alloc _ _ _ (by simp)).trans (apE w _)
      have LY:Below w.heap.size w W1:=by
       rw[<-Z3];exact((Below.refl _ w).alloc (aW _) _).alloc (by simp) _
      have oC:W1.heap.size=w.heap.size+2:=by rw[<-Z3];simp
      have hSl:∀k,S0 k->k≠w.heap.size+1:=λk hk e=>by have:=H.jM.pT k hk;omega
      have eg:∀args w,(callFunc f' args).run P w= .ok (.enter f' args) w:=by
       obtain⟨⟨fn,q1,q2,q3⟩,_⟩:=hit;intro args w;have O3:¬fn.name= "runtime.NumGoroutine" :=by simpa using q3
       have rN:¬fn.body=aA:=by
        intro e;rw[e] at q2;cases q2
       simp[callFunc,program,cM,q1,O3,rN]
      refine⟨w.heap.size+1,[cD w.heap.size],W1,{target:=.fn (.func f') #[.pointer (az ⟨A0.b q,0,aA⟩)],args:= #[.func (.yield (w.heap.size+1)) #[] #[]]},W1,f',
       #[.func (.yield (w.heap.size+1)) #[] #[]]++ #[.pointer (az ⟨A0.b q,0,aA⟩)],W1,?_,?_,?_,?_⟩
      .rw[<-Z3,Ai];exact run_enterLoop_outer _ _ _ _ _
      .simp only[resolve,CK,hv];simp[go_sem]
      .simp[invoke,go_sem,eg]
      obtain⟨J,hJ⟩:∃J:ah->aN->Prop,J=λk W=> ∃y A S,Inv k y/\MS o kp A0 S0 (w.heap.size+1) w.heap.size (acc y) A S W/\nC S0 w W/\W.heap[w.heap.size+1]?=az (.loop (rec .ready aA))/\W.heap[w.heap.size]?=az (.deferred (az [])):=⟨_,rfl⟩;refine(hit.2 (w.heap.size+1) (A0.b q) rb cap pp zs J (bC z1 (bC z2 (by decide))) ?_ ?_ ?_ ?_ W1 ?_).mono ?_
      .rw[hJ];rintro k W ⟨y,A,S,_,m,_,_,_⟩;have h7:=c7 y;unfold qB at h7;dsimp only at h7;split at h7
       .rename_i bt' j' hR';have:=j9 h7;subst this;have Hj:jL A (mH (acc y)) q=az (Rs.of (.box (A.b q) bt' [.pointer (A.p j')])):=by simp[jL,hR',R2.den,Sc.den]
        have hb:W.heap[A.b q]?=az (.cells #[.pointer (A.p j')] bt' (0,0)):=m.jM.ok q _ Hj;have eb:A0.b q=A.b q:=(m.QE q hq).2.1;have ep:A0.p j'=A.p j':=by
         have:=(m.QE j' hjk).1;unfold jU.v at this;injection this
        rw[eb,aK W _ 0 _ _ _ hb];show az (cO (A.p j'))=_;rw[<-ep];exact bh az e1
       cases h7
      .rw[hJ];rintro k W ⟨y,A,S,_,m,hk,_,_⟩;rw[aK W rb 3 cur ct fz ((hk rb e2).trans e3)];exact e53
      .rcases z3 with z3|⟨g,off,akl,t',fz',z4,z5,z6,z7⟩
       .exact .inl z3
       refine .inr ⟨g,off,z4,?_⟩;rw[hJ];rintro k W ⟨y,A,S,_,m,hk,_,_⟩ i hi;obtain⟨Ii,q1,q2⟩:=z7 i hi;have q1:Ii=[.int .i64 zs[i]]:=q1;have q2:=q2 0 (by decide);rw[aK W g (off+i) akl t' fz' ((hk g z5).trans z6)];have q2:akl[off+i*1+0]?=Ii[0]?:=q2;rw[dy,eH] at q2;rw[q2,q1,bD,bN hi];rfl
      ·
       subst hJ;rintro k W ⟨y,A,S,hi,m,hk,hl,hD⟩ rG;have hy:=run_yield (P:=P) (args:= #[.int .i64 (zs.getD k 0)]) hl (by rw[Ai,Z2];rfl);rw[Ai] at hy;refine⟨fn,_,asg,body,hy,XK By ?_⟩;have Uo:({tmps:=(ps.zip #[.int .i64 (zs.getD k 0)]).foldl (λt (p,v)=>t.setIfInBounds p v) a.tmps,defers:=[]}:Act)=a.put (az x) (.int .i64 (zs.getD k 0)):=by
        have hd:=H.lK;obtain⟨tm,df⟩:=a;simp only at hd;subst hd Z2;simp[eu]
       have H1:kW (m.jM.wh kp A) n A S (· <(acc y).nx) (p7 (acc y)) (mH (acc y)) a W:=
        ⟨H.size,H.lK,λt e he=>(wg y t e he).2.2.2 A m.QE,λt e he _=>⟨Sy.mono (Ut y) (wg y t e he).2.1,(wg y t e he).2.2.1 A⟩,m.lq,m.jM.Z1 kp A,λj x hj=>oh (sw (c3 y) hj),⟨Ut y,lQ.refl _ _⟩⟩
       have H2:=H1.put (C:=[]) (d:=x) (y:=.one (.v (.int .i64 (zs.getD k 0)))) (u:=.int .i64 (zs.getD k 0)) hxn (λt e he l hl=>by rw[(wg y t e he).1] at hl;cases hl) (λl hl=>by cases hl) (λ_=>⟨tv,tv⟩) ⟨λ_=>rfl,λq=>(q λl hl=>by cases hl).elim⟩;have O2:lH (m.jM.wh kp A) n (adB x (zs.getD k 0) (acc y)) (a.put (az x) (.int .i64 (zs.getD k 0))) W:=by
        refine⟨⟨A,S,H2⟩,λt e he=>?_,λj q=>q⟩;have he:ua (p7 (acc y)) x (az ⟨[],.one (.v (.int .i64 (zs.getD k 0)))⟩) t=az e:=he
        by_cases q:x=t
        .subst q;rw[nM] at he;cases he;rfl
        rw[tA q] at he;exact(wg y t e he).1
       have h8:=c8 y (zs.getD k 0);have pg:=round k y;cases hE:rT P T [] n B [.run (pt++[0])] (adB x (zs.getD k 0) (acc y)) with
       |none=>rw[hE] at h8;cases h8
       |some ex=>
       rw[hE] at h8 pg;unfold adD at h8;simp only[bB] at h8;have⟨a1,a2,a3,a4⟩:=h8;have a1:=anF.1 a1;have a2:=anF.1 a2;have a3:ex.st=[]:=by cases G9:ex.st<;>rw[G9] at a3<;>first|rfl|cases a3
       have G1:=(go (mo:=⟨az (w.heap.size+1),[]⟩) (T:=T) (B:=B) (st:=[.run (pt++[0])]) (pr:=av) (Q:=λe a1 w1=>e= .normal/\lH (m.jM.wh kp A) n ex.σ a1 w1) [] O2 tv
        (λa w h=>by rw[hE] at h ⊢;show At _ P T B _ ex.st a w;rw[a3];exact⟨⟨rfl,h⟩⟩) (by rw[hE];rfl) (by rw[hE];show Cm ex.cs=av;rw[a1];rfl) (λA w=>by rw[hE];show ex.hs.map _=_;rw[show xH (az ex)=ex.hs from rfl,a2];rfl)).get
       have G1:(sub B (pt++[0])).qP ⟨az (w.heap.size+1),[]⟩ P (λe a1 w1=>e= .normal/\lH (m.jM.wh kp A) n ex.σ a1 w1) (a.put (az x) (.int .i64 (zs.getD k 0))) W:=by
        refine qv G1 λe a w h=>?_;cases e with
        |normal=>exact h
        |_=>exact h
       rw[lJ,pG,GH] at G1;rw[Uo];refine qv G1 ?_;rintro e a1' w1 ⟨rfl,hq⟩;obtain⟨⟨A1,S1,K2⟩,ch1,_⟩:=hq;have m1:=m.next K2.jM K2.lq K2.wj.2;have uB:=(m.lone m.l1 K2.jM).2.trans hl;have hD1:=(m.lone m.d1 K2.jM).2.trans hD;have hk1:nC S0 w w1:=λi hi=>(m.keeps K2.jM i hi).trans (hk i hi);refine⟨rfl,_,run_beginRound uB (by rw[Ai]),?_⟩;have m2:=m1.put (.loop {rec .ready aA with state:=.busy}) (by omega);have rI:(w1.putObj (w.heap.size+1) (.loop {rec .ready aA with state:=.busy})).heap[w.heap.size+1]?=az (.loop {rec .ready aA with state:=.busy}):=apF m1.l1.2.2.2;have hD2:(w1.putObj (w.heap.size+1) (.loop {rec .ready aA with state:=.busy})).heap[w.heap.size]?=az (.deferred (az [])):=(eP (by omega)).trans hD1;have hk2:=Jr (.loop {rec .ready aA with state:=.busy}) hk1 hSl;have H3:kW (m2.jM.wh kp A1) n A1 S1 (· <ex.σ.nx) (p7 ex.σ) (mH ex.σ) a1' _:=
        ⟨K2.size,K2.lK,K2.env,K2.rH,m2.lq,m2.jM.Z1 kp A1,λj x hj=>oh (sw a4 hj),⟨K2.wj.1,lQ.refl _ _⟩⟩
       have B2:=(pg (m2.jM.wh kp A1).toOrig (m2.jM.wh kp A1).G (m2.jM.wh kp A1).gS (m2.jM.wh kp A1).gin A1 (w.heap.size+1) a1' _ (λe a3 w3=>e= .normal/\∃y',Inv (k+1) y'/\lH (m2.jM.wh kp A1) n (Oa (acc y')) a3 w3)
        (λy' nU _ _ _ hk Cx h2 h3 h4=>⟨rfl,y',Cx,ud nU hk rfl h2 h3 h4⟩) rG hi ⟨⟨A1,S1,H3⟩,ch1,λj q=>q⟩).get
       have B2:(sub B (pt++[1])).qP ⟨az (w.heap.size+1),[]⟩ P (λe a3 w3=>e= .normal/\∃y',Inv (k+1) y'/\lH (m2.jM.wh kp A1) n (Oa (acc y')) a3 w3) a1' (w1.putObj (w.heap.size+1) (.loop {rec .ready aA with state:=.busy})):=by
        refine qv B2 λe a w h=>?_;cases e with
        |normal=>exact h
        |_=>exact h
       rw[lJ,pG,GI] at B2;refine qv B2 ?_;rintro e a3 w3 ⟨rfl,y',Cx,⟨A3,S3,K4⟩,_,_⟩;have m3:MS o kp A0 S0 (w.heap.size+1) w.heap.size (acc y') A3 S3 w3:=m2.next (σ2:=acc y') K4.jM K4.lq K4.wj.2;have Az:=(m2.lone m2.l1 K4.jM).2.trans rI;have hD3:=(m2.lone m2.d1 K4.jM).2.trans hD2;have hk3:nC S0 w w3:=λi hi=>(m2.keeps K4.jM i hi).trans (hk2 i hi);refine⟨_,_,run_endRound (P:=P) aA Az,rfl,y',A3,S3,Cx,m3.put _ (by omega),Jr _ hk3 hSl,?_,(eP (by omega)).trans hD3⟩;rw[apF m3.l1.2.2.2,Ai];rfl
      ·
       rw[hJ];have hS:∀k,S0 k->k<w.heap.size:=H.jM.pT;have lU:∀j r b,jL A0 (mH (acc y0)) j=az r->r.has b->b<w.heap.size:=λj r b q1 q2=>(H.jM.own j r b q1 q2).2.1;have amE:=H.jM.sJ.size;refine⟨y0,A0,S0,hI,⟨H.jM.on LY,H.lq,lQ.refl _ _,λk hk=>⟨λj r q1 q2=>(H.jM.own j r k q1 q2).2.2 hk,by have:=hS k hk;omega⟩,⟨.inl (by omega),λq=>by have:=hS _ q;omega,λj r q1 q2=>by have:=lU j r _ q1 q2;omega,by omega⟩,
        ⟨.inl (by omega),λq=>by have:=hS _ q;omega,λj r q1 q2=>by have:=lU j r _ q1 q2;omega,by omega⟩⟩,λk hk=>LY.block k (hS k hk),hL1,mR⟩
      rw[hJ];rintro e W2 ⟨⟨v,rfl⟩,y,A,S,hi,m,hk,hl,hD⟩;refine⟨aA,W2.putObj (w.heap.size+1) (.loop {rec .ready aA with state:=.exhausted}),by have:=run_endLoop (P:=P) hl (by rw[Ai];simp);rw[Ai] at this ⊢;exact this,?_⟩;have m4:=m.put (.loop {rec .ready aA with state:=.exhausted}) (by omega);have hD4:(W2.putObj (w.heap.size+1) (.loop {rec .ready aA with state:=.exhausted})).heap[w.heap.size]?=az (.deferred (az [])):=(eP (by omega)).trans hD;refine⟨lG a [cD w.heap.size],QF H.lK _ _,xh _ _ _ _ hg.2 (after y w.heap.size a _ hi (m4.fin H np (c1 y) c2 (c3 y) (c4 y) c5 hD4)).get⟩
     cases DG
    cases DG
   cases DG
  cases DG
 cases DG
theorem rg_ (k:Q .normal a w)(ht:ahf st=aC:=by kernel_rfl):At mo P T B Q st a w:=by
 unfold ahf at ht;split at ht
 .exact⟨k⟩
 cases ht
def AA:aa ah->oL->oL
 |[],Q=>Q
 |D::Ds,Q=>adA D (AA Ds Q)
theorem GJ:∀ {Ds:aa ah} {e:Exit} {a:Act} {w:aN},AA Ds Q e a w↔Q e (lG a (Ds.map cD)) w
 |[],e,a,w=>by rw[cC,yS];exact Iff.rfl
 |D::Ds,e,a,w=>by
  show AA Ds Q e (lG a [cD D]) w↔_;rw[GJ,Fs];rfl
def Ln (σ:mX)(j:ah):mX:=⟨σ.env,(j,aA)::σ.rs,σ.nx⟩
def lkD:aa ah->aa ah->mX->Prop
 |[],[],_=>av
 |j::js,D::Ds,σ=>mH σ j=az (.ext (.Ia D))/\lkD js Ds (Ln σ j)
 |_,_,_=>False
theorem und {D j:ah}(h:lH o n σ a w)(hj:mH σ j=az (.ext (.Ia D))):w.heap[D]?=az (.deferred (az []))/\lH o n (Ln σ j) a (w.putObj D (.deferred aA)):=by
 obtain⟨⟨A,S,H⟩,h0,np⟩:=h;have hm:jL A (mH σ) j=az (Ws D):=by show(mH σ j).map _=_;rw[hj];rfl
 refine⟨H.jM.ok j _ hm,⟨A,S,?_⟩,h0,np⟩;exact H.Rh j aA (λy e=>by cases e) (λy e=>by cases e) (H.jM.mut j hm ⟨rfl,rfl,rfl,by rw[an7];exact aW _,λk _ hn=>eP λe=>hn e⟩)
theorem zZ {fn:Func}{R:bY->aN->Prop}{l:aa cR}{u:FrameMode}(hu:u≠.run):∀ {js Ds:aa ah} {σ:mX} {w:aN},lH o n σ a w->lkD js Ds σ->(∀w',lH o n (js.foldl Ln σ) a w'->LeavesInM bK 2 P fn a.tmps R l u w')->LeavesInM bK 2 P fn a.tmps R (Ds.map cD++l) u w
 |[],[],σ,w,h,_,k=>k w h
 |j::js,D::Ds,σ,w,h,hl,k=>by
  obtain⟨h1,h2⟩:=und h hl.1;exact⟨hu,.inl ⟨D,_,rfl,run_takeDeferred h1,zZ hu h2 hl.2 k⟩⟩
 |[],_::_,_,_,_,hl,_=>hl.elim
 |_::_,[],_,_,_,hl,_=>hl.elim
theorem QG {o:Orig}{fn:Func}{rs:aa Ty}{y:pq rs}{R:bY->aN->Prop}(h:lH (jO.of o) n σ a w)(hR:∀e w',He o (λS v w'=>qN S w' rs v y) e w'->R e w')(hy:XY P fn rs σ=az ⟨y⟩):LeavesInM bK 2 P fn a.tmps R [] .returning w:=by
 obtain⟨⟨A,S,H⟩,h0⟩:=h;obtain⟨ys,h1,hy⟩:=wM H hy;obtain⟨h2,hy⟩:=yW hy;obtain⟨x,h3,hy⟩:=CN H (T':=yA o w) (λk hk=>BJ hk) (λc hc j hj z hz=>(yL H h2 c hc j hj z hz).up λk hk=>BJ hk) hy;have hx:x=y:=by have:=b5 hy;exact bh ULift.down this
 subst hx;exact⟨_,vJ (ys:=ys.map (Sy.den A)) h1,hR _ _ ⟨_,rfl,PM h3,FB H.jM.sJ⟩⟩
theorem Oc {mo:Mode}(k:∀e,(e= .normal\/e= .ret)->Q e a w)(ht:FA B st=aC):At mo P T B Q st a w:=by
 unfold FA at ht;split at ht
 .rename_i p r;refine⟨?_⟩;show(sub B p).qP mo P (post mo P B Q r) a w;have hc:sub B p= .ret:=by
   cases hc:sub B p<;>rw[hc] at ht<;>first|rfl|cases ht
  rw[hc];exact Ep (u7 (k _ (.inr rfl)))
 .exact⟨k _ (.inl rfl)⟩
 cases ht
theorem akm {o:Orig}{fn:Func}{rs:aa Ty}{fx:pq rs}(js Ds:aa ah)(y:pq rs)(h:lH (jO.of o) n σ a w)(e:y=fx)(hl:lkD js Ds σ:=by first|exact tv|exact⟨by kernel_rfl,tv⟩|exact⟨by kernel_rfl,by kernel_rfl,tv⟩)(ht:FA B st=aC:=by kernel_rfl)(hy:XY P fn rs (js.foldl Ln σ)=az ⟨y⟩:=by kernel_rfl):At ⟨aA,Ds.map cD⟩ P T B (AA Ds (bodyPostM bK 2 P fn (He o λS v w'=>qN S w' rs v fx))) st a w:=by
 subst e;refine Oc (λe he=>?_) ht;rw[GJ];have:LeavesInM bK 2 P fn (lG a (Ds.map cD)).tmps (He o λS v w'=>qN S w' rs v y) (lG a (Ds.map cD)).defers .returning w:=by
  show LeavesInM bK 2 P fn a.tmps _ (a.defers++Ds.map cD) .returning w;rw[h.ok.choose_spec.choose_spec.lK,dK,<-bW (Ds.map cD)];exact zZ (by simp) h hl λw' h'=>QG h' (λ_ _ q=>q) hy
 rcases he with rfl|rfl<;>exact this
def akn (P:aY)(f:bI)(lS:aa (ak×Ty))(rF:pW lS->Prop)(R:Orig->pW lS->bY->aN->Prop):Prop:=
 ∀(o:Orig) (vs:aa aO) (x:pW lS),Bx o.S (· <o.w.heap.size) o.w lS vs x->rF x->aI P f vs.toArray o.w (R o x)
theorem SZ {f:bI}(fn:Func)(n:ah)(T:aa (lM P)){lS:aa (ak×Ty)}{rF:pW lS->Prop}{R:Orig->pW lS->bY->aN->Prop}(hf:P.funcs[f]?=az fn)
  (k:∀(o:Orig) (x:pW lS),rF x->∀a w,lH (jO.of o) n (st0 lS x) a w->At ⟨aA,([]:aa ah).map cD⟩ P T (fn.body.getD .skip) (AA [] (bodyPostM bK 2 P fn (R o x))) [.run []] a w)
  (hb:fn.body.isSome=aC:=by kernel_rfl) (hn:fn.ntmps=n:=by kernel_rfl) (hl:aE (lS.length<=n)=aC:=by kernel_rfl):akn P f lS rF R:=by
 intro o vs x hx JX;have hlen:=zH hx;refine XI fn n hf (λa ha=>?_) hb hn (by rw[hlen];exact hl);obtain⟨A,h1,h2,h3,h5,h4⟩:=zG (o:=jO.of o) lS x vs 0 Wt (λ_=>False) (yX (λk hk=>⟨hk,λq=>q⟩) hx) λ_ _ q=>q;have r7:∀t e,p7 (st0 lS x) t=az e->e.ch=[]/\∃y,(mO lS x 0).1[t]?=az y/\e=⟨[],y⟩:=λt e he=>by
  obtain⟨_,y,q1,q2⟩:=uK he;exact⟨by rw[q2],y,by simpa using q1,q2⟩
 have H0:kW (jO.of o) n A o.S (λ_=>False) (λ_=>aA) (λ_=>aA) a o.w:=⟨ha.1,ha.2.1,λ_ _ q=>(by cases q),λ_ _ q=>(by cases q),λ_ _ q=>(by cases q),oz.start (jO.of o),λ_ _ q=>(by cases q),⟨λ_ q=>q.elim,λ_ q=>q.elim⟩⟩;have H1:=H0.ro (lQ.refl _ _) h3;have hle:∀j,FU (λ_=>False) (mO lS x 0).2 j->j<(mO lS x 0).2.length:=λj hj=>by
  rcases hj with hj|⟨z,hz⟩
  .exact hj.elim
  have:=h5 _ hz;simpa using this
 have ue:lH (jO.of o) n (st0 lS x) a o.w:=by
  refine⟨⟨A,o.S,H1.size,H1.lK,λt e he=>?_,λt e he _=>?_,λj y hj=>?_,H1.jM,H1.args,⟨λ_ q=>q.elim,λ_ q=>q.elim⟩⟩,λt e he=>(r7 t e he).1,λ_ q=>q.elim⟩
  .obtain⟨_,y,q1,rfl⟩:=r7 t e he;have hv:vs[t]?=az (y.den A):=by rw[<-h2,cY,q1];rfl
   have MU:=(cF.1 hv).1;refine ha.2.2 ⟨t,[],y.den A⟩ (bz.2 ⟨(t,y.den A),?_,rfl⟩);refine List.mem_iff_getElem?.2 ⟨t,?_⟩;rw[List.getElem?_zip_eq_some];exact⟨by simp[MU],hv⟩
  .obtain⟨_,y,q1,rfl⟩:=r7 t e he;have:=h4 y (List.mem_of_getElem? q1);exact⟨Sy.mono hle this.1,this.2⟩
  have:=H1.lq j y hj;exact⟨hle j this.1,R2.mono hle this.2.1,this.2.2⟩
 have:=(k o x JX a o.w ue).get;have this:(sub (fn.body.getD .skip) []).qP pl P (post pl P (fn.body.getD .skip) (bodyPostM bK 2 P fn (R o x)) []) a o.w:=this;exact this
theorem adG {f:bI}(fn:Func)(n:ah)(T:aa (lM P)){lS:aa (ak×Ty)}{rs:aa Ty}{rF:pW lS->Prop}{fx:pW lS->pq rs}(hf:P.funcs[f]?=az fn)
  (k:∀(o:Orig) (x:pW lS),rF x->∀a w,lH (jO.of o) n (st0 lS x) a w->At ⟨aA,([]:aa ah).map cD⟩ P T (fn.body.getD .skip) (AA [] (bodyPostM bK 2 P fn (He o λS v w'=>qN S w' rs v (fx x)))) [.run []] a w)
  (hb:fn.body.isSome=aC:=by kernel_rfl) (hn:fn.ntmps=n:=by kernel_rfl) (hl:aE (lS.length<=n)=aC:=by kernel_rfl):kr P f lS rs rF fx:=
 SZ (R:=λo x=>He o λS v w'=>qN S w' rs v (fx x)) fn n T hf k hb hn hl
end
def QH (P:aY)(d:cR):Prop:=∀w,∃fv cap f args,d.target= .fn fv cap/\(invoke d.target d.args).run P w= .ok (.enter f args) w/\CallsDIn bK 1 P f args .returning w λe u w'=>(∃v,e= .returned v)/\u= .returning/\w'=w
section
variable {mo:Mode}{P:aY}{o:jO}{n:ah}{σ:mX}{a:Act}{w:aN}{T:aa (lM P)}{B:Code}{Q:oL}{st:aa It}
theorem afn {Ds:aa ah}{d:cR}{fn:Func}{R:bY->aN->Prop}{e:Exit}{u:FrameMode}(he:(e= .normal\/e= .ret)/\u= .returning\/∃ch,e= .panic ch/\u= .panicking ch)(hnd:a.defers=[])(h:LeavesInM bK 2 P fn a.tmps R (Ds.map cD++[d]) u w):AA Ds (HI d (bodyPostM bK 2 P fn R)) e a w:=by
 rw[GJ];have:LeavesInM bK 2 P fn (lG (lG a (Ds.map cD)) [d]).tmps R (lG (lG a (Ds.map cD)) [d]).defers u w:=by
  show LeavesInM bK 2 P fn a.tmps _ ((a.defers++Ds.map cD)++[d]) u w;rw[hnd];exact h
 rcases he with⟨rfl|rfl,rfl⟩|⟨ch,rfl,rfl⟩<;>exact this
theorem ahh {d:cR}{fn:Func}{R:bY->aN->Prop}{ts:aq aO}(hd:QH P d)(h:LeavesInM bK 2 P fn ts R [] .returning w):LeavesInM bK 2 P fn ts R [d] .returning w:=by
 obtain⟨fv,cap,f,args,q1,q2,q3⟩:=hd w;refine⟨by simp,.inr ⟨(λz=>by cases z),fv,cap,f,args,q1,q2,λ_ _=>trivial,q3.mono ?_⟩⟩;rintro e u w2 ⟨⟨v,rfl⟩,rfl,rfl⟩;exact h
end
def S5 (q:ah):aa (ah×ai R2)->ai (ai R2)
 |[]=>aA
 |p::l=>match bp p.1 q with
  |true=>az p.2
  |false=>S5 q l
def S6 (q:ah)(l:aa (ah×ai R2)):aa (ah×ai R2):=l.filter λp=>!Nat.beq p.1 q
def Z4 (b:ah):aa ah->Out->Tr Out
 |[],out=>.ret out
 |q::qs,out=>.res q λz=>match S5 q out.re,bP q b with
  |some (az z'),aC=>Z4 b qs ⟨out.cs++[z'=z],out.hs,out.sy,S6 q out.re⟩
  |_,_=>.fail
def ako:Sc->aa ah
 | .mp q=>[q]
 | .own q=>[q]
 |_=>[]
def Z5 (tr:ah->aa (ah×ah)->aa Sy->Tr Out)(ks:aa ah)(b:ah)(kH:aa (ah×ah))(ys:aa Sy):Tr Out:=match ys with
 | .one (.ptr j 0)::_=>.res j λz=>match z with
  | .box _ cs=>(tr b kH ys).bind (Z4 b (j::ks.flatMap λk=>match cs[k]? with|some c=>ako c|none=>[]))
  |_=>.fail
 |_=>.fail
section
variable {P:aY}{o:jO}{n:ah}{A A':jU}{S S':jv}{F G:ah->Prop}{s:ah->ai E2}{r:ah->ai R2}{a:Act}{w w':aN}
theorem Js {q:ah}{x:ai R2}:∀ {l:aa (ah×ai R2)},S5 q l=az x->jB r l q=x/\∃x,(q,x)∈l
 |[],h=>by cases h
 |p::l,h=>by
  unfold S5 at h;show sG (jB r l) p.1 p.2 q=x/\_;split at h
  .rename_i e;have:=j9 e;subst this;cases h;exact⟨mu _ _ _,_,aZ⟩
  rename_i e;obtain⟨h1,y,h2⟩:=Js h;exact⟨by rw[m9 (WM e)];exact h1,y,bl _ h2⟩
theorem Jt {q:ah}:∀(l:aa (ah×ai R2)) (j:ah),jB r (S6 q l) j=if j=q then r q else jB r l j
 |[],j=>by
  show r j=_;split
  .rename_i e;rw[e]
  rfl
 |p::l,j=>by
  have ih:=Jt (q:=q) l;unfold S6 at ih ⊢;rw[ao2];show _=if j=q then r q else sG (jB r l) p.1 p.2 j
  by_cases e:p.1=q
  .have:bp p.1 q=aC:=by rw[e];exact Nat.beq_refl _
   rw[this];show jB r (l.filter _) j=_;rw[ih]
   by_cases z:j=q
   .rw[aQ z,aQ z]
   rw[aP z,aP z,m9 (by omega)]
  have:bp p.1 q=aD:=by
   cases hb:bp p.1 q with
   |false=>rfl
   |true=>exact ay (j9 hb) e
  rw[this];show sG (jB r (l.filter _)) p.1 p.2 j=_
  by_cases z:p.1=j
  .rw[<-z,mu,aP e,mu]
  rw[m9 z,ih]
  by_cases y:j=q
  .rw[aQ y,aQ y]
  rw[aP y,aP y,m9 z]
theorem Od (H:kW o n A S F s r a w){b B:ah}(hF:∀j,b<=j->j<B->¬F j):∀ {qs:aa ah} {Cd out:Out},(Z4 b qs Cd).run s r=az out->(∀p∈out.cs,p)->(∀p∈out.re,p.1<B\/p.1<b)->
  (∀p∈Cd.cs,p)/\Cd.hs=out.hs/\(∀p∈Cd.re,p.1<B\/p.1<b)/\Cd.sy=out.sy/\jB r Cd.re=jB r out.re/\∀j,FU F Cd.re j↔FU F out.re j
 |[],Cd,out,h,hc,hB=>by
  have:=jH h;subst this;exact⟨hc,rfl,hB,rfl,rfl,λ_=>Iff.rfl⟩
 |q::qs,Cd,out,h,hc,hB=>by
  obtain⟨z,hz,h⟩:=jI h;split at h
  .rename_i z' hl hb;obtain⟨h1,h2,h3,h4,h5,h6⟩:=Od H hF h hc hB;have e:z'=z:=h1 _ (bV _ (aU.2 rfl));obtain⟨k1,x,k2⟩:=Js (r:=r) hl;have Ie:F q:=(H.lq q z hz).1;have rG:q<b:=by simpa[cw] using hb
   refine⟨λp hp=>h1 p (bU _ hp),h2,λp hp=>?_,h4,?_,λj=>?_⟩
   .by_cases y:p.1=q
    .exact .inr (by omega)
    refine h3 p (bX.2 ⟨hp,?_⟩);cases hb:bp p.1 q with
    |false=>rfl
    |true=>exact ay (j9 hb) y
   .rw[<-h5];funext j;show jB r Cd.re j=jB r (S6 q Cd.re) j;rw[Jt];split
    .rename_i y;rw[y,k1,e,hz]
    rfl
   rw[<-h6];constructor
   .rintro(y|⟨x,y⟩)
    .exact .inl y
    by_cases z:j=q
    .exact .inl (z▸Ie)
    refine .inr ⟨x,bX.2 ⟨y,?_⟩⟩;cases hb:bp j q with
    |false=>rfl
    |true=>exact ay (j9 hb) z
   rintro(y|⟨x,y⟩)
   .exact .inl y
   exact .inr ⟨x,(bX.1 y).1⟩
  cases h
theorem adH {f:bI}{tr:ah->aa (ah×ah)->aa Sy->Tr Out}(ok:yM P f tr)(ks:aa ah):yM P f (Z5 tr ks):=by
 intro o n A S F s r a w b B kH ys out H hF Pn yc h kO qG hB;unfold Z5 at h;split at h
 .rename_i j ys';obtain⟨z,hz,h⟩:=jI h;split at h
  .obtain⟨Cd,h0,h1⟩:=Tr.yQ h;obtain⟨k1,k2,k3,k4,k5,k6⟩:=Od H hF h1 kO λp hp=>.inl (hB p hp);refine(ok o n A S F s r a w b (max B b) kH _ Cd H (λj h1 h2=>hF j h1 (by omega)) Pn yc h0 k1 (by rw[k2];exact qG) λp hp=>by have:=k3 p hp;omega).mono ?_;rintro e w' ⟨v,he,A',S',g1,g2,g3,g4⟩;have hFU:FU F Cd.re=FU F out.re:=funext λj=>propext (k6 j);rw[hFU,k5] at g1;rw[k4] at g2 g3 g4;rw[hFU] at g3;exact⟨v,he,A',S',g1,g2,g3,g4⟩
  cases h
 cases h
def thin (c:lM P)(ks:aa ah):lM P:=⟨c.f,Z5 c.tr ks,adH c.ok ks⟩
end
theorem Vo {t:Ty}(l:aa (aa (El t))):oW (.list t) l=l.map (.l t ·):=by
 induction l with
 |nil=>rfl
 |cons x l ih=>show .l t x::oW (.list t) l=_;rw[ih];rfl
section
variable {o:jO}{n:ah}{A A':jU}{S S':jv}{F:ah->Prop}{σ:mX}{a:Act}{w:aN}{v:aO}{f:Lit->aO}{e ie:aV}{ty:Ty}
theorem Ce (l:aa (aa (El ty)))(d:ah):(oW (.list ty) l)[d]?=(l[d]?).map (uT.l ty):=(bh (λz:aa uT=>z[d]?) (Vo l)).trans cY
theorem le1 {l:aa (aa (El ty))}{c:ah}(h:c<l.length):c<e8 (α:=El (.list ty)) l*jD (.list ty):=aqn h (dy _).symm
theorem el1 {l:aa (aa (El ty))}{c:ah}(h:c<e8 (α:=El (.list ty)) l*jD (.list ty)):c<l.length:=aqn h (dy _)
theorem Oe {h:ai ah}{l:aa (aa (El ty))}(H:ot S w v f h e (.list ty) ie l):∃xs,oM w e 1 v l.length xs/\(∀u∈xs,u.oneCell'=aC)/\∀d (hd:d<l.length),h≠az d->xs[d]?=az (f (ix d))/\mI S w ie (f (ix d)) l[d]:=by
 have⟨xs,h1,h2,h3⟩:=H.row;exact⟨xs,h1,h2,λd hd hh=>h3 d (.l ty l[d]) ((Ce l d).trans (by rw[bN hd];rfl)) hh⟩
theorem Z6 {l:aa (aa (El ty))}(H:∃xs,oM w e 1 v l.length xs/\(∀u∈xs,u.oneCell'=aC)/\∀d (hd:d<l.length),xs[d]?=az (f (ix d))/\mI S w ie (f (ix d)) l[d])
  (hi:∀c d b,c<l.length->d<l.length->(f (ix c)).ownBlock=az b->(f (ix d)).ownBlock=az b->c=d) (ho:∀c b,c<l.length->(f (ix c)).ownBlock=az b->v.ownBlock≠az b):ot S w v f aA e (.list ty) ie l:=by
 obtain⟨xs,h1,h2,h3⟩:=H;refine⟨⟨xs,h1,h2,λc x hc _=>?_⟩,λc d b h1 h2 _ _=>hi c d b (el1 h1) (el1 h2),λc b h1 _=>ho c b (el1 h1)⟩;obtain⟨z,hz,rfl⟩:=bF.1 ((Ce l c).symm.trans hc);obtain⟨hd,rfl⟩:=cF.1 hz;exact h3 c hd
theorem Dk {ts:aa ah}{k t:ah}{e:E2}(h:mN (p7 σ) (ts.map λt=>(t,az ⟨[],.one (.own k)⟩)) t=az e):p7 σ t=az e\/(t∈ts/\e=⟨[],.one (.own k)⟩):=by
 rcases uJ h with h|h
 .exact .inl h
 obtain⟨u,hu,q⟩:=bz.1 h;cases q;exact .inr ⟨hu,rfl⟩
theorem amF (j q:ah)(i:af)(e:aV)(ty:Ty)(ie:aV)(l:aa (aa (El ty)))(ts:aa ah)(h:lH o n σ a w)(hi:0<=i/\i<(aM l:af))(hj:mH σ j=az (.ext (.nest q aA e (.list ty) ie l)):=by kernel_rfl)
  (ht:ts.map (p7 σ)=ts.map (λ_=>az ⟨[],.one (.hd j q (.el i 1 0))⟩):=by kernel_rfl):
  lH o n ⟨(ts.map λt=>(t,az ⟨[],.one (.own σ.nx)⟩))++σ.env,(j,az (.ext (.nb q σ.nx i.toNat e ty ie l)))::(σ.nx,az (.row ie ty (l.getD i.toNat [])))::σ.rs,σ.nx+1⟩ a w:=by
 obtain⟨⟨A,S,H⟩,h0,np⟩:=h;have TR:i.toNat<l.length:=by omega
 have hm:jL A (mH σ) j=az (AG (A.v j) (A.f q) aA e (.list ty) ie l):=by show(mH σ j).map _=_;rw[hj];rfl
 have hN:ot S w (A.v j) (A.f q) aA e (.list ty) ie l:=H.jM.ok j _ hm;obtain⟨Co,Ie,_⟩:=H.lq j _ hj;have Ie:q<σ.nx:=Ie;obtain⟨xs,k1,k2,k3⟩:=Oe hN;have k3:∀d (hd:d<l.length),xs[d]?=az (A.f q (ix d))/\mI S w ie (A.f q (ix d)) l[d]:=λd hd=>k3 d hd (by simp);have MF:∀c d b,c<l.length->d<l.length->(A.f q (ix c)).ownBlock=az b->(A.f q (ix d)).ownBlock=az b->c=d:=λc d b h1 h2=>hN.inj c d b (le1 h1) (le1 h2) (by simp) (by simp);have qH:∀c b,c<l.length->(A.f q (ix c)).ownBlock=az b->(A.v j).ownBlock≠az b:=λc b h1=>hN.out c b (le1 h1) (by simp);obtain⟨ys,z1,z2⟩:=(k3 _ TR).2;have⟨p,c,hv,_,_⟩:=z1.slice;have hA:lQ (· <σ.nx) A (A.set σ.nx p l[i.toNat].length c 0):=lQ.set (F:=λx=>x<σ.nx) (j:=σ.nx) (Nat.lt_irrefl _) _ _ _ _;generalize hA2:A.set σ.nx p l[i.toNat].length c 0=A2 at hA;have ek:A2.v σ.nx=A.f q (ix i.toNat):=by rw[<-hA2,jU.tL];exact hv.symm
 have hg:l.getD i.toNat []=l[i.toNat]:=by rw[bD,bN TR];rfl
 have Hr:∀c,(AG (A.v j) (A.f q) aA e (.list ty) ie l).has c->oD A (mH σ) (λx=>x=j) c:=λc hc=>⟨j,_,rfl,hj,hc⟩;have pX:∀b,(A.f q (ix i.toNat)).ownBlock=az b->oD A (mH σ) (λx=>x=j) b:=λb hb=>Hr b (.inr ⟨i.toNat,le1 TR,by simp,hb⟩);have hnb:∀b,(af9 (A2.v j) (A2.v σ.nx) (A2.f q) i.toNat e ie l).has b->oD A (mH σ) (λx=>x=j) b/\(A.f q (ix i.toNat)).ownBlock≠az b:=λb hb=>by
  rcases(show(A2.v j).ownBlock=az b\/∃c,c<l.length/\c≠i.toNat/\(A2.f q (ix c)).ownBlock=az b from hb) with hb|⟨c,q1,q2,q3⟩
  .rw[<-(hA j Co).1] at hb;exact⟨Hr b (.inl hb),λz=>qH _ _ TR z hb⟩
  rw[<-(hA q Ie).2.2.1] at q3;exact⟨Hr b (.inr ⟨c,le1 q1,by simp,q3⟩),λz=>q2 (MF _ _ _ q1 TR q3 z)⟩
 have Kt:=H.swap hA (re:=[(j,az (.ext (.nb q σ.nx i.toNat e ty ie l))),(σ.nx,az (.row ie ty (l.getD i.toNat [])))]) (w':=w) (S':=S) (λx=>x=j) (λx hx=>by rw[show x=j from hx];exact⟨_,aZ⟩) (rE.refl _ _) (λ_ q=>q) (λ_ q=>.inl q) (λx z hz=>by
  rcases bg.1 hz with ez|hz
  .cases ez;refine⟨⟨.inl Ie,.inr ⟨_,bl _ aZ⟩⟩,tv,rfl,?_,λc hc=>?_⟩
   .show Wq S w (A2.v j) (A2.v σ.nx) (A2.f q) i.toNat e ie l;rw[ek,<-(hA j Co).1,<-(hA q Ie).2.2.1];exact⟨⟨xs,k1,k2,λd hd=>⟨(k3 d hd).1,λ_=>(k3 d hd).2⟩⟩,MF,qH,rfl⟩
   have:=(hnb c hc).1;exact⟨.inl this,(H.sX this).2.1⟩
  .cases aU.1 hz;refine⟨tv,tv,rfl,?_,λc hc=>?_⟩
   .show mI S w ie (A2.v σ.nx) (l.getD i.toNat []);rw[ek,hg];exact(k3 _ TR).2
   have hc:(A2.v σ.nx).ownBlock=az c:=hc;rw[ek] at hc;exact⟨.inl (pX c hc),(H.sX (pX c hc)).2.1⟩) (λx y zx zy c hx hy ex ey=>by
  have key:∀c,(R2.den A2 σ.nx (.row ie ty (l.getD i.toNat []))).has c->(A.f q (ix i.toNat)).ownBlock=az c:=λc hc=>by
   have hc:(A2.v σ.nx).ownBlock=az c:=hc;rw[ek] at hc;exact hc
  rcases bg.1 hx with e1|hx
  .cases e1;rcases bg.1 hy with e2|hy
   .cases e2;rfl
   cases aU.1 hy;exact((hnb c ex).2 (key c ey)).elim
  cases aU.1 hx;rcases bg.1 hy with e2|hy
  .cases e2;exact((hnb c ey).2 (key c ex)).elim
  cases aU.1 hy;rfl)
 have hF:∀x,FU (· <σ.nx) [(j,az (R2.ext (.nb q σ.nx i.toNat e ty ie l))),(σ.nx,az (.row ie ty (l.getD i.toNat [])))] x->x<σ.nx+1:=λx hx=>by
  rcases hx with hx|⟨z,hz⟩
  .exact aoF hx
  rcases bg.1 hz with ez|hz
  .cases ez;exact aoF Co
  cases aU.1 hz;exact dU _
 have H2:=Kt.agree (lQ.refl _ _) hF;have Hp:∀t∈ts,p7 σ t=az ⟨[],.one (.hd j q (.el i 1 0))⟩:=λt ht'=>List.map_inj_left.1 ht t ht';refine⟨⟨A2,S,H2.size,H2.lK,λt e' he=>?_,λt e' he hc=>?_,H2.lq,H2.jM,H2.args,H2.wj⟩,λt e' he=>?_,np⟩
 .rw[vH] at he;rcases Dk he with he|⟨h1,rfl⟩
  .exact H2.env t e' he
  have:=H.env t _ (Hp t h1);have e2:(Sy.one (.own σ.nx)).den A2=(Sy.one (.hd j q (.el i 1 0))).den A:=by
   show A2.v σ.nx=A.f q (ix (i.toNat*1+0));rw[dy];exact ek
  show HR a ⟨t,[],(Sy.one (.own σ.nx)).den A2⟩;rw[e2];exact this
 .rw[vH] at he;rcases Dk he with he|⟨h1,rfl⟩
  .exact H2.rH t e' he hc
  exact⟨dU _,tv⟩
 rw[vH] at he;rcases Dk he with he|⟨h1,rfl⟩
 .exact h0 t e' he
 rfl
theorem amG (j q k i:ah)(e:aV)(ty:Ty)(ie:aV)(l:aa (aa (El ty)))(m:aa (El ty))(h:lH o n σ a w)(hi:i<l.length)(hj:mH σ j=az (.ext (.nb q k i e ty ie l)):=by kernel_rfl)(hk:mH σ k=az (.row ie ty m):=by kernel_rfl)(hjk:bp j k=aD:=by rfl):
  lH o n ⟨σ.env,(j,az (.ext (.nest q aA e (.list ty) ie (l.set i m))))::(k,aA)::σ.rs,σ.nx⟩ a w:=by
 obtain⟨⟨A,S,H⟩,h0,np⟩:=h;have hm:jL A (mH σ) j=az (af9 (A.v j) (A.v k) (A.f q) i e ie l):=by show(mH σ j).map _=_;rw[hj];rfl
 have hmk:jL A (mH σ) k=az (yF ie (A.v k) m):=by show(mH σ k).map _=_;rw[hk];rfl
 have hN:Wq S w (A.v j) (A.v k) (A.f q) i e ie l:=H.jM.ok j _ hm;have hR:mI S w ie (A.v k) m:=H.jM.ok k _ hmk;obtain⟨Co,Ie,_⟩:=H.lq j _ hj;obtain⟨hFk,_⟩:=H.lq k _ hk;have⟨xs,k1,k2,k3⟩:=hN.row;have e1:(l.set i m).length=l.length:=List.length_set;have yB:ot S w (A.v j) (A.f q) aA e (.list ty) ie (l.set i m):=by
  refine Z6 ⟨xs,by rw[e1];exact k1,k2,λd hd=>?_⟩ (λc d b h1 h2=>hN.inj c d b (by rwa[e1] at h1) (by rwa[e1] at h2)) (λc b h1=>hN.out c b (by rwa[e1] at h1));have hd':d<l.length:=by rwa[e1] at hd
  refine⟨(k3 d hd').1,?_⟩
  by_cases q:i=d
  .subst q;rw[List.getElem_set_self,<-hN.eq];exact hR
  rw[List.getElem_set_ne q];exact(k3 d hd').2 λz=>q z.symm
 have Kt:=H.swap (lQ.refl _ _) (re:=[(j,az (.ext (.nest q aA e (.list ty) ie (l.set i m)))),(k,aA)]) (w':=w) (S':=S) (λx=>x=j\/x=k) (λx hx=>by
  rcases hx with rfl|rfl
  .exact⟨_,aZ⟩
  .exact⟨_,bl _ aZ⟩) (rE.refl _ _) (λ_ q=>q) (λ_ q=>.inl q) (λx z hz=>by
  rcases bg.1 hz with ez|hz
  .cases ez;refine⟨.inl Ie.1,tv,rfl,yB,λc hc=>?_⟩;have:oD A (mH σ) (λy=>y=j\/y=k) c:=by
    rcases(show(A.v j).ownBlock=az c\/∃d,d<e8 (α:=El (.list ty)) (l.set i m)*jD (.list ty)/\(aA:ai ah)≠az d/\(A.f q (ix d)).ownBlock=az c from hc) with hc2|⟨d,hd,_,hc2⟩
    .exact⟨j,_,.inl rfl,hj,.inl hc2⟩
    have hd:d<l.length:=aqn (el1 hd) e1
    by_cases q':d=i
    .subst q';exact⟨k,_,.inr rfl,hk,by show(A.v k).ownBlock=az c;rw[hN.eq];exact hc2⟩
    exact⟨j,_,.inl rfl,hj,.inr ⟨d,hd,q',hc2⟩⟩
   exact⟨.inl this,(H.sX this).2.1⟩
  .cases aU.1 hz) (λx y zx zy c hx hy _ _=>by
  rcases bg.1 hx with e1|hx
  .cases e1;rcases bg.1 hy with e2|hy
   .cases e2;rfl
   cases aU.1 hy
  cases aU.1 hx)
 have hF:∀x,FU (· <σ.nx) [(j,az (R2.ext (.nest q aA e (.list ty) ie (l.set i m)))),(k,aA)] x->x<σ.nx:=λx hx=>by
  rcases hx with hx|⟨z,hz⟩
  .exact hx
  rcases bg.1 hz with ez|hz
  .cases ez;exact Co
  cases aU.1 hz;exact hFk
 exact⟨⟨A,S,Kt.agree (lQ.refl _ _) hF⟩,h0,np⟩
theorem amH (j q:ah)(e:aV)(ty:Ty)(ie:aV)(l:aa (aa (El ty)))(h:lH o n σ a w)(hj:mH σ j=az (.ext (.nest q aA e (.list ty) ie l)):=by kernel_rfl):
  lH o n ⟨σ.env,(j,az (.row e (.list ty) l))::σ.rs,σ.nx⟩ a w:=by
 obtain⟨⟨A,S,H⟩,h0,np⟩:=h;have hm:jL A (mH σ) j=az (AG (A.v j) (A.f q) aA e (.list ty) ie l):=by show(mH σ j).map _=_;rw[hj];rfl
 have hN:ot S w (A.v j) (A.f q) aA e (.list ty) ie l:=H.jM.ok j _ hm;obtain⟨Co,Ie,_⟩:=H.lq j _ hj;obtain⟨xs,k1,k2,k3⟩:=Oe hN;have k3:∀d (hd:d<l.length),xs[d]?=az (A.f q (ix d))/\mI S w ie (A.f q (ix d)) l[d]:=λd hd=>k3 d hd (by simp);have MC:xs.length=l.length:=by have:=k1.1;rwa[dy] at this
 have yB:mI (λk=>S k\/∃c,c<l.length/\(A.f q (ix c)).ownBlock=az k) w e (A.v j) l:=by
  refine⟨xs,k1,by show xs.length=l.length*1;rw[MC,dy],λi hi=>?_⟩;have Z7:(xs.drop (i*1)).take 1=[A.f q (ix i)]:=by
   have Cx:i<xs.length:=by omega
   have:=(k3 i hi).1;rw[bN Cx] at this;rw[dy,eE Cx,aoC,dJ,b5 this]
  show Data.rd _ w ((xs.drop (i*1)).take 1) l[i];rw[Z7];refine⟨_,rfl,lz ((mI.rd (k3 i hi).2).up λb hb=>?_)⟩;exact hb.imp id λz=>⟨i,hi,z⟩
 have Hr:∀c,(AG (A.v j) (A.f q) aA e (.list ty) ie l).has c->oD A (mH σ) (λx=>x=j) c:=λc hc=>⟨j,_,rfl,hj,hc⟩;have Kt:=H.swap (lQ.refl _ _) (re:=[(j,az (.row e (.list ty) l))]) (w':=w) (S':=λk=>S k\/∃c,c<l.length/\(A.f q (ix c)).ownBlock=az k) (λx=>x=j) (λx hx=>by rw[show x=j from hx];exact⟨_,aZ⟩) (rE.refl _ _) (λ_ q=>.inl q) (λb hb=>by
  rcases hb with hb|⟨c,hc,hb⟩
  .exact .inl hb
  .have:=Hr b (.inr ⟨c,le1 hc,by simp,hb⟩);refine .inr ⟨.inl this,(H.sX this).2.1,λx z hz=>?_⟩;cases aU.1 hz;exact hN.out c b (le1 hc) (by simp) hb) (λx z hz=>by
  cases aU.1 hz;refine⟨tv,tv,rfl,yB,λc hc=>?_⟩;have:=Hr c (.inl hc);exact⟨.inl this,(H.sX this).2.1⟩) (λx y zx zy c hx hy _ _=>by
  cases aU.1 hx;cases aU.1 hy;rfl)
 have hF:∀x,FU (· <σ.nx) [(j,az (R2.row e (.list ty) l))] x->x<σ.nx:=λx hx=>by
  rcases hx with hx|⟨z,hz⟩
  .exact hx
  cases aU.1 hz;exact Co
 exact⟨⟨A,_,Kt.agree (lQ.refl _ _) hF⟩,h0,np⟩
end
def S7 (P:aY) (f:bI) (ts:aV):Prop:=(∃fn,P.funcs[f]?=az fn/\fn.body.isSome=aC/\(fn.name== "runtime.NumGoroutine")=aD)/\∀(l b:ah) (s:aj) (J:aa (af×aj)->aN->Prop) (Px:aa PanicEntry->aN->Prop) (w:aN),s.size<=1000000000->
 w.heap[b]?=az (.cells #[.string s] ts (0,0))->AbS w.heap.size J->
 (∀(pre:aa (af×aj)) (x:af×aj) (W1:aN),J pre W1->(∃rest,pre++x::rest=nu s)->YieldAt bK 0 P l #[.int .i64 x.1,.string x.2] W1 λe W'=>(e= .returned (.bool aC)/\J (pre++[x]) W'/\KpB b W1 W')\/∃ch,e= .panicked ch/\Px ch W')->
 J [] w->CallsIn bK 0 P f #[.func (.yield l) #[] #[],.pointer (az ⟨b,0,aA⟩)] w λe W'=>((∃v,e= .returned v)/\J (nu s) W')\/∃ch,e= .panicked ch/\Px ch W'
def S8 (S:jv)(w:aN):jv:=λk=>S k/\∀s p,w.heap[k]?≠az (dW s p)
section
variable {S:jv}{w:aN}
theorem Of {g:ah}{cur:aq aO}{t:aV}{fz:ah×ah}(hS:S g)(h:w.heap[g]?=az (.cells cur t fz)):S8 S w g:=⟨hS,λs p e=>by rw[h] at e;cases e⟩
def QI (α:Type)[Data α]:Prop:=∀(S:jv) (w:aN) (cs:aa aO) (x:α),Data.rd S w cs x->Data.rd (S8 S w) w cs x
theorem QI.row {α:Type}[Data α](h:QI α){xs:aa aO}{l:aa α}(k:kR S w xs l):kR (S8 S w) w xs l:=⟨k.1,λi hi=>h _ _ _ _ (k.2 i hi)⟩
theorem QI.rd {α:Type}[Data α](h:QI α){v:aO}{x:α}(k:Rd S w v x):Rd (S8 S w) w v x:=let⟨cs,h1,h2⟩:=k;⟨cs,h _ _ _ _ h1,h2⟩
theorem QI.map {k:Kc}{α:Type}[Data α](h:QI α){b:ah}{m:jw k α}(q:rO S w b m):rO (S8 S w) w b m:=let⟨zs,h1,h2,h3⟩:=q;⟨zs,h1,h2,λz hz=>h.rd (h3 z hz)⟩
theorem Ju {k:Kc}{α:Type}[Data α]{b:ah}{m:jw k α}(q:rO S w b m):∀s p,w.heap[b]?≠az (dW s p):=by
 obtain⟨zs,⟨P,kt,_,es,clock,h1,_⟩,_⟩:=q;intro s p e;rw[h1] at e;cases e
theorem ym:∀t:Ty,QI (El t)
 | .int=>λ_ _ _ _ h=>h
 | .bool=>λ_ _ _ _ h=>h
 | .str=>λ_ _ _ _ h=>h
 | .unit=>λ_ _ _ _ h=>h
 | .list t=>by
  intro S w cs x ⟨v,e,p,c,e2,h1,h2,h3⟩;refine⟨v,e,p,c,e2,h1,h2,h3.imp id ?_⟩;rintro⟨g,off,cur,ty,fz,rfl,h4,h5,h6⟩;exact⟨g,off,cur,ty,fz,rfl,Of h4 h5,h5,λi hi=>let⟨cs,k1,k2⟩:=h6 i hi;⟨cs,ym t _ _ _ _ k1,k2⟩⟩
 | .pair a b=>by
  intro S w cs x ⟨c1,c2,e,h1,h2⟩;exact⟨c1,c2,e,ym a _ _ _ _ h1,ym b _ _ _ _ h2⟩
 | .map k t=>by
  intro S w cs x ⟨v,e,y,e2,h⟩;refine⟨v,e,y,e2,?_⟩;cases y with
  |none=>exact h
  |some b=>exact⟨⟨h.1,Ju h.2⟩,(ym t).map h.2⟩
 | .ptr t=>by
  intro S w cs x ⟨v,e,h⟩;refine⟨v,e,?_⟩;cases x with
  |none=>exact h
  |some y=>have⟨b,cur,ty,fz,cs,h1,h2,h3,h4,h5⟩:=h;exact⟨b,cur,ty,fz,cs,h1,Of h2 h3,h3,ym t _ _ _ _ h4,h5⟩
end
def S9:R2->ak
 | .ro _ _=>aC
 | .row _ _ _=>aC
 | .box _ _=>aC
 | .yq _ _ _=>aC
 | .map _ _ _=>aC
 | .ext (.Br _ _)=>aC
 | .ext (.Ia _)=>aC
 | .ext (.mj _ _ aA _ _ _)=>aC
 | .ext (.nest _ aA _ (.list _) _ _)=>aC
 |_=>aD
def GK (rs:aa (ah×ai R2)):ak:=rs.all λp=>match p.2 with
 |some x=>S9 x
 |none=>aC
theorem Dl {σ:mX}(h:GK σ.rs=aC){j:ah}{x:R2}(hj:mH σ j=az x):S9 x=aC:=by
 have:=bG.1 h _ (pK hj);simpa using this
theorem Z8 {A:jU}{j:ah}{S:jv}{w:aN}:∀ {x:R2},S9 x=aC->(x.den A j).ok S w->(x.den A j).ok (S8 S w) w
 | .ro t l,_,h=>(ym (.list t)).rd (show Rd S w (A.v j) l from h)
 | .row e t l,_,h=>by
  obtain⟨xs,h1,h2⟩:=(show mI S w e (A.v j) l from h);exact(show mI (S8 S w) w e (A.v j) l from⟨xs,h1,(ym t).row h2⟩)
 | .box _ _,_,h=>h
 | .yq k t m,_,h=>(ym (.map k t)).rd (show Rd S w (.map (A.m j)) m from h)
 | .map k t m,_,h=>let⟨b,e,h1⟩:=(show ∃b,A.m j=az b/\rO S w b m from h);⟨b,e,(ym t).map h1⟩
 | .ext (.Br t x),_,h=>(ym (.ptr t)).rd (show Rd S w (.pointer (A.p j)) x from h)
 | .ext (.Ia _),_,h=>h
 | .ar _ _,h,_=>by cases h
 | .Dv _ _ _,h,_=>by cases h
 | .iter _ _ _ _ _ _,h,_=>by cases h
 | .ext (.nest q aA e (.list t) ie l),_,h=>by
  have H:ot S w (A.v j) (A.f q) aA e (.list t) ie l:=h;have⟨xs,h1,h2,h3⟩:=H.row;refine⟨⟨xs,h1,h2,λc x hc hh=>⟨(h3 c x hc hh).1,?_⟩⟩,H.inj,H.out⟩;have k:=(h3 c x hc hh).2;obtain⟨d,hd,rfl⟩:=bF.1 ((Ce l c).symm.trans hc);obtain⟨ys,k1,k2⟩:=(show mI S w ie (A.f q (ix c)) d from k);exact(show mI (S8 S w) w ie (A.f q (ix c)) d from⟨ys,k1,(ym t).row k2⟩)
 | .ext (.nest _ (az _) _ _ _ _),h,_=>by cases h
 | .ext (.nest _ aA _ .int _ _),h,_=>by cases h
 | .ext (.nest _ aA _ .bool _ _),h,_=>by cases h
 | .ext (.nest _ aA _ .str _ _),h,_=>by cases h
 | .ext (.nest _ aA _ .unit _ _),h,_=>by cases h
 | .ext (.nest _ aA _ (.pair _ _) _ _),h,_=>by cases h
 | .ext (.nest _ aA _ (.map _ _) _ _),h,_=>by cases h
 | .ext (.nest _ aA _ (.ptr _) _ _),h,_=>by cases h
 | .ext (.mj q k aA t ie m),_,h=>by
  obtain⟨b,e,H⟩:=(show ∃b,A.m j=az b/\xE S w b (A.f q) aA ie m from h);have⟨zs,h1,h2,h3⟩:=H.map;refine⟨b,e,⟨zs,h1,h2,λz hz hh=>⟨(h3 z hz hh).1,?_⟩⟩,H.non,H.inj,H.out⟩;obtain⟨xs,k1,k2⟩:=(h3 z hz hh).2;exact⟨xs,k1,(ym t).row k2⟩
 | .ext (.mj _ _ (az _) _ _ _),h,_=>by cases h
 | .ext (.par _ _),h,_=>by cases h
 | .ext (.JM _ _),h,_=>by cases h
 | .ext (.Eh _ _),h,_=>by cases h
 | .ext (.JN _ _ _ _ _),h,_=>by cases h
 | .ext (.uV _ _),h,_=>by cases h
 | .ext (.nb _ _ _ _ _ _ _),h,_=>by cases h
theorem Jv {A:jU}{j:ah}{S:jv}{w:aN}{b:ah}:∀ {x:R2},S9 x=aC->(x.den A j).ok S w->(x.den A j).has b->∀s p,w.heap[b]?≠az (dW s p)
 | .ro t l,_,_,hb=>by cases hb
 | .row e t l,_,h,hb=>by
  obtain⟨xs,h1,h2⟩:=(show mI S w e (A.v j) l from h);have hb:(A.v j).ownBlock=az b:=hb;intro s p q;rcases h1.2 with⟨z,_⟩|⟨g,d,cap,cur,z,hg,_⟩
  .rw[z] at hb;cases hb
  rw[z] at hb;cases hb;rw[hg] at q;cases q
 | .box t cs,_,h,hb=>by
  have h:w.heap[A.b j]?=az (.cells _ t (0,0)):=h;have hb:az (A.b j)=az b:=hb;cases hb;intro s p q;rw[h] at q;cases q
 | .yq k t m,_,_,hb=>by cases hb
 | .map k t m,_,h,hb=>by
  obtain⟨b',e,h1⟩:=(show ∃b,A.m j=az b/\rO S w b m from h);have hb:A.m j=az b:=hb;rw[e] at hb;cases hb;exact Ju h1
 | .ext (.Br t x),_,_,hb=>by cases hb
 | .ext (.Ia D),_,h,hb=>by
  have h:w.heap[D]?=az (.deferred (az [])):=h;have hb:b=D:=hb;subst hb;intro s p q;rw[h] at q;cases q
 | .ar _ _,h,_,_=>by cases h
 | .Dv _ _ _,h,_,_=>by cases h
 | .iter _ _ _ _ _ _,h,_,_=>by cases h
 | .ext (.nest q aA e (.list t) ie l),_,h,hb=>by
  have H:ot S w (A.v j) (A.f q) aA e (.list t) ie l:=h;have⟨xs,h1,h2,h3⟩:=H.row;rcases(show(A.v j).ownBlock=az b\/∃c,c<l.length*jD (.list t)/\(aA:ai ah)≠az c/\(A.f q (ix c)).ownBlock=az b from hb) with hb|⟨c,hc,_,hb⟩
  .intro s p u;rcases h1.2 with⟨z1,_⟩|⟨g,d,cap,cur,z1,hg,_⟩
   .rw[z1] at hb;cases hb
   rw[z1] at hb;cases hb;rw[hg] at u;cases u
  have hc:c<e8 (α:=aa (El t)) l:=el1 hc;have k:=(h3 c (.l t (List.get (α:=aa (El t)) l ⟨c,hc⟩)) ((Ce l c).trans (by rw[bN hc];rfl)) (by simp)).2;obtain⟨ys,k1,_⟩:=(show mI S w ie (A.f q (ix c)) (List.get (α:=aa (El t)) l ⟨c,hc⟩) from k);intro s p u;rcases k1.2 with⟨z1,_⟩|⟨g,d,cap,cur,z1,hg,_⟩
  .rw[z1] at hb;cases hb
  rw[z1] at hb;cases hb;rw[hg] at u;cases u
 | .ext (.nest _ (az _) _ _ _ _),h,_,_=>by cases h
 | .ext (.nest _ aA _ .int _ _),h,_,_=>by cases h
 | .ext (.nest _ aA _ .bool _ _),h,_,_=>by cases h
 | .ext (.nest _ aA _ .str _ _),h,_,_=>by cases h
 | .ext (.nest _ aA _ .unit _ _),h,_,_=>by cases h
 | .ext (.nest _ aA _ (.pair _ _) _ _),h,_,_=>by cases h
 | .ext (.nest _ aA _ (.map _ _) _ _),h,_,_=>by cases h
 | .ext (.nest _ aA _ (.ptr _) _ _),h,_,_=>by cases h
 | .ext (.mj q k aA t ie m),_,h,hb=>by
  obtain⟨b',e,H⟩:=(show ∃b,A.m j=az b/\xE S w b (A.f q) aA ie m from h);have⟨zs,h1,h2,h3⟩:=H.map;rcases(show A.m j=az b\/∃x,(aA:ai (ko k))≠az x/\(A.f q (mD k x)).ownBlock=az b from hb) with hb|⟨x,_,hb⟩
  .rw[e] at hb;cases hb;have⟨P,kt,_,es,clock,g1,_⟩:=h1;intro s p z;rw[g1] at z;cases z
  cases hl:jo (show aa (ko k×aa (El t)) from m) x with
  |none=>rw[H.non x hl (λz=>by cases z)] at hb;cases hb
  |some y=>
   have hm:=qE hl;rw[show(show aa (ko k×aa (El t)) from m)=zs.map (λq=>(q.1,q.2.2)) from h2] at hm;obtain⟨z,hz,ez⟩:=bz.1 hm;cases ez;obtain⟨k1,xs,k2,_⟩:=h3 z hz (λz=>by cases z);rw[<-k1] at hb;intro s p u;rcases k2.2 with⟨z1,_⟩|⟨g,d,cap,cur,z1,hg,_⟩
   .rw[z1] at hb;cases hb
   rw[z1] at hb;cases hb;rw[hg] at u;cases u
 | .ext (.mj _ _ (az _) _ _ _),h,_,_=>by cases h
 | .ext (.par _ _),h,_,_=>by cases h
 | .ext (.JM _ _),h,_,_=>by cases h
 | .ext (.Eh _ _),h,_,_=>by cases h
 | .ext (.JN _ _ _ _ _),h,_,_=>by cases h
 | .ext (.uV _ _),h,_,_=>by cases h
 | .ext (.nb _ _ _ _ _ _ _),h,_,_=>by cases h
def Ta (o:jO)(bx:aa (ah×ai R2))(w:aN):Prop:=∃A S,lQ o.pF o.pA A/\oz o w S (jL A (jB (λ_=>aA) bx))
def bxB (kp:ah)(bx:aa (ah×ai R2)):ak:=bx.all λp=>bP p.1 kp && match p.2 with
 |some (.box _ cs)=>cs.all (scB kp)
 |none=>aC
 |_=>aD
theorem ahi {kp nx:ah}{bx:aa (ah×ai R2)}{env:aa (ah×ai E2)}(h:bxB kp bx=aC){j:ah}{x:R2}(hj:mH ⟨env,bx,nx⟩ j=az x):j<kp/\∃t cs,x= .box t cs/\cs.all (scB kp)=aC:=by
 have:=bG.1 h _ (pK hj);simp only[bB] at this;have⟨h1,h2⟩:=this;refine⟨by simpa[cw] using h1,?_⟩;split at h2
 .rename_i e;cases e;exact⟨_,_,rfl,h2⟩
 .rename_i e;cases e
 cases h2
theorem Lo {kp nx:ah}{bx:aa (ah×ai R2)}{env:aa (ah×ai E2)}(h:bxB kp bx=aC)(hk:∀j,j<kp->j<nx)(A:jU)(j:ah)(x:R2)(hj:mH ⟨env,bx,nx⟩ j=az x):j<nx/\x.all (· <nx)/\x.lu A:=by
 obtain⟨h1,t,cs,rfl,h2⟩:=ahi h hj;exact⟨hk j h1,λc hc=>Sc.mono hk (A9 (bG.1 h2 c hc)).1,λc hc=>(A9 (bG.1 h2 c hc)).2 A⟩
theorem Z9 {kp:ah}{bx:aa (ah×ai R2)}(h:bxB kp bx=aC):Ay bx=aC:=bG.2 λp hp=>by
 have:=bG.1 h p hp;simp only[bB] at this;obtain⟨q,y⟩:=p
 match y,this.2 with
 |some (.box _ _),_=>rfl
 |none,_=>rfl
structure RLI where
 pt:aa ah
 r:aa It
 p1:ah
 p2:ah
 f:bI
 q:ah
def Dm (B:Code)(n:ah)(σ:mX):aa It->ai RLI
 | .run p::r=>match sub B p with
  | .rangeFunc (.tmp t) ps _ _=>match ps.toList,p7 σ t with
   |[x,y],az ⟨[],.one (.sR f [(q,0)])⟩=>match(bP x n && bP y n) && (!Nat.beq x y && ZZ r) with
    |true=>az ⟨p,r,x,y,f,q⟩
    |false=>aA
   |_,_=>aA
  |_=>aA
 |_=>aA
def lI:ai RLI->RLI
 |some x=>x
 |none=>⟨[],[],0,0,0,0⟩
def adI (p1 p2:ah)(x:af×aj)(σ:mX):mX:=⟨(p2,az ⟨[],.one (.v (.string x.2))⟩)::(p1,az ⟨[],.one (.v (.int .i64 x.1))⟩)::σ.env,σ.rs,σ.nx⟩
section
variable {o:jO}{n:ah}{A A' A0:jU}{S S' S0:jv}{F:ah->Prop}{s:ah->ai E2}{f g:ah->ai Rs}{w w' W:aN}{a:Act}{kp l D:ah}{σ σ2:mX}
theorem oz.nw (H:oz o w S (jL A (mH σ)))(hc:GK σ.rs=aC):oz o w (S8 S w) (jL A (mH σ)) where
 sJ:=H.sJ
 src k hk:=H.src k hk.1
 pT k hk:=H.pT k hk.1
 ok j r hj:=by
  obtain⟨x,hx,rfl⟩:=bF.1 hj;exact Z8 (Dl hc hx) (H.ok j _ hj)
 own j r b hj hb:=let⟨x,y,z⟩:=H.own j r b hj hb;⟨x,y,λq=>z q.1⟩
 apart:=H.apart
theorem MS.still {S00:jv}(m:MS o kp A0 S00 l D σ A S W){k:ah}(h2:¬S k)(h3:∀j r,jL A (mH σ) j=az r->¬r.has k)(h4:k<W.heap.size)(H2:oz (m.jM.wh kp A) w' S' g):
  (¬S' k/\(∀j r,g j=az r->¬r.has k)/\k<w'.heap.size)/\w'.heap[k]?=W.heap[k]?:=by
 have Be:¬(m.jM.wh kp A).new k:=λq=>q.elim (λq=>by have q:W.heap.size<=k:=q;omega) λ⟨j,r,q1,q2⟩=>h3 j r q1 q2;refine⟨⟨λq=>?_,λj r q1 q2=>Be (H2.own j r k q1 q2).1,bR h4 H2.sJ.size⟩,H2.sJ.block k h4 λq=>Be (.inr q)⟩;rcases H2.src k q with q|q
 .exact h2 q
 exact Be q
abbrev noS:jv:=λ_=>False
def Vp (S:jv)(W:aN):Prop:=∀k,S k->∀s p,W.heap[k]?≠az (dW s p)
theorem MS.nw (m:MS o kp A0 noS l D σ A S W)(hc:GK σ.rs=aC):MS o kp A0 noS l D σ A (S8 S W) W/\Vp (S8 S W) W:=
 ⟨⟨m.jM.nw hc,m.lq,m.QE,λ_ h=>h.elim,⟨m.l1.1,λq=>m.l1.2.1 q.1,m.l1.2.2⟩,⟨m.d1.1,λq=>m.d1.2.1 q.1,m.d1.2.2⟩⟩,λk hk=>hk.2⟩
theorem MS.iter (m:MS o kp A0 noS l D σ A S W)(hi:Vp S W)(hc:GK σ.rs=aC){row:ai ah}(hg:W.grownBy w' row)(hr:∀r,row=az r->o.w.heap.size<=r/\∃s p,W.heap[r]?=az (dW s p))
  (hl:∀s p,W.heap[l]?≠az (dW s p)) (hD:∀s p,W.heap[D]?≠az (dW s p)):(MS o kp A0 noS l D σ A S w'/\Vp S w')/\w'.heap[l]?=W.heap[l]?/\w'.heap[D]?=W.heap[D]?:=by
 have qD:∀k,(∀s p,W.heap[k]?≠az (dW s p))->row≠az k:=λk hk e=>let⟨_,s,p,q⟩:=hr k e;hk s p q
 have lU:∀j rr b,jL A (mH σ) j=az rr->rr.has b->row≠az b:=λj rr b h1 h2=>by
  obtain⟨x,hx,rfl⟩:=bF.1 h1;exact qD b (Jv (Dl hc hx) (m.jM.ok j _ h1) h2)
 have agx:oz o w' S (jL A (mH σ)):=by
  refine⟨m.jM.sJ.trans (rE.of hg) λj hj q=>?_,m.jM.src,λk hk=>bR (m.jM.pT k hk) hg.size,λj r hj=>?_,λj r b hj hb=>?_,m.jM.apart⟩
  .have:=(hr j q).1;omega
  .exact r.keep _ _ _ (m.jM.ok j r hj) (λk hk=>hg.block k (m.jM.pT k hk) λe=>qD k (hi k hk) e.symm) λb hb=>hg.block b (m.jM.own j r b hj hb).2.1 λe=>lU j r b hj hb e.symm
  obtain⟨x,y,z⟩:=m.jM.own j r b hj hb;exact⟨x,bR y hg.size,z⟩
 have lone:∀k,Lone o S (jL A (mH σ)) W k->Lone o S (jL A (mH σ)) w' k:=λk hk=>⟨hk.1,hk.2.1,hk.2.2.1,bR hk.2.2.2 hg.size⟩;refine⟨⟨⟨agx,m.lq,m.QE,λ_ h=>h.elim,lone l m.l1,lone D m.d1⟩,λk hk s p=>?_⟩,hg.block l m.l1.2.2.2 λe=>qD l hl e.symm,hg.block D m.d1.2.2.2 λe=>qD D hD e.symm⟩;rw[hg.block k (m.jM.pT k hk) λe=>qD k (hi k hk) e.symm];exact hi k hk s p
end
theorem Lp {a b:ah}(h:bP a b=aC):a<b:=by simpa[cw] using h
section
variable {mo:Mode}{P:aY}{o:jO}{n:ah}{σ:mX}{a:Act}{w:aN}{T:aa (lM P)}{B:Code}{Q:oL}{st:aa It}
theorem aaa {Y:Type}{f:bI}{ts:aV}(hit:S7 P f ts)(acc:Y->mX)(bx:aa (ah×ai R2))(Pc:aa PanicEntry->Prop)(kp:ah)(s:aj)(oC:s.size<=1000000000)(Inv:aa (af×aj)->Y->Prop)(y0:Y)(ρ:aa (ah×ai ah))
  (h:lH o n σ a w) (hI:Inv [] y0)
  (round:∀(pre:aa (af×aj)) (x:af×aj) (y:Y) (og:Orig) (G:ah->Prop) (gS:∀b,G b->¬og.S b) (gin:∀b,G b->b<og.w.heap.size) (A:jU) (l:ah) (a:Act) (w:aN) (K:oL),
   (∀(y':Y) (ρ:aa (ah×ai ah)) {wm:mX} {a:Act} {w:aN},lH ⟨og,G,gS,gin,(· <kp),A,kp⟩ n wm a w->Inv (pre++[x]) y'->(h2:mQ ρ wm (Oa (acc y')):=by delta mQ;kernel_rfl)->(h3:uc ρ (Oa (acc y'))=aC:=by kernel_rfl)->(h4:BH ρ kp=aC:=by kernel_rfl)->K .normal a w)->
   (∀ {ch:aa PanicEntry} {a:Act} {w:aN},Pc ch->a.defers=[]->Ta ⟨og,G,gS,gin,(· <kp),A,kp⟩ bx w->K (.panic ch) a w)->
   (∃rest,pre++x::rest=nu s)->Inv pre y->lH ⟨og,G,gS,gin,(· <kp),A,kp⟩ n (xS (rT P T [] n B [.run ((lI (Dm B n (acc y0) st)).pt++[0])] (adI (lI (Dm B n (acc y0) st)).p1 (lI (Dm B n (acc y0) st)).p2 x (acc y)))) a w->
   At ⟨az l,[]⟩ P T B K [.run ((lI (Dm B n (acc y0) st)).pt++[1])] a w)
  (after:∀(y:Y) (D:ah) (a:Act) (w:aN),Inv (nu s) y->lH o n (adC D (acc y)) a w->At ⟨aA,cD D::mo.ds⟩ P T B (adA D Q) (lI (Dm B n (acc y0) st)).r a w)
  (amI:∀(ch:aa PanicEntry) (D:ah) (a:Act) (w:aN),Pc ch->lH o n (adC D ⟨(acc y0).env,bx,(acc y0).nx⟩) a w->adA D Q (.panic ch) a w)
  (yJ:mo.ro=aA:=by rfl) (ht:(Dm B n (acc y0) st).isSome=aC:=by kernel_rfl) (hf:(lI (Dm B n (acc y0) st)).f=f:=by kernel_rfl)
  (c1:∀y,(acc y).env=(acc y0).env:=by intro y;kernel_rfl) (c2:Z0 kp (acc y0).env=aC:=by kernel_rfl) (c3:∀y,Ay (acc y).rs=aC:=by intro y;kernel_rfl)
  (c4:∀y,eL kp (acc y).nx=aC:=by intro y;kernel_rfl) (c5:eL o.kp kp=aC:=by kernel_rfl)
  (c6:bP (lI (Dm B n (acc y0) st)).q kp=aC:=by kernel_rfl) (c7:∀y,mH (acc y) (lI (Dm B n (acc y0) st)).q=az (.box ts [.v (.string s)]):=by intro y;kernel_rfl)
  (c8:∀y x,adD (rT P T [] n B [.run ((lI (Dm B n (acc y0) st)).pt++[0])] (adI (lI (Dm B n (acc y0) st)).p1 (lI (Dm B n (acc y0) st)).p2 x (acc y)))=aC:=by intro y x;kernel_rfl)
  (c9:∀y,GK (acc y).rs=aC:=by intro y;kernel_rfl) (c10:bxB kp bx=aC:=by kernel_rfl)
  (h1:lN ρ σ (acc y0):=by delta lN;kernel_rfl) (h2:mQ ρ σ (acc y0):=by delta mQ;kernel_rfl) (h3:uc ρ (acc y0)=aC:=by kernel_rfl) (h4:BH ρ o.kp=aC:=by kernel_rfl):At mo P T B Q st a w:=by
 have hs:=ud ρ h h1 h2 h3 h4;clear h h1 h2 h3 h4;obtain⟨I,DG⟩:=bS.1 ht;simp only[DG,lI] at round after hf c6 c7 c8;clear ht;unfold Dm at DG;split at DG
 .rename_i pt r;split at DG
  .rename_i t ps asg body pG;split at DG
   .rename_i x1 x2 f' q Ma he;split at DG
    .rename_i hg;cases DG;dsimp only at round after hf c6 c7 c8;subst hf;obtain⟨⟨A0,S00,H0⟩,amD,np⟩:=hs;have H:kW o n A0 (S8 S00 w) (· <(acc y0).nx) (p7 (acc y0)) (mH (acc y0)) a w:=⟨H0.size,H0.lK,H0.env,H0.rH,H0.lq,H0.jM.nw (c9 y0),H0.args,H0.wj⟩;have hni:Vp (S8 S00 w) w:=λk hk=>hk.2;clear H0;generalize S8 S00 w=S0 at H hni;simp only[bB,Bool.not_eq_true'] at hg;obtain⟨⟨g1,g2⟩,g3,g4⟩:=hg;have hxn:=Lp g1;have hyn:=Lp g2;have hxy:x1≠x2:=λe=>by rw[e] at g3;simp at g3
     have hq:=Lp c6;have Z2:ps= #[x1,x2]:=by rw[<-aoB,Ma]
     have hv:a.eval (.tmp t)= .func (.func f') #[] #[.pointer (az ⟨A0.b q,0,aA⟩)]:=by
      have hv:=(H.env t _ he).1 (λl hl=>by cases hl);simp only[dH,cP];rw[show a.tmps[t]?=az (.func (.func f') #[] #[.pointer (az ⟨A0.b q,0,aA⟩)]) from hv];rfl
     have wg:=λy=>Cc H (c1 y) c2;have Ut:∀y j,j<kp->j<(acc y).nx:=λy j hj=>bR hj (anC (c4 y));have Bo:∀ {y:Y} {A:jU} {S:jv} {W:aN} {l D:ah} {A1:jU},MS o kp A1 noS l D (acc y) A S W->lQ (· <kp) A0 A->W.heap[A0.b q]?=az (.cells #[.string s] ts (0,0)):=by
      intro y A S W l D A1 m hA;have Hj:jL A (mH (acc y)) q=az (R2.den A q (.box ts [.v (.string s)])):=by show(mH (acc y) q).map _=_;rw[c7 y];rfl
      have:=m.jM.ok q _ Hj;rw[(hA q hq).2.1];exact this
     refine⟨?_⟩;show(sub B pt).qP mo P (post mo P B Q r) a w;rw[pG];have⟨ro,ds⟩:=mo;have yJ:ro=aA:=yJ;subst yJ;show(ap9 (.tmp t) ps asg body).qP ⟨aA,ds⟩ P (post ⟨aA,ds⟩ P B Q r) a w;refine Ap λfn By=>?_;obtain⟨rec,Ai⟩:∃rec:LoopState->ai Code->Loop,rec=λst pe=>{state:=st,pending:=pe,fn,tmps:=a.tmps,params:=ps,assign:=asg,body,defers:=w.heap.size}:=⟨_,rfl⟩;obtain⟨W1,Z3⟩:∃W1,(w.alloc (.deferred (az []))).alloc (.loop (rec .ready aA))=W1:=⟨_,rfl⟩;have hL1:W1.heap[w.heap.size+1]?=az (.loop (rec .ready aA)):=by
      rw[<-Z3];have:=apE (w.alloc (.deferred (az []))) (.loop (rec .ready aA));rwa[arQ] at this
     have mR:W1.heap[w.heap.size]?=az (.deferred (az [])):=by
      rw[<-Z3];exact(Below.heap_alloc _ _ _ (by simp)).trans (apE w _)
     have LY:Below w.heap.size w W1:=by
      rw[<-Z3];exact((Below.refl _ w).alloc (aW _) _).alloc (by simp) _
     have adJ:W1.heap.size=w.heap.size+2:=by rw[<-Z3];simp
     have eg:∀args w,(callFunc f' args).run P w= .ok (.enter f' args) w:=by
      obtain⟨⟨fn,q1,q2,q3⟩,_⟩:=hit;intro args w;have O3:¬fn.name= "runtime.NumGoroutine" :=by simpa using q3
      have rN:¬fn.body=aA:=by
       intro e;rw[e] at q2;cases q2
      simp[callFunc,program,cM,q1,O3,rN]
     refine⟨w.heap.size+1,[cD w.heap.size],W1,{target:=.fn (.func f') #[.pointer (az ⟨A0.b q,0,aA⟩)],args:= #[.func (.yield (w.heap.size+1)) #[] #[]]},W1,f',
      #[.func (.yield (w.heap.size+1)) #[] #[]]++ #[.pointer (az ⟨A0.b q,0,aA⟩)],W1,?_,?_,?_,?_⟩
     .rw[<-Z3,Ai];exact run_enterLoop_outer _ _ _ _ _
     .simp only[resolve,CK,hv];simp[go_sem]
     .simp[invoke,go_sem,eg]
     obtain⟨J,hJ⟩:∃J:aa (af×aj)->aN->Prop,J=λpre W=> ∃y A S,Inv pre y/\MS o kp A0 noS (w.heap.size+1) w.heap.size (acc y) A S W/\Vp S W/\W.heap[w.heap.size+1]?=az (.loop (rec .ready aA))/\W.heap[w.heap.size]?=az (.deferred (az [])):=⟨_,rfl⟩;obtain⟨Px,hPx⟩:∃Px:aa PanicEntry->aN->Prop,Px=λch W=> ∃A S,Pc ch/\MS o kp A0 noS (w.heap.size+1) w.heap.size ⟨(acc y0).env,bx,(acc y0).nx⟩ A S W/\W.heap[w.heap.size]?=az (.deferred (az [])):=⟨_,rfl⟩;have amE:=H.jM.sJ.size;have hJ0:J [] W1:=by
      rw[hJ];have hS:∀k,S0 k->k<w.heap.size:=H.jM.pT;have lU:∀j r b,jL A0 (mH (acc y0)) j=az r->r.has b->b<w.heap.size:=λj r b q1 q2=>(H.jM.own j r b q1 q2).2.1;refine⟨y0,A0,S0,hI,⟨H.jM.on LY,H.lq,lQ.refl _ _,λk hk=>hk.elim,⟨.inl (by omega),λq=>by have:=hS _ q;omega,λj r q1 q2=>by have:=lU j r _ q1 q2;omega,by omega⟩,
       ⟨.inl (by omega),λq=>by have:=hS _ q;omega,λj r q1 q2=>by have:=lU j r _ q1 q2;omega,by omega⟩⟩,λk hk s' p=>by rw[LY.block k (hS k hk)];exact hni k hk s' p,hL1,mR⟩
     have hb0:W1.heap[A0.b q]?=az (.cells #[.string s] ts (0,0)):=by
      have:=hJ0;rw[hJ] at this;have⟨y,A,S,_,m,_⟩:=this;exact Bo m m.QE
     refine(hit.2 (w.heap.size+1) (A0.b q) s J Px W1 oC hb0 ?_ ?_ hJ0).mono ?_
     ·
      rw[hJ];rintro pre W W' row ⟨y,A,S,hi,m,Be,hl,hD⟩ hg hr;obtain⟨⟨m2,amJ⟩,el,eD⟩:=m.iter Be (c9 y) hg (λr e=>⟨by have:=(hr r e).1;omega,(hr r e).2⟩) (λs' p e=>by rw[hl] at e;cases e) (λs' p e=>by rw[hD] at e;cases e);exact⟨y,A,S,hi,m2,amJ,el.trans hl,eD.trans hD⟩
     ·
      subst hJ hPx;rintro pre x W ⟨y,A,S,hi,m,Be,hl,hD⟩ hx;have hy:=run_yield (P:=P) (args:= #[.int .i64 x.1,.string x.2]) hl (by rw[Ai,Z2];rfl);rw[Ai] at hy;refine⟨fn,_,asg,body,hy,XK By ?_⟩;have Uo:({tmps:=(ps.zip #[.int .i64 x.1,.string x.2]).foldl (λt (p,v)=>t.setIfInBounds p v) a.tmps,defers:=[]}:Act)=(a.put (az x1) (.int .i64 x.1)).put (az x2) (.string x.2):=by
       have hd:=H.lK;obtain⟨tm,df⟩:=a;simp only at hd;subst hd Z2;simp[eu]
      have H1:kW (m.jM.wh kp A) n A S (· <(acc y).nx) (p7 (acc y)) (mH (acc y)) a W:=
       ⟨H.size,H.lK,λt e he=>(wg y t e he).2.2.2 A m.QE,λt e he _=>⟨Sy.mono (Ut y) (wg y t e he).2.1,(wg y t e he).2.2.1 A⟩,m.lq,m.jM.Z1 kp A,λj x hj=>oh (sw (c3 y) hj),⟨Ut y,lQ.refl _ _⟩⟩
      have H2:=H1.put (C:=[]) (d:=x1) (y:=.one (.v (.int .i64 x.1))) (u:=.int .i64 x.1) hxn (λt e he l hl=>by rw[(wg y t e he).1] at hl;cases hl) (λl hl=>by cases hl) (λ_=>⟨tv,tv⟩) ⟨λ_=>rfl,λq=>(q λl hl=>by cases hl).elim⟩;have akp:∀t e,ua (p7 (acc y)) x1 (az ⟨[],.one (.v (.int .i64 x.1))⟩) t=az e->e.ch=[]:=λt e he=>by
       by_cases q:x1=t
       .subst q;rw[nM] at he;cases he;rfl
       rw[tA q] at he;exact(wg y t e he).1
      have H2:=H2.put (C:=[]) (d:=x2) (y:=.one (.v (.string x.2))) (u:=.string x.2) hyn (λt e he l hl=>by rw[akp t e he] at hl;cases hl) (λl hl=>by cases hl) (λ_=>⟨tv,tv⟩) ⟨λ_=>rfl,λq=>(q λl hl=>by cases hl).elim⟩;have O2:lH (m.jM.wh kp A) n (adI x1 x2 x (acc y)) ((a.put (az x1) (.int .i64 x.1)).put (az x2) (.string x.2)) W:=by
       refine⟨⟨A,S,H2⟩,λt e he=>?_,λj q=>q⟩;have he:ua (ua (p7 (acc y)) x1 (az ⟨[],.one (.v (.int .i64 x.1))⟩)) x2 (az ⟨[],.one (.v (.string x.2))⟩) t=az e:=he
       by_cases q:x2=t
       .subst q;rw[nM] at he;cases he;rfl
       rw[tA q] at he;exact akp t e he
      have h8:=c8 y x;have pg:=round pre x y;cases hE:rT P T [] n B [.run (pt++[0])] (adI x1 x2 x (acc y)) with
      |none=>rw[hE] at h8;cases h8
      |some ex=>
      rw[hE] at h8 pg;unfold adD at h8;simp only[bB] at h8;have⟨a1,a2,a3,a4⟩:=h8;have a1:=anF.1 a1;have a2:=anF.1 a2;have a3:ex.st=[]:=by cases G9:ex.st<;>rw[G9] at a3<;>first|rfl|cases a3
      have G1:=(go (mo:=⟨az (w.heap.size+1),[]⟩) (T:=T) (B:=B) (st:=[.run (pt++[0])]) (pr:=av) (Q:=λe a1 w1=>e= .normal/\lH (m.jM.wh kp A) n ex.σ a1 w1) [] O2 tv
       (λa w h=>by rw[hE] at h ⊢;show At _ P T B _ ex.st a w;rw[a3];exact⟨⟨rfl,h⟩⟩) (by rw[hE];rfl) (by rw[hE];show Cm ex.cs=av;rw[a1];rfl) (λA w=>by rw[hE];show ex.hs.map _=_;rw[show xH (az ex)=ex.hs from rfl,a2];rfl)).get
      have G1:(sub B (pt++[0])).qP ⟨az (w.heap.size+1),[]⟩ P (λe a1 w1=>e= .normal/\lH (m.jM.wh kp A) n ex.σ a1 w1) ((a.put (az x1) (.int .i64 x.1)).put (az x2) (.string x.2)) W:=by
       refine qv G1 λe a w h=>?_;cases e with
       |normal=>exact h
       |_=>exact h
      rw[lJ,pG,GH] at G1;rw[Uo];refine qv G1 ?_;rintro e a1' w1 ⟨rfl,hq1⟩;obtain⟨⟨A1,S1,K2⟩,ch1,_⟩:=hq1;have m1:=m.next K2.jM K2.lq K2.wj.2;have uB:=(m.lone m.l1 K2.jM).2.trans hl;have hD1:=(m.lone m.d1 K2.jM).2.trans hD;refine⟨rfl,_,run_beginRound uB (by rw[Ai]),?_⟩;have m2:=m1.put (.loop {rec .ready aA with state:=.busy}) (by omega);have rI:(w1.putObj (w.heap.size+1) (.loop {rec .ready aA with state:=.busy})).heap[w.heap.size+1]?=az (.loop {rec .ready aA with state:=.busy}):=apF m1.l1.2.2.2;have hD2:(w1.putObj (w.heap.size+1) (.loop {rec .ready aA with state:=.busy})).heap[w.heap.size]?=az (.deferred (az [])):=(eP (by omega)).trans hD1;have H3:kW (m2.jM.wh kp A1) n A1 S1 (· <ex.σ.nx) (p7 ex.σ) (mH ex.σ) a1' _:=
       ⟨K2.size,K2.lK,K2.env,K2.rH,m2.lq,m2.jM.Z1 kp A1,λj x hj=>oh (sw a4 hj),⟨K2.wj.1,lQ.refl _ _⟩⟩
      have B2:=(pg (m2.jM.wh kp A1).toOrig (m2.jM.wh kp A1).G (m2.jM.wh kp A1).gS (m2.jM.wh kp A1).gin A1 (w.heap.size+1) a1' _ (λe a3 w3=>(∃ch,e= .panic ch/\Pc ch/\a3.defers=[]/\Ta (m2.jM.wh kp A1) bx w3)\/(e= .normal/\∃y',Inv (pre++[x]) y'/\lH (m2.jM.wh kp A1) n (Oa (acc y')) a3 w3))
       (λy' nU _ _ _ hk Cx h2 h3 h4=>.inr ⟨rfl,y',Cx,ud nU hk rfl h2 h3 h4⟩) (λh1 h2 h3=>.inl ⟨_,rfl,h1,h2,h3⟩) hx hi ⟨⟨A1,S1,H3⟩,ch1,λj q=>q⟩).get
      have B2:(sub B (pt++[1])).qP ⟨az (w.heap.size+1),[]⟩ P (λe a3 w3=>(∃ch,e= .panic ch/\Pc ch/\a3.defers=[]/\Ta (m2.jM.wh kp A1) bx w3)\/(e= .normal/\∃y',Inv (pre++[x]) y'/\lH (m2.jM.wh kp A1) n (Oa (acc y')) a3 w3)) a1' (w1.putObj (w.heap.size+1) (.loop {rec .ready aA with state:=.busy})):=by
       refine qv B2 λe a w h=>?_;cases e with
       |normal=>exact h
       |_=>exact h
      rw[lJ,pG,GI] at B2;refine qv B2 ?_;rintro e a3 w3 (⟨ch,rfl,hp,hd3,A3,S3,hA3,K4⟩|⟨rfl,y',Cx,⟨A3,S3,K4⟩,_,_⟩)
      .exact⟨hd3,.inr ⟨ch,rfl,A3,S3,hp,m2.next (σ2:=⟨(acc y0).env,bx,(acc y0).nx⟩) K4 (Lo c10 (Ut y0) A3) hA3,(m2.lone m2.d1 K4).2.trans hD2⟩⟩
      have m3:MS o kp A0 noS (w.heap.size+1) w.heap.size (acc y') A3 S3 w3:=m2.next (σ2:=acc y') K4.jM K4.lq K4.wj.2;have Az:=(m2.lone m2.l1 K4.jM).2.trans rI;have hD3:=(m2.lone m2.d1 K4.jM).2.trans hD2;have m4:=m3.put (.loop (rec .ready aA)) (by omega);obtain⟨m5,amK⟩:=m4.nw (c9 y');have D6:=run_endRound (P:=P) aA Az;have amL:W.heap.size<=w3.heap.size:=by
       have z1:W.heap.size<=w1.heap.size:=K2.jM.sJ.size;have z2:(w1.putObj (w.heap.size+1) (.loop {rec .ready aA with state:=.busy})).heap.size<=w3.heap.size:=K4.jM.sJ.size;rw[an7] at z2;omega
      have akq:∀W',W'=w3.putObj (w.heap.size+1) (.loop (rec .ready aA))->(∃y A S,Inv (pre++[x]) y/\MS o kp A0 noS (w.heap.size+1) w.heap.size (acc y) A S W'/\Vp S W'/\W'.heap[w.heap.size+1]?=az (.loop (rec .ready aA))/\W'.heap[w.heap.size]?=az (.deferred (az [])))/\KpB (A0.b q) W W':=by
       rintro W' rfl;refine⟨⟨y',A3,_,Cx,m5,amK,apF m3.l1.2.2.2,(eP (by omega)).trans hD3⟩,?_,?_,?_,?_,?_,?_⟩
       .exact m4.jM.sJ.os.trans m.jM.sJ.os.symm
       .exact m4.jM.sJ.tape.trans m.jM.sJ.tape.symm
       .exact m4.jM.sJ.output.trans m.jM.sJ.output.symm
       .rw[Bo m m.QE,Bo m4 m4.QE]
       .rw[an7];exact amL
       intro r s' p hr;have hrl:r≠w.heap.size+1:=λe=>by rw[e,hl] at hr;cases hr
       have hrW:r<W.heap.size:=(di.1 hr).1;obtain⟨⟨k1,k2,k3⟩,k4⟩:=m.still (λz=>Be r z s' p hr) (λj rr z1 z2=>by
        obtain⟨y2,hy2,rfl⟩:=bF.1 z1;exact Jv (Dl (c9 y) hy2) (m.jM.ok j _ z1) z2 s' p hr) hrW K2.jM
       obtain⟨_,k8⟩:=m2.still (k:=r) k1 k2 (by rw[an7];exact k3) K4.jM;rw[eP hrl,k8,eP hrl,k4];exact hr
      have hw4:=akq _ rfl;refine⟨_,_,D6,.inl ⟨rfl,?_,?_⟩⟩
      .rw[Ai] at hw4 ⊢;exact hw4.1
      rw[Ai] at hw4 ⊢;exact hw4.2
     subst hJ hPx;rintro e W2 (⟨⟨v,rfl⟩,y,A,S,hi,m,Be,hl,hD⟩|⟨ch,rfl,A,S,hp,m,hD⟩)
     rotate_left
     .exact⟨lG a [cD w.heap.size],QF H.lK _ _,vb (amI ch _ _ _ hp (m.fin H np rfl c2 (Z9 c10) (c4 y0) c5 hD))⟩
     refine⟨aA,W2.putObj (w.heap.size+1) (.loop {rec .ready aA with state:=.exhausted}),by have:=run_endLoop (P:=P) hl (by rw[Ai];simp);rw[Ai] at this ⊢;exact this,?_⟩;have m4:=m.put (.loop {rec .ready aA with state:=.exhausted}) (by omega);have hD4:(W2.putObj (w.heap.size+1) (.loop {rec .ready aA with state:=.exhausted})).heap[w.heap.size]?=az (.deferred (az [])):=(eP (by omega)).trans hD;refine⟨lG a [cD w.heap.size],QF H.lK _ _,xh _ _ _ _ g4 (after y w.heap.size a _ hi (m4.fin H np (c1 y) c2 (c3 y) (c4 y) c5 hD4)).get⟩
    cases DG
   cases DG
  cases DG
 cases DG
end
theorem aab:S7 aR 57 9:=
 ⟨⟨f57,func57,by kernel_rfl,by kernel_rfl⟩,λl b s J Px w hs hb hJ hY h0=>callsIn_wide.2 (QC l b s J Px w hs hb hJ hY h0)⟩
theorem x4 {S:jv}{w:aN}{v:aO}{s:aj}(h:Rd S w v s):v= .string s:=by
 obtain⟨cs,h,rfl⟩:=h;have h:cs=[.string s]:=h;subst h;rfl
theorem ahj:kr aR 40 [(aD,.str)] [.bool] (λ_=>av) (λx=>(kN (show aj from x.1),())):=by
 intro o vs x hx hd
 match vs,hx with
 |[v],hx=>
  have e:=x4 hx.1;subst e;exact(ZU _ o.w).mono λe w' ⟨h1,h2⟩=>⟨_,h1,⟨[.bool _],rfl,rfl⟩,h2⟩
def aac:lM aR:=plain ahj
theorem akr:kr aR 33 [(aD,.str)] [.int,.bool] (λ_=>av) (λx=>((B4 (show aj from x.1)).1,(B4 (show aj from x.1)).2,())):=by
 intro o vs x hx hd
 match vs,hx with
 |[v],hx=>
  have e:=x4 hx.1;subst e;exact(adt _ o.w).mono λe w' ⟨h1,h2⟩=>⟨_,h1,⟨[.int .i64 _,.bool _],rfl,⟨[_],rfl,rfl⟩,⟨[_],rfl,rfl⟩,tv⟩,h2⟩
def aad:lM aR:=plain akr
theorem adK:kr aR 36 [(aD,.str)] [.list (.pair .int .str)] (λx=>(show aj from x.1).size<=1000000000) (λx=>(mc (show aj from x.1),())):=by
 intro o vs x hx hd
 match vs,hx with
 |[v],hx=>
  have e:=x4 hx.1;subst e;exact Vn _ o hd
def Lq:lM aR:=plain adK
open Go.Lib Go.Sort
theorem ahk:kr aR 115 [(aD,.str),(aD,.str)] [.str] (λx=>(show aj from x.1).size<=1000000/\(show aj from x.2.1)=ase) (λx=>(trimB (show aj from x.1),())):=by
 intro o vs x hx hd
 match vs,x,hx,hd with
 |[v1,v2],((s:aj),(c:aj),_),hx,hd=>
  obtain⟨hs,rfl⟩:s.size<=1000000/\c=ase:=hd;have e:=x4 (s:=s) hx.1;subst e;have e:=x4 hx.2.1;subst e;exact(Tryz.B6 s o.w (bC hs (by decide))).mono λe w' ⟨h1,h2⟩=>⟨_,h1,⟨[.string _],rfl,rfl⟩,h2⟩
def ahl:lM aR:=plain ahk
theorem aks:kr aR 116 [(aD,.str),(aD,.str)] [.bool] (λx=>(show aj from x.1).size<=1000000/\(show aj from x.2.1)=fy) (λx=>(HE (show aj from x.1),())):=by
 intro o vs x hx hd
 match vs,x,hx,hd with
 |[v1,v2],((s:aj),(c:aj),_),hx,hd=>
  obtain⟨hs,rfl⟩:s.size<=1000000/\c=fy:=hd;have e:=x4 (s:=s) hx.1;subst e;have e:=x4 hx.2.1;subst e;exact(Tryz.strings_HasSuffix s fy o.w (bC hs (by decide))).mono λe w' ⟨h1,h2⟩=>⟨_,h1,⟨[.bool _],rfl,rfl⟩,by rw[h2];exact Below.refl _ _⟩
def akt:lM aR:=plain aks
section
variable {α:Type}[Inhabited α]{enc:α->aO}{w:aN}{g off n:ah}{cur:aq aO}{e:aV}{os:aq Obj}{d:aq α}
theorem ahm (hb:w.heap[g]?=az (.cells cur e (0,0)))(ht:(cur.toList.drop off).take d.size=d.toList.map enc):Holds enc w g off d:=by
 intro j hj;refine⟨?_,by simp[World.frozen?,hb]⟩;have h1:((cur.toList.drop off).take d.size)[j]?=(d.toList.map enc)[j]?:=by rw[ht]
 rw[arR hj,cI] at h1;simp only[World.cell?,hb]
 grind
theorem aku {fr:ah×ah}(hb:w.heap[g]?=az (.cells cur e fr)):(grow (putRow enc (aoe w n) g off d) os).heap[g]?=az (.cells (putCells enc off d cur) e fr):=by
 have hg:g<w.heap.size:=(di.1 hb).1;rw[heap_grow_old _ _ (by simpa using hg)];simp[putRow,mapBlock,aoe,apS,hb,onCells]
theorem ahn {k:ah}(hk:k<w.heap.size)(qD:k≠g):(grow (putRow enc (aoe w n) g off d) os).heap[k]?=w.heap[k]?:=by
 rw[heap_grow_old _ _ (by simpa using hk)];have:g≠k:=λe=>qD e.symm;simp[putRow,mapBlock,aoe,apS,this]
theorem amM:rE w (grow (putRow enc (aoe w n) g off d) os) (λb=>az g=az b):=
 ⟨rfl,rfl,rfl,by simp,λk hk hn=>ahn hk λq=>hn (by rw[q])⟩
theorem akv (h:off+d.size<=cur.size):((putCells enc off d cur).toList.drop off).take d.size=d.toList.map enc:=by
 apply List.ext_getElem?;intro j
 by_cases hj:j<d.size
 .rw[arR hj,cI,Array.getElem?_toList];simp[putCells,hj,show off+j<cur.size by omega]
 grind
end
theorem Og {A:jU}{z:R2}{j:ah}(hj:j≠0):jL A (jB (λ_=>aA) [(0,az z)]) j=aA:=by
 have h:jB (λ_=>aA) [(0,az z)] j=aA:=by
  unfold jB;exact m9 (Ne.symm hj)
 unfold jL;rw[h];rfl
theorem amN {S:jv}{w:aN}(l:aa af):kR S w (l.map (cj .i64)) l:=by
 refine⟨by show _=l.length*1;simp,λi hi=>?_⟩;show((l.map (cj .i64)).drop (i*1)).take 1=[.int .i64 l[i]];rw[dy,eE (by simpa using hi),aoC,dJ];simp
theorem adL {S:jv}{w:aN}{xs:aa aO}{l:aa af}(h:kR S w xs l):xs=l.map (cj .i64):=by
 have hl:xs.length=l.length:=by have:=h.1;rwa[show Data.size af=1 from rfl,dy] at this
 apply anG (by simpa using hl);intro i h1 h2;have h3:=h.2 i (by omega);have h3:((xs.drop (i*1)).take 1)=[.int .i64 l[i]]:=h3;rw[dy,eE h1,aoC,dJ] at h3;rw[(eZ h3).1];simp
def x5 (l:aa af):aa af:=l.mergeSort λx y=>aE (x<=y)
theorem Oh (l:aa af):(x5 l).length=l.length:=List.length_mergeSort _
theorem aae {l:aa af}(h:IV l):x5 l=l:=List.mergeSort_of_pairwise (h.imp λq=>cT (Int.le_of_lt q))
abbrev EI:sM:=⟨[.row 3 .int],[.own 0],[.row 3 .int],[],1,aD,[]⟩
theorem aho:nX aR 69 EI (λx=>(show aa af from x.1.1).length<=1000000) (λx=>((x5 (show aa af from x.1.1),()),())):=by
 intro o A x H _ hd;obtain⟨⟨l,_⟩,_⟩:=x;change aa af at l;change l.length<=1000000 at hd;have h0:jL A (jB (λ_=>aA) (mJ 0 EI.sh (l,()))) 0=az (@yF (El .int) _ 3 (A.v 0) l):=rfl;have V3:∀j,j≠0->jL A (jB (λ_=>aA) (mJ 0 EI.sh (l,()))) j=aA:=λj hj=>Og (z:=.row 3 .int l) hj;have lU:=λb hb=>H.own 0 _ b h0 hb;obtain⟨xs,hh',hR'⟩:=H.ok 0 _ h0;have hh:oM o.w 3 1 (A.v 0) (e8 (α:=af) l) xs:=hh';have hx:xs=l.map (cj .i64):=adL hR';show aI _ _ #[A.v 0] o.w _;have ue:∀w',rE o.w w' (λb=>(A.v 0).ownBlock=az b)->mI (α:=af) o.S w' 3 (A.v 0) (x5 l)->PN o A EI ((x5 l,()),()) (.returned (.tuple #[])) w':=λw' hg p9=>by
  have H2:=H.mut 0 h0 hg;have H3:=H2.put 0 (@yF (El .int) _ 3 (A.v 0) (x5 l)) p9 λb hb=>⟨(lU b hb).1,bR (lU b hb).2.1 hg.size,(lU b hb).2.2,λi ri hi hf=>by
   have h5:=((aP hi).symm.trans hf).symm.trans (V3 i hi);cases h5⟩
  refine⟨_,rfl,A,o.S,λ_ _=>⟨rfl,rfl,rfl,rfl⟩,H3.sub λj r hj=>?_,rfl⟩
  by_cases q:j=0
  .subst q;exact hj
  exact ay (hj.symm.trans (Og (z:=.row 3 .int (x5 l)) q)) (by simp)
 have yp:l=[]->mI (α:=af) o.S o.w 3 (A.v 0) (x5 l):=λe=>by
  have e2:x5 l=l:=by rw[e];simp[x5]
  rw[e2];exact⟨xs,hh',hR'⟩
 rcases hh.2 with⟨hv,hn⟩|⟨g,dd,cap,cur,hv,hg,O0,vR,kO,rW⟩
 .have e:l=[]:=cH hn;have hs:aI aR 69 #[A.v 0] o.w (λe w'=>e= .returned (.tuple #[])/\w'=o.w):=by rw[hv];exact Tryz.slices_Sort_int_none aA 0 o.w
  exact hs.mono λe' w' ⟨he,hw⟩=>by rw[he,hw];exact ue _ (rE.refl _ _) (yp e)
 have hgs:g<o.w.heap.size:=(di.1 hg).1;have hH:Holds (cj .i64) o.w g (dd*1) l.toArray:=ahm hg (by rw[dL,<-hx,<-rW,dy l.length]);have hS:=Tryz.slices_Sort_int g (dd*1) cap l o.w hH hgs (by omega);rw[hv];refine hS.mono λe w' ⟨he,n,os,hw⟩=>?_;change w'=grow (putRow (cj .i64) (aoe o.w n) g (dd*1) (x5 l).toArray) os at hw;have hrl:=Oh l;rw[he];refine ue w' ?_ ⟨(x5 l).map (cj .i64),⟨?_,.inr ⟨g,dd,cap,putCells (cj .i64) (dd*1) (x5 l).toArray cur,?_,?_,?_,vR,?_,?_⟩⟩,amN _⟩
 .rw[hw,hv];exact amM
 .rw[bH];exact(dy _).symm
 .rw[hv,hrl];rfl
 .rw[hw];exact aku hg
 .rw[hrl];exact O0
 .unfold putCells;rw[Array.size_mapIdx];exact kO
 have:=akv (enc:=cj .i64) (off:=dd*1) (d:=(x5 l).toArray) (cur:=cur) (by rw[dL,hrl];show dd*1+l.length<=cur.size;have h9:(dd+cap)*1<=cur.size:=kO;omega);rw[dL] at this;show((putCells (cj .i64) (dd*1) (x5 l).toArray cur).toList.drop (dd*1)).take ((x5 l).length*1)=_;rw[dy (x5 l).length,this]
def ahp:lM aR:=r8 aho
structure qR (N wa wz:af)(ws:v8):Prop where
 b:LnB wa ws
 z0:0<=wz
 z1:wa+wz<=N
 n:N<=1000000
 at_:∀i:ah,i<ws.length->(ws.getD i (0,⟨#[]⟩)).1<=wz
theorem qR.pl {N wa wz:af}{ws:v8}(h:qR N wa wz ws){i:ah}(hi:i<ws.length):0<=wa+(ws.getD i (0,⟨#[]⟩)).1/\wa+(ws.getD i (0,⟨#[]⟩)).1<=N:=by
 have:=h.b.a0;have:=h.z1;have:=h.at_ i hi;have:=h.b.pos i hi;omega
def yo (m:mZ)(n:af):Prop:=∀x,(jo (k:=.str) m x).isSome=aC->-1000000<=(jo (k:=.str) m x).getD 0/\(jo (k:=.str) m x).getD 0<n
theorem Ah.c {m:mZ}{nW nE:ah}(h:Ah m nW nE)(h1:nW<=1000000){n:af}(h2:(nE:af)<=n):yo m n:=λx hx=>by
 have: -(nW:af)<=(jo (k:=.str) m x).getD 0/\(jo (k:=.str) m x).getD 0<(nE:af):=h.gt hx;omega
theorem Tb (x:aj):(trimB x).size<=x.size:=by
 have h:(x.data.toList.reverse.dropWhile λb=>([43,45]:aa UInt8).contains b).length<=x.data.toList.reverse.length:=(List.dropWhile_sublist _).length_le;show(anK x.data.toList [43,45]).toArray.size<=x.data.size;unfold Lib.trimRightS;rw[arT,cU] at h;rw[dL,arT];exact h
section
variable {m:mZ}{vx:ak}{x:aj}
theorem akw (q:(trimB x=(⟨#[]⟩:aj)\/(1:af)<(x.size:af)-((trimB x).size:af))\/((x.size:af)-((trimB x).size:af)=0/\vx=aD)):¬ov m vx x:=λh=>by
 obtain⟨⟨a,b⟩,c⟩:=(ZM h).1;rcases q with(q|q)|⟨q1,q2⟩
 .exact a q
 .exact b q
 rcases c with c|c
 .exact c q1
 rw[c] at q2;cases q2
theorem akx (q:(jo (k:=.str) m (trimB x)).isSome=aD\/((aE ((jo (k:=.str) m (trimB x)).getD 0<0))==(aE ((x.size:af)-((trimB x).size:af)=0)))=aD):¬ov m vx x:=λh=>by
 obtain⟨a,b⟩:=(ZM h).2;rcases q with q|q
 .rw[a] at q;cases q
 rw[b] at q;cases q
theorem aaf (h1:((¬(trimB x=(⟨#[]⟩:aj)))/\(¬((1:af)<(x.size:af)-((trimB x).size:af))))/\((¬((x.size:af)-((trimB x).size:af)=0))\/(vx=aC)))
  (h2:((jo (k:=.str) m (trimB x)).isSome=aC)/\(((aE ((jo (k:=.str) m (trimB x)).getD 0<0))==(aE ((x.size:af)-((trimB x).size:af)=0)))=aC)):ov m vx x:=by
 obtain⟨⟨a,b⟩,c⟩:=h1;have⟨d,e⟩:=h2;have g:=Tb x;obtain⟨k,hk⟩:=bS.1 d;rw[hk] at e;have e:(aE (k<0)==aE ((x.size:af)-((trimB x).size:af)=0))=aC:=e;have e:k<0↔(x.size:af)-((trimB x).size:af)=0:=by
  have e:=eq_of_beq e;exact decide_eq_decide.1 e
 refine⟨λz=>a (Qh.2 z),by omega,g,λz=>c.resolve_left λy=>y (by omega),k,hk,λz=>?_,λz=>?_⟩
 .have:=e.1 z;omega
 exact e.2 (by omega)
end
section
variable {s:RS}{ws:v8}{g:af}
theorem aky (hb:s.b=aD)(h0:(0:af)<(aM ws:af))(hw:lT ws 0=wZ\/lT ws 0=uv)(h1:¬(1:af)<(aM ws:af)):Ld s ws:=⟨by omega,by rw[aQ hb];exact⟨hw,by omega⟩⟩
theorem aag (hb:s.b=aC)(h0:(0:af)<(aM ws:af))(h1:(kV s.k (lT ws 0)).2=aC)(h2:s.t<=(kV s.k (lT ws 0)).1)(e:(kV s.k (lT ws 0)).1=g)(h:VW g s ws):Ld s ws:=⟨by omega,by rw[aP (by rw[hb];decide)];exact⟨h1,h2,e▸h⟩⟩
theorem amO (hb:s.b=aD)(h:¬lT ws 0=wZ)(h2:¬lT ws 0=uv):¬Ld s ws:=λq=>(afl q hb).1.elim h h2
theorem afo (hb:s.b=aD)(h:(1:af)<(aM ws:af)):¬Ld s ws:=λq=>by have:=(afl q hb).2;omega
theorem amP (hb:s.b=aC)(h:(kV s.k (lT ws 0)).2=aD\/(kV s.k (lT ws 0)).1<s.t):¬Ld s ws:=λq=>by
 obtain⟨a,b,_⟩:=ZN q hb;rcases h with h|h
 .rw[a] at h;cases h
 omega
theorem Oi (hb:s.b=aC)(e:(kV s.k (lT ws 0)).1=g)(h:¬VW g s ws):¬Ld s ws:=λq=>h (e▸(ZN q hb).2.2)
end
abbrev Tc:sM:=⟨[.box 107 [.own 1,.int,.int,.int],.rd (.pair .int .str)],[.ptr 0 0],[.box 107 [.own 1,.int,.int,.int],.rd (.pair .int .str)],[.bool],2,aD,[]⟩
theorem ahq:nX aR 58 Tc (λ_=>av) (λx=>((((),(I_ x.1.1.2.1),(I_ x.1.1.2.2.1),(I_ x.1.1.2.2.2.1),()),(show aa (af×aj) from x.1.2.1),()),(aE ((I_ x.1.1.2.2.2.1)<((show aa (af×aj) from x.1.2.1).length:af)),()))):=by
 refine oA f58 13 [] Tc func58 λo A x hd _ _ h=>?_;obtain⟨⟨⟨_,(wa:af),(wz:af),(wn:af),_⟩,(ws:aa (af×aj)),_⟩,⟨_,_⟩⟩:=x;have uB:(aM ws:af)<=9223372036854775807:=tP h 1 (t:=(.pair .int .str)) (l:=ws);refine tY [] h ?_;intro _ _ h;exact mA ((((),wa,wz,wn,()),ws,()),(aE (wn<(aM ws:af)),())) (ir 2) h rfl
def Lr:lM aR:=r8 ahq
abbrev adM:sM:=⟨[.box 107 [.own 1,.int,.int,.int],.rd (.pair .int .str)],[.ptr 0 0],[.box 107 [.own 1,.int,.int,.int],.rd (.pair .int .str)],[.str,.int],2,aD,[]⟩
theorem Td (zN:af):vc 89 zN aR 59 adM (λx=>qR zN (I_ x.1.1.2.1) (I_ x.1.1.2.2.1) (show aa (af×aj) from x.1.2.1)/\0<=(I_ x.1.1.2.2.2.1)/\(I_ x.1.1.2.2.2.1)<=1000000) (λx=>(I_ x.1.1.2.2.2.1)<((show aa (af×aj) from x.1.2.1).length:af)) (λx=>((((),(I_ x.1.1.2.1),(I_ x.1.1.2.2.1),(I_ x.1.1.2.2.2.1)+1,()),(show aa (af×aj) from x.1.2.1),()),(((show aa (af×aj) from x.1.2.1).getD (I_ x.1.1.2.2.2.1).toNat (0,⟨#[]⟩)).2,(I_ x.1.1.2.1)+((show aa (af×aj) from x.1.2.1).getD (I_ x.1.1.2.2.2.1).toNat (0,⟨#[]⟩)).1,()))):=by
 refine tB f59 45 [Lr] func59 λo A x hd _ _ h=>?_;obtain⟨⟨⟨_,(wa:af),(wz:af),(wn:af),_⟩,(ws:aa (af×aj)),_⟩,⟨_,_⟩⟩:=x;have uB:(aM ws:af)<=9223372036854775807:=tP h 1 (t:=(.pair .int .str)) (l:=ws);change qR zN wa wz ws/\0<=wn/\wn<=1000000 at hd;have⟨hB,n0,n2⟩:=hd;have QJ:=hB.b.a0;have QK:=hB.b.a1;have LO:=hB.z0;have Af:=hB.z1;have hN:=hB.n;have hlb:=hB.b.len;refine go (pr:=av) [] h tv ?_;refine jZ (λ(q1:(aE (wn<(aM ws:af)))=aD)=>?_) (λ(q1:(aE (wn<(aM ws:af)))=aC)=>?_)
 .intro _ _ h;refine zI (by exact bL q1) ?_;exact Ku (pr:=(jX .i64 (wa+wz))) (yY aR) [] 11 h kC λ_ _ _ h1 h2 h3=>qI (Ae (ft:=89) (x:=(wa+wz)) (y:=(15:af)) h1 ⟨by omega,by omega⟩ (by decide)) h2 h3
 have n1:=bq q1;obtain⟨_,n3,n4⟩:=hB.b.wd n0 n1;refine jY (pr:=(j8 wn ws.length)/\(jX .i64 (wn+1))/\(jX .i64 (wa+((ws.getD wn.toNat (0,⟨#[]⟩)).1)))) ⟨bx,kC,kC⟩ ?_;intro _ _ h;refine vY (by exact bq q1) ?_;exact mA ((((),wa,wz,wn+1,()),ws,()),((ws.getD wn.toNat (0,⟨#[]⟩)).2,wa+((ws.getD wn.toNat (0,⟨#[]⟩)).1),())) (ir 2) h rfl
def Cf (zN:af):lM aR:=r8 (Td zN).yes
def EJ (zN:af):Ad aR:=Hv (Td zN).no
abbrev ahr:sM:=⟨[.box 98 [.int,.own 3,.own 4,.own 5,.own 6,.own 7,.own 8,.bool,.int,.mp 9,.mp 10,.mp 11,.mp 12,.own 13],.box 107 [.own 2,.int,.int,.int],.rd (.pair .int .str),.any,.any,.any,.any,.any,.any,.map .str .int,.any,.any,.any,.any],[.ptr 0 0,.ptr 1 0],[.box 98 [.int,.own 3,.own 4,.own 5,.own 6,.own 7,.own 8,.bool,.int,.mp 9,.mp 10,.mp 11,.mp 12,.own 13],.box 107 [.own 2,.int,.int,.int],.rd (.pair .int .str),.any,.any,.any,.any,.any,.any,.map .str .int,.any,.any,.any,.any],[.str],14,aD,[]⟩
theorem afp (zN:af):vc 89 zN aR 84 ahr (λx=>qR zN (I_ x.1.2.1.2.1) (I_ x.1.2.1.2.2.1) (show aa (af×aj) from x.1.2.2.1)/\0<=(I_ x.1.2.1.2.2.2.1)/\(I_ x.1.2.1.2.2.2.1)<=1000000) (λx=>(I_ x.1.2.1.2.2.2.1)<((show aa (af×aj) from x.1.2.2.1).length:af)/\kN ((show aa (af×aj) from x.1.2.2.1).getD (I_ x.1.2.1.2.2.2.1).toNat (0,⟨#[]⟩)).2=aC/\(jo (k:=.str) (show jw .str af from x.1.2.2.2.2.2.2.2.2.2.1) (((show aa (af×aj) from x.1.2.2.1).getD (I_ x.1.2.1.2.2.2.1).toNat (0,⟨#[]⟩)).2)).isSome=aD) (λx=>((((I_ x.1.1.1),(),(),(),(),(),(),(show ak from x.1.1.2.2.2.2.2.2.2.1),(I_ x.1.1.2.2.2.2.2.2.2.2.1),(),(),(),(),(),()),((),(I_ x.1.2.1.2.1),(I_ x.1.2.1.2.2.1),(I_ x.1.2.1.2.2.2.1)+1,()),(show aa (af×aj) from x.1.2.2.1),(),(),(),(),(),(),(show jw .str af from x.1.2.2.2.2.2.2.2.2.2.1),(),(),(),(),()),(((show aa (af×aj) from x.1.2.2.1).getD (I_ x.1.2.1.2.2.2.1).toNat (0,⟨#[]⟩)).2,()))):=by
 refine tB f84 34 [(Cf zN),aac] func84 λo A x hd _ _ h=>?_;obtain⟨⟨⟨(xk:af),_,_,_,_,_,_,(xb:ak),(xt:af),_,_,_,_,_,_⟩,⟨_,(wa:af),(wz:af),(wn:af),_⟩,(ws:aa (af×aj)),_,_,_,_,_,_,(nm:jw .str af),_,_,_,_,_⟩,⟨_,_,_⟩⟩:=x;have rI:(aM ws:af)<=9223372036854775807:=tP h 2 (t:=(.pair .int .str)) (l:=ws);change qR zN wa wz ws/\0<=wn/\wn<=1000000 at hd;have⟨hB,n0,n2⟩:=hd;have QJ:=hB.b.a0;have QK:=hB.b.a1;have LO:=hB.z0;have Af:=hB.z1;have hN:=hB.n;have hlb:=hB.b.len;refine tY [(1000001,aC)] h ?_;intro _ _ h
 by_cases z1:wn<(aM ws:af)
 rotate_left
 .refine zI (by exact λh=>z1 h.1) ?_;exact mB (pr:=(qR zN wa wz ws/\0<=wn/\wn<=1000000)/\¬(wn<(aM ws:af))) (EJ zN).op [] 1 h (⟨⟨hB,by omega,by omega⟩,z1⟩) λ_ _ _ h1 h2 h3=>qI h1.choose_spec h2 h3
 obtain⟨wS,hp1⟩:=hB.pl (i:=wn.toNat) (by omega);have hzn:=hB.b.sz (n:=wn.toNat) (by omega);refine go (pr:=((qR zN wa wz ws/\0<=wn/\wn<=1000000)/\(wn<(aM ws:af)))/\av) [] h ⟨⟨⟨hB,by omega,by omega⟩,z1⟩,tv⟩ ?_;refine jZ (λ(q1:(kN ((ws.getD wn.toNat (0,⟨#[]⟩)).2))=aD)=>?_) (λ(q1:(kN ((ws.getD wn.toNat (0,⟨#[]⟩)).2))=aC)=>?_)
 .intro _ _ h;refine zI (by exact λh=>aof (h.2.1.symm.trans q1)) ?_;exact mB (pr:=av) (yY aR) [] 3 h tv λ_ _ _ h1 h2 h3=>qI (Ae (ft:=89) (x:=(wa+(ws.getD wn.toNat (0,⟨#[]⟩)).1)) (y:=(11:af)) h1 ⟨by omega,by omega⟩ (by decide)) h2 h3
 refine jY (pr:=(nv .str ((ws.getD wn.toNat (0,⟨#[]⟩)).2))) wks ?_;refine jZ (λ(q2:((jo (k:=.str) nm ((ws.getD wn.toNat (0,⟨#[]⟩)).2)).isSome)=aC)=>?_) (λ(q2:((jo (k:=.str) nm ((ws.getD wn.toNat (0,⟨#[]⟩)).2)).isSome)=aD)=>?_)
 .intro _ _ h;refine zI (by exact λh=>aof (q2.symm.trans h.2.2)) ?_;exact mB (pr:=av) (yY aR) [] 3 h tv λ_ _ _ h1 h2 h3=>qI (Ae (ft:=89) (x:=(wa+(ws.getD wn.toNat (0,⟨#[]⟩)).1)) (y:=(12:af)) h1 ⟨by omega,by omega⟩ (by decide)) h2 h3
 refine jQ ?_;intro _ _ h;refine vY (by exact⟨z1,q1,q2⟩) ?_;exact mA (((xk,(),(),(),(),(),(),xb,xt,(),(),(),(),(),()),((),wa,wz,wn+1,()),ws,(),(),(),(),(),(),nm,(),(),(),(),()),((ws.getD wn.toNat (0,⟨#[]⟩)).2,())) (ir 14) h rfl
def afq (zN:af):lM aR:=r8 (afp zN).yes
def afr (zN:af):Ad aR:=Hv (afp zN).no
abbrev ahs:sM:=⟨[.box 98 [.int,.own 3,.own 4,.own 5,.own 6,.own 7,.own 8,.bool,.int,.mp 9,.mp 10,.mp 11,.mp 12,.own 13],.box 107 [.own 2,.int,.int,.int],.rd (.pair .int .str),.any,.any,.any,.any,.any,.any,.map .str .int,.any,.any,.any,.any],[.ptr 0 0,.ptr 1 0],[.box 98 [.int,.own 3,.own 4,.own 5,.own 6,.own 7,.own 8,.bool,.int,.mp 9,.mp 10,.mp 11,.mp 12,.own 13],.box 107 [.own 2,.int,.int,.int],.rd (.pair .int .str),.any,.any,.any,.any,.any,.any,.map .str .int,.any,.any,.any,.any],[.int,.int],14,aD,[]⟩
theorem afs (zN:af):vc 89 zN aR 85 ahs (λx=>qR zN (I_ x.1.2.1.2.1) (I_ x.1.2.1.2.2.1) (show aa (af×aj) from x.1.2.2.1)/\0<=(I_ x.1.2.1.2.2.2.1)/\(I_ x.1.2.1.2.2.2.1)<=1000000/\yo (show jw .str af from x.1.2.2.2.2.2.2.2.2.2.1) 1000001) (λx=>(I_ x.1.2.1.2.2.2.1)<((show aa (af×aj) from x.1.2.2.1).length:af)/\(jo (k:=.str) (show jw .str af from x.1.2.2.2.2.2.2.2.2.2.1) (((show aa (af×aj) from x.1.2.2.1).getD (I_ x.1.2.1.2.2.2.1).toNat (0,⟨#[]⟩)).2)).isSome=aC/\(jo (k:=.str) (show jw .str af from x.1.2.2.2.2.2.2.2.2.2.1) (((show aa (af×aj) from x.1.2.2.1).getD (I_ x.1.2.1.2.2.2.1).toNat (0,⟨#[]⟩)).2)).getD 0<0) (λx=>((((I_ x.1.1.1),(),(),(),(),(),(),(show ak from x.1.1.2.2.2.2.2.2.2.1),(I_ x.1.1.2.2.2.2.2.2.2.2.1),(),(),(),(),(),()),((),(I_ x.1.2.1.2.1),(I_ x.1.2.1.2.2.1),(I_ x.1.2.1.2.2.2.1)+1,()),(show aa (af×aj) from x.1.2.2.1),(),(),(),(),(),(),(show jw .str af from x.1.2.2.2.2.2.2.2.2.2.1),(),(),(),(),()),((-1-(jo (k:=.str) (show jw .str af from x.1.2.2.2.2.2.2.2.2.2.1) (((show aa (af×aj) from x.1.2.2.1).getD (I_ x.1.2.1.2.2.2.1).toNat (0,⟨#[]⟩)).2)).getD 0),(I_ x.1.2.1.2.1)+((show aa (af×aj) from x.1.2.2.1).getD (I_ x.1.2.1.2.2.2.1).toNat (0,⟨#[]⟩)).1,()))):=by
 refine tB f85 36 [(Cf zN)] func85 λo A x hd _ _ h=>?_;obtain⟨⟨⟨(xk:af),_,_,_,_,_,_,(xb:ak),(xt:af),_,_,_,_,_,_⟩,⟨_,(wa:af),(wz:af),(wn:af),_⟩,(ws:aa (af×aj)),_,_,_,_,_,_,(nm:jw .str af),_,_,_,_,_⟩,⟨_,_,_⟩⟩:=x;have rI:(aM ws:af)<=9223372036854775807:=tP h 2 (t:=(.pair .int .str)) (l:=ws);change qR zN wa wz ws/\0<=wn/\wn<=1000000/\yo nm 1000001 at hd;have⟨hB,n0,n2,Aj⟩:=hd;have QJ:=hB.b.a0;have QK:=hB.b.a1;have LO:=hB.z0;have Af:=hB.z1;have hN:=hB.n;have hlb:=hB.b.len;refine tY [(1000001,aC)] h ?_;intro _ _ h
 by_cases z1:wn<(aM ws:af)
 rotate_left
 .refine zI (by exact λh=>z1 h.1) ?_;exact mB (pr:=(qR zN wa wz ws/\0<=wn/\wn<=1000000)/\¬(wn<(aM ws:af))) (EJ zN).op [] 1 h (⟨⟨hB,by omega,by omega⟩,z1⟩) λ_ _ _ h1 h2 h3=>qI h1.choose_spec h2 h3
 obtain⟨wS,hp1⟩:=hB.pl (i:=wn.toNat) (by omega);have hzn:=hB.b.sz (n:=wn.toNat) (by omega);refine go (pr:=((qR zN wa wz ws/\0<=wn/\wn<=1000000)/\(wn<(aM ws:af)))/\(nv .str ((ws.getD wn.toNat (0,⟨#[]⟩)).2))) [] h ⟨⟨⟨hB,by omega,by omega⟩,z1⟩,wks⟩ ?_;refine jZ (λ(q1:(((jo (k:=.str) nm ((ws.getD wn.toNat (0,⟨#[]⟩)).2)).isSome)=aD)\/((0:af)<=((jo (k:=.str) nm ((ws.getD wn.toNat (0,⟨#[]⟩)).2)).getD 0)))=>?_) (λ(q1:(((jo (k:=.str) nm ((ws.getD wn.toNat (0,⟨#[]⟩)).2)).isSome)=aC)/\(¬((0:af)<=((jo (k:=.str) nm ((ws.getD wn.toNat (0,⟨#[]⟩)).2)).getD 0))))=>?_)
 .intro _ _ h;refine zI (by exact λh=>q1.elim (λe=>aof (h.2.1.symm.trans e)) λe=>Int.not_lt.2 e h.2.2) ?_;exact mB (pr:=av) (yY aR) [] 3 h tv λ_ _ _ h1 h2 h3=>qI (Ae (ft:=89) (x:=(wa+(ws.getD wn.toNat (0,⟨#[]⟩)).1)) (y:=(13:af)) h1 ⟨by omega,by omega⟩ (by decide)) h2 h3
 have hg:=Aj _ q1.1;refine jY (pr:=(jX .i64 ((-1)-((jo (k:=.str) nm ((ws.getD wn.toNat (0,⟨#[]⟩)).2)).getD 0)))) kC ?_;intro _ _ h;refine vY (by exact⟨z1,q1.1,Int.not_le.1 q1.2⟩) ?_;exact mA (((xk,(),(),(),(),(),(),xb,xt,(),(),(),(),(),()),((),wa,wz,wn+1,()),ws,(),(),(),(),(),(),nm,(),(),(),(),()),((-1)-((jo (k:=.str) nm ((ws.getD wn.toNat (0,⟨#[]⟩)).2)).getD 0),wa+(ws.getD wn.toNat (0,⟨#[]⟩)).1,())) (ir 14) h rfl
def aft (zN:af):lM aR:=r8 (afs zN).yes
def aah (zN:af):Ad aR:=Hv (afs zN).no
abbrev aht:sM:=⟨[.box 98 [.int,.own 13,.own 3,.own 4,.own 5,.own 6,.own 7,.bool,.int,.mp 8,.mp 9,.mp 10,.mp 11,.own 12],.box 107 [.own 2,.int,.int,.int],.rd (.pair .int .str),.any,.any,.any,.any,.any,.map .str .int,.any,.any,.any,.any,.row 9 .str],[.ptr 0 0,.ptr 1 0],[.box 98 [.int,.own 13,.own 3,.own 4,.own 5,.own 6,.own 7,.bool,.int,.mp 8,.mp 9,.mp 10,.mp 11,.own 12],.box 107 [.own 2,.int,.int,.int],.rd (.pair .int .str),.any,.any,.any,.any,.any,.map .str .int,.any,.any,.any,.any,.row 9 .str],[],13,aD,[]⟩
theorem afu (zN:af):vc 89 zN aR 61 aht (λx=>(I_ x.1.2.1.2.2.2.1)=1/\qR zN (I_ x.1.2.1.2.1) (I_ x.1.2.1.2.2.1) (show aa (af×aj) from x.1.2.2.1)/\(show jw .str af from x.1.2.2.2.2.2.2.2.2.1).length<=1000000/\(B_ x.1.2.2.2.2.2.2.2.2.2.2.2.2.2.1).length<=1000000) (λx=>(1:af)<((show aa (af×aj) from x.1.2.2.1).length:af)/\kN ((show aa (af×aj) from x.1.2.2.1).getD 1 (0,⟨#[]⟩)).2=aC/\(jo (k:=.str) (show jw .str af from x.1.2.2.2.2.2.2.2.2.1) (((show aa (af×aj) from x.1.2.2.1).getD 1 (0,⟨#[]⟩)).2)).isSome=aD) (λx=>((((I_ x.1.1.1),(),(),(),(),(),(),(show ak from x.1.1.2.2.2.2.2.2.2.1),(I_ x.1.1.2.2.2.2.2.2.2.2.1),(),(),(),(),(),()),((),(I_ x.1.2.1.2.1),(I_ x.1.2.1.2.2.1),(2:af),()),(show aa (af×aj) from x.1.2.2.1),(),(),(),(),(),(nG (k:=.str) (show jw .str af from x.1.2.2.2.2.2.2.2.2.1) ((show aa (af×aj) from x.1.2.2.1).getD 1 (0,⟨#[]⟩)).2 (-1-((B_ x.1.2.2.2.2.2.2.2.2.2.2.2.2.2.1).length:af))),(),(),(),(),((B_ x.1.2.2.2.2.2.2.2.2.2.2.2.2.2.1)++[((show aa (af×aj) from x.1.2.2.1).getD 1 (0,⟨#[]⟩)).2]),()),(()))):=by
 refine tB f61 32 [(afq zN)] func61 λo A x hd _ _ h=>?_;obtain⟨⟨⟨(xk:af),_,_,_,_,_,_,(xb:ak),(xt:af),_,_,_,_,_,_⟩,⟨_,(wa:af),(wz:af),(wn:af),_⟩,(ws:aa (af×aj)),_,_,_,_,_,(nm:jw .str af),_,_,_,_,(vv:aa aj),_⟩,⟨_,_,_⟩⟩:=x;have rI:(aM ws:af)<=9223372036854775807:=tP h 2 (t:=(.pair .int .str)) (l:=ws);have amQ:=LU h 13 vv;change wn=1/\qR zN wa wz ws/\nm.length<=1000000/\vv.length<=1000000 at hd;obtain⟨rfl,hB,hnl,hvl⟩:=hd;have QJ:=hB.b.a0;have QK:=hB.b.a1;have LO:=hB.z0;have Af:=hB.z1;have hN:=hB.n;have hlb:=hB.b.len;refine tY [(1000000,aC)] h ?_;intro _ _ h
 by_cases z1:(1:af)<(aM ws:af)/\kN (ws.getD 1 (0,⟨#[]⟩)).2=aC/\(jo (k:=.str) nm ((ws.getD 1 (0,⟨#[]⟩)).2)).isSome=aD
 rotate_left
 .refine zI (by exact z1) ?_;exact mB (pr:=(qR zN wa wz ws/\0<=(1:af)/\(1:af)<=1000000)/\¬((1:af)<(aM ws:af)/\kN (ws.getD 1 (0,⟨#[]⟩)).2=aC/\(jo (k:=.str) nm ((ws.getD 1 (0,⟨#[]⟩)).2)).isSome=aD)) (afr zN).op [] 2 h (⟨⟨hB,by omega,by omega⟩,z1⟩) λ_ _ _ h1 h2 h3=>qI h1.choose_spec h2 h3
 obtain⟨wS,hp1⟩:=hB.pl (i:=1) (by omega);have Af:=hB.b.sz (n:=1) (by omega);refine go (pr:=((qR zN wa wz ws/\0<=(1:af)/\(1:af)<=1000000)/\((1:af)<(aM ws:af)/\kN (ws.getD 1 (0,⟨#[]⟩)).2=aC/\(jo (k:=.str) nm ((ws.getD 1 (0,⟨#[]⟩)).2)).isSome=aD))/\(jX .i64 ((-1)-(aM vv:af)))/\(nv .str ((ws.getD 1 (0,⟨#[]⟩)).2))/\(nm.length<=2147483647)/\(vv.length+([(ws.getD 1 (0,⟨#[]⟩)).2]:aa aj).length<=2147483647)) [] h ⟨⟨⟨hB,by omega,by omega⟩,z1⟩,kC,wks,ln,ln⟩ ?_;intro _ _ h;refine vY (by exact z1) ?_;exact mA (((xk,(),(),(),(),(),(),xb,xt,(),(),(),(),(),()),((),wa,wz,(2:af),()),ws,(),(),(),(),(),(nG (k:=.str) nm ((ws.getD 1 (0,⟨#[]⟩)).2) ((-1)-(aM vv:af))),(),(),(),(),(vv++([(ws.getD 1 (0,⟨#[]⟩)).2]:aa aj)),()),(())) (rk [0,1,2,3,4,5,6,7,8,9,10,11,12,102414]) h rfl
def akz (zN:af):lM aR:=r8 (afu zN).yes
def akA (zN:af):Ad aR:=Hv (afu zN).no
abbrev ahu:sM:=⟨[.box 98 [.int,.own 3,.own 13,.own 4,.own 5,.own 6,.own 7,.bool,.int,.mp 8,.mp 9,.mp 10,.mp 11,.own 12],.box 107 [.own 2,.int,.int,.int],.rd (.pair .int .str),.any,.any,.any,.any,.any,.map .str .int,.any,.any,.any,.any,.row 84 yx],[.ptr 0 0,.ptr 1 0,.str],[.box 98 [.int,.own 3,.own 13,.own 4,.own 5,.own 6,.own 7,.bool,.int,.mp 8,.mp 9,.mp 10,.mp 11,.own 12],.box 107 [.own 2,.int,.int,.int],.rd (.pair .int .str),.any,.any,.any,.any,.any,.map .str .int,.any,.any,.any,.any,.row 84 yx],[],13,aD,[]⟩
theorem afv (zN:af):vc 89 zN aR 62 ahu (λx=>(I_ x.1.2.1.2.2.2.1)=1/\qR zN (I_ x.1.2.1.2.1) (I_ x.1.2.1.2.2.1) (show aa (af×aj) from x.1.2.2.1)/\yo (show jw .str af from x.1.2.2.2.2.2.2.2.2.1) 1000001/\(show jw .str af from x.1.2.2.2.2.2.2.2.2.1).length<=1000000/\(N_ x.1.2.2.2.2.2.2.2.2.2.2.2.2.2.1).length<=1000000) (λx=>((1:af)<((show aa (af×aj) from x.1.2.2.1).length:af)/\kN ((show aa (af×aj) from x.1.2.2.1).getD 1 (0,⟨#[]⟩)).2=aC/\(jo (k:=.str) (show jw .str af from x.1.2.2.2.2.2.2.2.2.1) (((show aa (af×aj) from x.1.2.2.1).getD 1 (0,⟨#[]⟩)).2)).isSome=aD)/\((2:af)<((show aa (af×aj) from x.1.2.2.1).length:af)/\(jo (k:=.str) (show jw .str af from x.1.2.2.2.2.2.2.2.2.1) (((show aa (af×aj) from x.1.2.2.1).getD 2 (0,⟨#[]⟩)).2)).isSome=aC/\(jo (k:=.str) (show jw .str af from x.1.2.2.2.2.2.2.2.2.1) (((show aa (af×aj) from x.1.2.2.1).getD 2 (0,⟨#[]⟩)).2)).getD 0<0)/\((3:af)<((show aa (af×aj) from x.1.2.2.1).length:af)/\(jo (k:=.str) (show jw .str af from x.1.2.2.2.2.2.2.2.2.1) (((show aa (af×aj) from x.1.2.2.1).getD 3 (0,⟨#[]⟩)).2)).isSome=aC/\(jo (k:=.str) (show jw .str af from x.1.2.2.2.2.2.2.2.2.1) (((show aa (af×aj) from x.1.2.2.1).getD 3 (0,⟨#[]⟩)).2)).getD 0<0)) (λx=>((((I_ x.1.1.1),(),(),(),(),(),(),(show ak from x.1.1.2.2.2.2.2.2.2.1),(I_ x.1.1.2.2.2.2.2.2.2.2.1),(),(),(),(),(),()),((),(I_ x.1.2.1.2.1),(I_ x.1.2.1.2.2.1),(4:af),()),(show aa (af×aj) from x.1.2.2.1),(),(),(),(),(),(nG (k:=.str) (show jw .str af from x.1.2.2.2.2.2.2.2.2.1) ((show aa (af×aj) from x.1.2.2.1).getD 1 (0,⟨#[]⟩)).2 ((N_ x.1.2.2.2.2.2.2.2.2.2.2.2.2.2.1).length:af)),(),(),(),(),((N_ x.1.2.2.2.2.2.2.2.2.2.2.2.2.2.1)++[(((show aa (af×aj) from x.1.2.2.1).getD 1 (0,⟨#[]⟩)).2,(-1-(jo (k:=.str) (show jw .str af from x.1.2.2.2.2.2.2.2.2.1) (((show aa (af×aj) from x.1.2.2.1).getD 2 (0,⟨#[]⟩)).2)).getD 0,(-1-(jo (k:=.str) (show jw .str af from x.1.2.2.2.2.2.2.2.2.1) (((show aa (af×aj) from x.1.2.2.1).getD 3 (0,⟨#[]⟩)).2)).getD 0,Vj (S_ x.2.2.2.1))))]),()),(()))):=by
 refine tB f62 56 [(afq zN),(aft zN)] func62 λo A x hd _ _ h=>?_;obtain⟨⟨⟨(xk:af),_,_,_,_,_,_,(xb:ak),(xt:af),_,_,_,_,_,_⟩,⟨_,(wa:af),(wz:af),(wn:af),_⟩,(ws:aa (af×aj)),_,_,_,_,_,(nm:jw .str af),_,_,_,_,(ee:aa mS),_⟩,⟨_,_,(x:aj),_⟩⟩:=x;have rI:(aM ws:af)<=9223372036854775807:=tP h 2 (t:=(.pair .int .str)) (l:=ws);have amQ:=OW h 13 ee;change wn=1/\qR zN wa wz ws/\yo nm 1000001/\nm.length<=1000000/\ee.length<=1000000 at hd;obtain⟨rfl,hB,Aj,hnl,hel⟩:=hd;have QJ:=hB.b.a0;have QK:=hB.b.a1;have LO:=hB.z0;have Af:=hB.z1;have hN:=hB.n;have hlb:=hB.b.len;refine tY [(1000000,aC)] h ?_;intro _ _ h
 by_cases z1:(1:af)<(aM ws:af)/\kN (ws.getD 1 (0,⟨#[]⟩)).2=aC/\(jo (k:=.str) nm ((ws.getD 1 (0,⟨#[]⟩)).2)).isSome=aD
 rotate_left
 .refine zI (by exact λh=>z1 h.1) ?_;exact mB (pr:=(qR zN wa wz ws/\0<=(1:af)/\(1:af)<=1000000)/\¬((1:af)<(aM ws:af)/\kN (ws.getD 1 (0,⟨#[]⟩)).2=aC/\(jo (k:=.str) nm ((ws.getD 1 (0,⟨#[]⟩)).2)).isSome=aD)) (afr zN).op [] 2 h (⟨⟨hB,by omega,by omega⟩,z1⟩) λ_ _ _ h1 h2 h3=>qI h1.choose_spec h2 h3
 obtain⟨wS,hp1⟩:=hB.pl (i:=1) (by omega);have Af:=hB.b.sz (n:=1) (by omega);refine go (pr:=((qR zN wa wz ws/\0<=(1:af)/\(1:af)<=1000000)/\((1:af)<(aM ws:af)/\kN (ws.getD 1 (0,⟨#[]⟩)).2=aC/\(jo (k:=.str) nm ((ws.getD 1 (0,⟨#[]⟩)).2)).isSome=aD))) [(1000001,aC)] h (⟨⟨hB,by omega,by omega⟩,z1⟩) ?_;intro _ _ h
 by_cases z2:(2:af)<(aM ws:af)/\(jo (k:=.str) nm ((ws.getD 2 (0,⟨#[]⟩)).2)).isSome=aC/\(jo (k:=.str) nm ((ws.getD 2 (0,⟨#[]⟩)).2)).getD 0<0
 rotate_left
 .refine zI (by exact λh=>z2 h.2.1) ?_;exact mB (pr:=(qR zN wa wz ws/\0<=(2:af)/\(2:af)<=1000000/\yo nm 1000001)/\¬((2:af)<(aM ws:af)/\(jo (k:=.str) nm ((ws.getD 2 (0,⟨#[]⟩)).2)).isSome=aC/\(jo (k:=.str) nm ((ws.getD 2 (0,⟨#[]⟩)).2)).getD 0<0)) (aah zN).op [] 2 h (⟨⟨hB,by omega,by omega,Aj⟩,z2⟩) λ_ _ _ h1 h2 h3=>qI h1.choose_spec h2 h3
 have NO:=hB.b.sz (n:=2) (by omega);have hg2:=Aj _ z2.2.1;refine go (pr:=((qR zN wa wz ws/\0<=(2:af)/\(2:af)<=1000000/\yo nm 1000001)/\((2:af)<(aM ws:af)/\(jo (k:=.str) nm ((ws.getD 2 (0,⟨#[]⟩)).2)).isSome=aC/\(jo (k:=.str) nm ((ws.getD 2 (0,⟨#[]⟩)).2)).getD 0<0))) [(1000002,aC)] h (⟨⟨hB,by omega,by omega,Aj⟩,z2⟩) ?_;intro _ _ h
 by_cases z3:(3:af)<(aM ws:af)/\(jo (k:=.str) nm ((ws.getD 3 (0,⟨#[]⟩)).2)).isSome=aC/\(jo (k:=.str) nm ((ws.getD 3 (0,⟨#[]⟩)).2)).getD 0<0
 rotate_left
 .refine zI (by exact λh=>z3 h.2.2) ?_;exact mB (pr:=(qR zN wa wz ws/\0<=(3:af)/\(3:af)<=1000000/\yo nm 1000001)/\¬((3:af)<(aM ws:af)/\(jo (k:=.str) nm ((ws.getD 3 (0,⟨#[]⟩)).2)).isSome=aC/\(jo (k:=.str) nm ((ws.getD 3 (0,⟨#[]⟩)).2)).getD 0<0)) (aah zN).op [] 2 h (⟨⟨hB,by omega,by omega,Aj⟩,z3⟩) λ_ _ _ h1 h2 h3=>qI h1.choose_spec h2 h3
 have hz3:=hB.b.sz (n:=3) (by omega);have hg3:=Aj _ z3.2.1;refine go (pr:=((qR zN wa wz ws/\0<=(3:af)/\(3:af)<=1000000/\yo nm 1000001)/\((3:af)<(aM ws:af)/\(jo (k:=.str) nm ((ws.getD 3 (0,⟨#[]⟩)).2)).isSome=aC/\(jo (k:=.str) nm ((ws.getD 3 (0,⟨#[]⟩)).2)).getD 0<0))) [] h (⟨⟨hB,by omega,by omega,Aj⟩,z3⟩) ?_;refine jR (p:=x=(fo:aj)) (λq1=>?_) λq1=>?_
 .refine jY (pr:=(nv .str ((ws.getD 1 (0,⟨#[]⟩)).2))/\(nm.length<=2147483647)/\(ee.length+([((ws.getD 1 (0,⟨#[]⟩)).2,((-1-(jo (k:=.str) nm ((ws.getD 2 (0,⟨#[]⟩)).2)).getD 0),((-1-(jo (k:=.str) nm ((ws.getD 3 (0,⟨#[]⟩)).2)).getD 0),(1:af))))]:aa mS).length<=2147483647)) ⟨wks,ln,ln⟩ ?_;intro _ _ h;refine vY (by exact⟨z1,z2,z3⟩) ?_;exact mA (((xk,(),(),(),(),(),(),xb,xt,(),(),(),(),(),()),((),wa,wz,(4:af),()),ws,(),(),(),(),(),(nG (k:=.str) nm ((ws.getD 1 (0,⟨#[]⟩)).2) (aM ee:af)),(),(),(),(),(ee++([((ws.getD 1 (0,⟨#[]⟩)).2,((-1-(jo (k:=.str) nm ((ws.getD 2 (0,⟨#[]⟩)).2)).getD 0),((-1-(jo (k:=.str) nm ((ws.getD 3 (0,⟨#[]⟩)).2)).getD 0),(1:af))))]:aa mS)),()),(())) (rk [0,1,2,3,4,5,6,7,8,9,10,11,12,196622]) h (by have e_:Vj x=_:=aQ q1;show _=((_,_,_,_,_,_,_,_,_,_,_,_,_,ee++[(_,(_,(_,Vj x)))],()),_);rw[e_]<;>rfl)
 refine jQ ?_;refine jR (p:=x=(fq:aj)) (λq2=>?_) λq2=>?_
 .refine jY (pr:=(nv .str ((ws.getD 1 (0,⟨#[]⟩)).2))/\(nm.length<=2147483647)/\(ee.length+([((ws.getD 1 (0,⟨#[]⟩)).2,((-1-(jo (k:=.str) nm ((ws.getD 2 (0,⟨#[]⟩)).2)).getD 0),((-1-(jo (k:=.str) nm ((ws.getD 3 (0,⟨#[]⟩)).2)).getD 0),(2:af))))]:aa mS).length<=2147483647)) ⟨wks,ln,ln⟩ ?_;intro _ _ h;refine vY (by exact⟨z1,z2,z3⟩) ?_;exact mA (((xk,(),(),(),(),(),(),xb,xt,(),(),(),(),(),()),((),wa,wz,(4:af),()),ws,(),(),(),(),(),(nG (k:=.str) nm ((ws.getD 1 (0,⟨#[]⟩)).2) (aM ee:af)),(),(),(),(),(ee++([((ws.getD 1 (0,⟨#[]⟩)).2,((-1-(jo (k:=.str) nm ((ws.getD 2 (0,⟨#[]⟩)).2)).getD 0),((-1-(jo (k:=.str) nm ((ws.getD 3 (0,⟨#[]⟩)).2)).getD 0),(2:af))))]:aa mS)),()),(())) (rk [0,1,2,3,4,5,6,7,8,9,10,11,12,204814]) h (by have e_:Vj x=_:=(aP q1).trans (aQ q2);show _=((_,_,_,_,_,_,_,_,_,_,_,_,_,ee++[(_,(_,(_,Vj x)))],()),_);rw[e_]<;>rfl)
 refine jY (pr:=(nv .str ((ws.getD 1 (0,⟨#[]⟩)).2))/\(nm.length<=2147483647)/\(ee.length+([((ws.getD 1 (0,⟨#[]⟩)).2,((-1-(jo (k:=.str) nm ((ws.getD 2 (0,⟨#[]⟩)).2)).getD 0),((-1-(jo (k:=.str) nm ((ws.getD 3 (0,⟨#[]⟩)).2)).getD 0),(0:af))))]:aa mS).length<=2147483647)) ⟨wks,ln,ln⟩ ?_;intro _ _ h;refine vY (by exact⟨z1,z2,z3⟩) ?_;exact mA (((xk,(),(),(),(),(),(),xb,xt,(),(),(),(),(),()),((),wa,wz,(4:af),()),ws,(),(),(),(),(),(nG (k:=.str) nm ((ws.getD 1 (0,⟨#[]⟩)).2) (aM ee:af)),(),(),(),(),(ee++([((ws.getD 1 (0,⟨#[]⟩)).2,((-1-(jo (k:=.str) nm ((ws.getD 2 (0,⟨#[]⟩)).2)).getD 0),((-1-(jo (k:=.str) nm ((ws.getD 3 (0,⟨#[]⟩)).2)).getD 0),(0:af))))]:aa mS)),()),(())) (rk [0,1,2,3,4,5,6,7,8,9,10,11,12,196622]) h (by have e_:Vj x=_:=(aP q1).trans (aP q2);show _=((_,_,_,_,_,_,_,_,_,_,_,_,_,ee++[(_,(_,(_,Vj x)))],()),_);rw[e_]<;>rfl)
def akB (zN:af):lM aR:=r8 (afv zN).yes
def akC (zN:af):Ad aR:=Hv (afv zN).no
abbrev ahv:sM:=⟨[.box 98 [.int,.own 3,.own 4,.own 5,.own 6,.own 7,.own 8,.bool,.int,.mp 9,.mp 10,.mp 11,.mp 12,.own 13],.box 107 [.own 2,.int,.int,.int],.rd (.pair .int .str),.any,.row 84 yx,.any,.any,.any,.any,.map .str .int,.map .int .unit,.map .int .unit,.any,.any],[.ptr 0 0,.ptr 1 0],[.box 98 [.int,.own 3,.own 4,.own 5,.own 6,.own 7,.own 8,.bool,.int,.mp 9,.mp 10,.mp 11,.mp 12,.own 13],.box 107 [.own 2,.int,.int,.int],.rd (.pair .int .str),.any,.row 84 yx,.any,.any,.any,.any,.map .str .int,.map .int .unit,.map .int .unit,.any,.any],[],14,aD,[]⟩
theorem afw (zN:af):vc 89 zN aR 63 ahv (λx=>(I_ x.1.2.1.2.2.2.1)=1/\qR zN (I_ x.1.2.1.2.1) (I_ x.1.2.1.2.2.1) (show aa (af×aj) from x.1.2.2.1)/\yo (show jw .str af from x.1.2.2.2.2.2.2.2.2.2.1) ((N_ x.1.2.2.2.2.1).length:af)/\((N_ x.1.2.2.2.2.1).length<=1000000/\DW (N_ x.1.2.2.2.2.1))/\(show jw .int Unit from x.1.2.2.2.2.2.2.2.2.2.2.1).length<=10000000/\(show jw .int Unit from x.1.2.2.2.2.2.2.2.2.2.2.2.1).length<=10000000) (λx=>(1:af)<((show aa (af×aj) from x.1.2.2.1).length:af)/\(jo (k:=.str) (show jw .str af from x.1.2.2.2.2.2.2.2.2.2.1) (((show aa (af×aj) from x.1.2.2.1).getD 1 (0,⟨#[]⟩)).2)).isSome=aC) (λx=>((((I_ x.1.1.1),(),(),(),(),(),(),(show ak from x.1.1.2.2.2.2.2.2.2.1),(I_ x.1.1.2.2.2.2.2.2.2.2.1),(),(),(),(),(),()),((),(I_ x.1.2.1.2.1),(I_ x.1.2.1.2.2.1),(2:af),()),(show aa (af×aj) from x.1.2.2.1),(),(N_ x.1.2.2.2.2.1),(),(),(),(),(show jw .str af from x.1.2.2.2.2.2.2.2.2.2.1),(HF (show jw .int Unit from x.1.2.2.2.2.2.2.2.2.2.2.1) (N_ x.1.2.2.2.2.1) ((jo (k:=.str) (show jw .str af from x.1.2.2.2.2.2.2.2.2.2.1) (((show aa (af×aj) from x.1.2.2.1).getD 1 (0,⟨#[]⟩)).2)).getD 0)),(HG (show jw .int Unit from x.1.2.2.2.2.2.2.2.2.2.2.2.1) ((jo (k:=.str) (show jw .str af from x.1.2.2.2.2.2.2.2.2.2.1) (((show aa (af×aj) from x.1.2.2.1).getD 1 (0,⟨#[]⟩)).2)).getD 0)),(),(),()),(()))):=by
 refine tB f63 72 [(Cf zN)] func63 λo A x hd _ _ h=>?_;obtain⟨⟨⟨(xk:af),_,_,_,_,_,_,(xb:ak),(xt:af),_,_,_,_,_,_⟩,⟨_,(wa:af),(wz:af),(wn:af),_⟩,(ws:aa (af×aj)),_,(ee:aa mS),_,_,_,_,(nm:jw .str af),(ha:jw .int Unit),(hb:jw .int Unit),_,_,_⟩,⟨_,_,_⟩⟩:=x;have rI:(aM ws:af)<=9223372036854775807:=tP h 2 (t:=(.pair .int .str)) (l:=ws);have Te:=OW h 4 ee;change wn=1/\qR zN wa wz ws/\yo nm (aM ee:af)/\(ee.length<=1000000/\DW ee)/\ha.length<=10000000/\hb.length<=10000000 at hd;obtain⟨rfl,hB,Aj,⟨hel,heo⟩,Yf,hbl⟩:=hd;have QJ:=hB.b.a0;have QK:=hB.b.a1;have LO:=hB.z0;have Af:=hB.z1;have hN:=hB.n;have hlb:=hB.b.len;refine tY [(1000000,aC)] h ?_;intro _ _ h
 by_cases z1:(1:af)<(aM ws:af)
 rotate_left
 .refine zI (by exact λh=>z1 h.1) ?_;exact mB (pr:=(qR zN wa wz ws/\0<=(1:af)/\(1:af)<=1000000)/\¬((1:af)<(aM ws:af))) (EJ zN).op [] 1 h (⟨⟨hB,by omega,by omega⟩,z1⟩) λ_ _ _ h1 h2 h3=>qI h1.choose_spec h2 h3
 obtain⟨wS,hp1⟩:=hB.pl (i:=1) (by omega);have Af:=hB.b.sz (n:=1) (by omega);refine go (pr:=((qR zN wa wz ws/\0<=(1:af)/\(1:af)<=1000000)/\((1:af)<(aM ws:af)))/\(nv .str ((ws.getD 1 (0,⟨#[]⟩)).2))) [] h ⟨⟨⟨hB,by omega,by omega⟩,z1⟩,wks⟩ ?_;refine jZ (λ(q1:((jo (k:=.str) nm ((ws.getD 1 (0,⟨#[]⟩)).2)).isSome)=aD)=>?_) (λ(q1:((jo (k:=.str) nm ((ws.getD 1 (0,⟨#[]⟩)).2)).isSome)=aC)=>?_)
 .intro _ _ h;refine zI (by exact λh=>aof (h.2.symm.trans q1)) ?_;exact mB (pr:=av) (yY aR) [] 3 h tv λ_ _ _ h1 h2 h3=>qI (Ae (ft:=89) (x:=(wa+(ws.getD 1 (0,⟨#[]⟩)).1)) (y:=(13:af)) h1 ⟨by omega,by omega⟩ (by decide)) h2 h3
 have hg:=Aj _ q1;refine jQ ?_;refine jR (p:=((jo (k:=.str) nm ((ws.getD 1 (0,⟨#[]⟩)).2)).getD 0)<0) (λq2=>?_) λq2=>?_
 .refine jY (pr:=(jX .i64 ((-1)-((jo (k:=.str) nm ((ws.getD 1 (0,⟨#[]⟩)).2)).getD 0)))/\(nv .int ((-1)-((jo (k:=.str) nm ((ws.getD 1 (0,⟨#[]⟩)).2)).getD 0)))/\(ha.length<=2147483647)) ⟨kC,wk,ln⟩ ?_;intro _ _ h;refine vY (by exact⟨z1,q1⟩) ?_;exact mA (((xk,(),(),(),(),(),(),xb,xt,(),(),(),(),(),()),((),wa,wz,(2:af),()),ws,(),ee,(),(),(),(),nm,(kZ ha ((-1)-((jo (k:=.str) nm ((ws.getD 1 (0,⟨#[]⟩)).2)).getD 0)) ()),hb,(),(),()),(())) (ir 14) h (by have e_:HF ha ee ((jo (k:=.str) nm ((ws.getD 1 (0,⟨#[]⟩)).2)).getD 0)=_:=aQ q2;have GL:HG hb ((jo (k:=.str) nm ((ws.getD 1 (0,⟨#[]⟩)).2)).getD 0)=_:=aQ q2;show _=((_,_,_,_,_,_,_,_,_,_,HF ha ee ((jo (k:=.str) nm ((ws.getD 1 (0,⟨#[]⟩)).2)).getD 0),HG hb ((jo (k:=.str) nm ((ws.getD 1 (0,⟨#[]⟩)).2)).getD 0),_,_,()),_);rw[e_,GL]<;>rfl)
 obtain⟨he1,he2,he3,he4⟩:0<=(ee.getD ((jo (k:=.str) nm ((ws.getD 1 (0,⟨#[]⟩)).2)).getD 0).toNat fe).2.1/\(ee.getD ((jo (k:=.str) nm ((ws.getD 1 (0,⟨#[]⟩)).2)).getD 0).toNat fe).2.1<=1000000/\0<=(ee.getD ((jo (k:=.str) nm ((ws.getD 1 (0,⟨#[]⟩)).2)).getD 0).toNat fe).2.2.1/\(ee.getD ((jo (k:=.str) nm ((ws.getD 1 (0,⟨#[]⟩)).2)).getD 0).toNat fe).2.2.1<=1000000:=heo ((jo (k:=.str) nm ((ws.getD 1 (0,⟨#[]⟩)).2)).getD 0).toNat (by omega);have hm1:=vp ha (ee.getD ((jo (k:=.str) nm ((ws.getD 1 (0,⟨#[]⟩)).2)).getD 0).toNat fe).2.1 ();have ano:e8 (α:=af×Unit) ha<=10000000:=Yf;refine jY (pr:=(nv .int ((jo (k:=.str) nm ((ws.getD 1 (0,⟨#[]⟩)).2)).getD 0))/\(hb.length<=2147483647)/\(j8 ((jo (k:=.str) nm ((ws.getD 1 (0,⟨#[]⟩)).2)).getD 0) ee.length)/\(nv .int (((ee.getD ((jo (k:=.str) nm ((ws.getD 1 (0,⟨#[]⟩)).2)).getD 0).toNat fe).2).1))/\(ha.length<=2147483647)/\(j8 ((jo (k:=.str) nm ((ws.getD 1 (0,⟨#[]⟩)).2)).getD 0) ee.length)/\(nv .int ((((ee.getD ((jo (k:=.str) nm ((ws.getD 1 (0,⟨#[]⟩)).2)).getD 0).toNat fe).2).2).1))/\((kZ ha (((ee.getD ((jo (k:=.str) nm ((ws.getD 1 (0,⟨#[]⟩)).2)).getD 0).toNat fe).2).1) ()).length<=2147483647)) ⟨wk,ln,bx,wk,ln,bx,wk,ln⟩ ?_;intro _ _ h;refine vY (by exact⟨z1,q1⟩) ?_;exact mA (((xk,(),(),(),(),(),(),xb,xt,(),(),(),(),(),()),((),wa,wz,(2:af),()),ws,(),ee,(),(),(),(),nm,(kZ (kZ ha (((ee.getD ((jo (k:=.str) nm ((ws.getD 1 (0,⟨#[]⟩)).2)).getD 0).toNat fe).2).1) ()) ((((ee.getD ((jo (k:=.str) nm ((ws.getD 1 (0,⟨#[]⟩)).2)).getD 0).toNat fe).2).2).1) ()),(kZ hb ((jo (k:=.str) nm ((ws.getD 1 (0,⟨#[]⟩)).2)).getD 0) ()),(),(),()),(())) (ir 14) h (by have e_:HF ha ee ((jo (k:=.str) nm ((ws.getD 1 (0,⟨#[]⟩)).2)).getD 0)=_:=aP q2;have GL:HG hb ((jo (k:=.str) nm ((ws.getD 1 (0,⟨#[]⟩)).2)).getD 0)=_:=aP q2;show _=((_,_,_,_,_,_,_,_,_,_,HF ha ee ((jo (k:=.str) nm ((ws.getD 1 (0,⟨#[]⟩)).2)).getD 0),HG hb ((jo (k:=.str) nm ((ws.getD 1 (0,⟨#[]⟩)).2)).getD 0),_,_,()),_);rw[e_,GL]<;>rfl)
def akD (zN:af):lM aR:=r8 (afw zN).yes
def akE (zN:af):Ad aR:=Hv (afw zN).no
abbrev ahw:sM:=⟨[.box 98 [.int,.own 3,.own 4,.own 5,.own 6,.own 7,.own 8,.bool,.int,.mp 9,.mp 10,.mp 11,.mp 12,.own 13],.box 107 [.own 2,.int,.int,.int],.rd (.pair .int .str),.any,.any,.any,.any,.any,.any,.map .str .int,.any,.any,.any,.any],[.ptr 0 0,.ptr 1 0,.bool],[.box 98 [.int,.own 3,.own 4,.own 5,.own 6,.own 7,.own 8,.bool,.int,.mp 9,.mp 10,.mp 11,.mp 12,.own 13],.box 107 [.own 2,.int,.int,.int],.rd (.pair .int .str),.any,.any,.any,.any,.any,.any,.map .str .int,.any,.any,.any,.any],[.int],14,aD,[]⟩
theorem afx (zN:af):vc 89 zN aR 86 ahw (λx=>qR zN (I_ x.1.2.1.2.1) (I_ x.1.2.1.2.2.1) (show aa (af×aj) from x.1.2.2.1)/\0<=(I_ x.1.2.1.2.2.2.1)/\(I_ x.1.2.1.2.2.2.1)<=1000000/\yo (show jw .str af from x.1.2.2.2.2.2.2.2.2.2.1) 1000001) (λx=>(I_ x.1.2.1.2.2.2.1)<((show aa (af×aj) from x.1.2.2.1).length:af)/\ov (show jw .str af from x.1.2.2.2.2.2.2.2.2.2.1) (show ak from x.2.2.2.1) ((show aa (af×aj) from x.1.2.2.1).getD (I_ x.1.2.1.2.2.2.1).toNat (0,⟨#[]⟩)).2) (λx=>((((I_ x.1.1.1),(),(),(),(),(),(),(show ak from x.1.1.2.2.2.2.2.2.2.1),(I_ x.1.1.2.2.2.2.2.2.2.2.1),(),(),(),(),(),()),((),(I_ x.1.2.1.2.1),(I_ x.1.2.1.2.2.1),(I_ x.1.2.1.2.2.2.1)+1,()),(show aa (af×aj) from x.1.2.2.1),(),(),(),(),(),(),(show jw .str af from x.1.2.2.2.2.2.2.2.2.2.1),(),(),(),(),()),(uG (show jw .str af from x.1.2.2.2.2.2.2.2.2.2.1) ((show aa (af×aj) from x.1.2.2.1).getD (I_ x.1.2.1.2.2.2.1).toNat (0,⟨#[]⟩)).2,()))):=by
 refine tB f86 73 [(Cf zN),akt,ahl] func86 λo A x hd _ _ h=>?_;obtain⟨⟨⟨(xk:af),_,_,_,_,_,_,(xb:ak),(xt:af),_,_,_,_,_,_⟩,⟨_,(wa:af),(wz:af),(wn:af),_⟩,(ws:aa (af×aj)),_,_,_,_,_,_,(nm:jw .str af),_,_,_,_,_⟩,⟨_,_,(vx:ak),_⟩⟩:=x;have rI:(aM ws:af)<=9223372036854775807:=tP h 2 (t:=(.pair .int .str)) (l:=ws);change qR zN wa wz ws/\0<=wn/\wn<=1000000/\yo nm 1000001 at hd;have⟨hB,n0,n2,Aj⟩:=hd;have QJ:=hB.b.a0;have QK:=hB.b.a1;have LO:=hB.z0;have Af:=hB.z1;have hN:=hB.n;have hlb:=hB.b.len;refine tY [(1000001,aC)] h ?_;intro _ _ h
 by_cases z1:wn<(aM ws:af)
 rotate_left
 .refine zI (by exact λh=>z1 h.1) ?_;exact mB (pr:=(qR zN wa wz ws/\0<=wn/\wn<=1000000)/\¬(wn<(aM ws:af))) (EJ zN).op [] 1 h (⟨⟨hB,by omega,by omega⟩,z1⟩) λ_ _ _ h1 h2 h3=>qI h1.choose_spec h2 h3
 obtain⟨wS,hp1⟩:=hB.pl (i:=wn.toNat) (by omega);have hzn:=hB.b.sz (n:=wn.toNat) (by omega);have hk4:=Tb (ws.getD wn.toNat (0,⟨#[]⟩)).2;refine go (pr:=((qR zN wa wz ws/\0<=wn/\wn<=1000000)/\(wn<(aM ws:af)))/\(((ws.getD wn.toNat (0,⟨#[]⟩)).2).size<=1000000/\(ase:aj)=ase)/\(jX .i64 ((((ws.getD wn.toNat (0,⟨#[]⟩)).2).size:af)-((trimB ((ws.getD wn.toNat (0,⟨#[]⟩)).2)).size:af)))) [] h ⟨⟨⟨hB,by omega,by omega⟩,z1⟩,⟨hzn,rfl⟩,kC⟩ ?_;refine jZ (λ(q1:((trimB ((ws.getD wn.toNat (0,⟨#[]⟩)).2)=(⟨#[]⟩:aj))\/((1:af)<(((ws.getD wn.toNat (0,⟨#[]⟩)).2).size:af)-((trimB ((ws.getD wn.toNat (0,⟨#[]⟩)).2)).size:af)))\/(((((ws.getD wn.toNat (0,⟨#[]⟩)).2).size:af)-((trimB ((ws.getD wn.toNat (0,⟨#[]⟩)).2)).size:af)=0)/\(vx=aD)))=>?_) (λ(q1:((¬(trimB ((ws.getD wn.toNat (0,⟨#[]⟩)).2)=(⟨#[]⟩:aj)))/\(¬((1:af)<(((ws.getD wn.toNat (0,⟨#[]⟩)).2).size:af)-((trimB ((ws.getD wn.toNat (0,⟨#[]⟩)).2)).size:af))))/\((¬((((ws.getD wn.toNat (0,⟨#[]⟩)).2).size:af)-((trimB ((ws.getD wn.toNat (0,⟨#[]⟩)).2)).size:af)=0))\/(vx=aC)))=>?_)
 .intro _ _ h;refine zI (by exact λh=>akw q1 h.2) ?_;exact mB (pr:=av) (yY aR) [] 3 h tv λ_ _ _ h1 h2 h3=>qI (Ae (ft:=89) (x:=(wa+(ws.getD wn.toNat (0,⟨#[]⟩)).1)) (y:=(14:af)) h1 ⟨by omega,by omega⟩ (by decide)) h2 h3
 refine jY (pr:=(nv .str (trimB ((ws.getD wn.toNat (0,⟨#[]⟩)).2)))) wks ?_;refine jZ (λ(q2:(((jo (k:=.str) nm (trimB ((ws.getD wn.toNat (0,⟨#[]⟩)).2))).isSome)=aD)\/(((aE (((jo (k:=.str) nm (trimB ((ws.getD wn.toNat (0,⟨#[]⟩)).2))).getD 0)<0))==(aE ((((ws.getD wn.toNat (0,⟨#[]⟩)).2).size:af)-((trimB ((ws.getD wn.toNat (0,⟨#[]⟩)).2)).size:af)=0)))=aD))=>?_) (λ(q2:(((jo (k:=.str) nm (trimB ((ws.getD wn.toNat (0,⟨#[]⟩)).2))).isSome)=aC)/\(((aE (((jo (k:=.str) nm (trimB ((ws.getD wn.toNat (0,⟨#[]⟩)).2))).getD 0)<0))==(aE ((((ws.getD wn.toNat (0,⟨#[]⟩)).2).size:af)-((trimB ((ws.getD wn.toNat (0,⟨#[]⟩)).2)).size:af)=0)))=aC))=>?_)
 .intro _ _ h;refine zI (by exact λh=>akx q2 h.2) ?_;exact mB (pr:=av) (yY aR) [] 3 h tv λ_ _ _ h1 h2 h3=>qI (Ae (ft:=89) (x:=(wa+(ws.getD wn.toNat (0,⟨#[]⟩)).1)) (y:=(13:af)) h1 ⟨by omega,by omega⟩ (by decide)) h2 h3
 have hg:=Aj _ q2.1;refine jQ ?_;refine jR (p:=(((ws.getD wn.toNat (0,⟨#[]⟩)).2).size:af)-((trimB ((ws.getD wn.toNat (0,⟨#[]⟩)).2)).size:af)=0) (λq3=>?_) λq3=>?_
 .refine jQ ?_;intro _ _ h;refine vY (by exact⟨z1,aaf q1 q2⟩) ?_;exact mA (((xk,(),(),(),(),(),(),xb,xt,(),(),(),(),(),()),((),wa,wz,wn+1,()),ws,(),(),(),(),(),(),nm,(),(),(),(),()),(((jo (k:=.str) nm (trimB ((ws.getD wn.toNat (0,⟨#[]⟩)).2))).getD 0),())) (ir 14) h (by have e_:uG nm (ws.getD wn.toNat (0,⟨#[]⟩)).2=_:=aj4 (by omega);show _=(_,(uG nm (ws.getD wn.toNat (0,⟨#[]⟩)).2,()));rw[e_]<;>rfl)
 refine jY (pr:=(((ws.getD wn.toNat (0,⟨#[]⟩)).2).size<=1000000/\(fy:aj)=fy)) (⟨hzn,rfl⟩) ?_;refine jZ (λ(q4:(HE ((ws.getD wn.toNat (0,⟨#[]⟩)).2))=aC)=>?_) (λ(q4:(HE ((ws.getD wn.toNat (0,⟨#[]⟩)).2))=aD)=>?_)
 .refine jY (pr:=(jX .i64 (2*((jo (k:=.str) nm (trimB ((ws.getD wn.toNat (0,⟨#[]⟩)).2))).getD 0)))/\(jX .i64 ((2*((jo (k:=.str) nm (trimB ((ws.getD wn.toNat (0,⟨#[]⟩)).2))).getD 0))+1))) ⟨kC,kC⟩ ?_;intro _ _ h;refine vY (by exact⟨z1,aaf q1 q2⟩) ?_;exact mA (((xk,(),(),(),(),(),(),xb,xt,(),(),(),(),(),()),((),wa,wz,wn+1,()),ws,(),(),(),(),(),(),nm,(),(),(),(),()),((2*((jo (k:=.str) nm (trimB ((ws.getD wn.toNat (0,⟨#[]⟩)).2))).getD 0))+1,())) (ir 14) h (by have e_:uG nm (ws.getD wn.toNat (0,⟨#[]⟩)).2=_:=aj5 (by omega) q4;show _=(_,(uG nm (ws.getD wn.toNat (0,⟨#[]⟩)).2,()));rw[e_]<;>rfl)
 refine jY (pr:=(jX .i64 (2*((jo (k:=.str) nm (trimB ((ws.getD wn.toNat (0,⟨#[]⟩)).2))).getD 0)))) kC ?_;intro _ _ h;refine vY (by exact⟨z1,aaf q1 q2⟩) ?_;exact mA (((xk,(),(),(),(),(),(),xb,xt,(),(),(),(),(),()),((),wa,wz,wn+1,()),ws,(),(),(),(),(),(),nm,(),(),(),(),()),(2*((jo (k:=.str) nm (trimB ((ws.getD wn.toNat (0,⟨#[]⟩)).2))).getD 0),())) (ir 14) h (by have e_:uG nm (ws.getD wn.toNat (0,⟨#[]⟩)).2=_:=aj6 (by omega) q4;show _=(_,(uG nm (ws.getD wn.toNat (0,⟨#[]⟩)).2,()));rw[e_]<;>rfl)
def afy (zN:af):lM aR:=r8 (afx zN).yes
def Tf (zN:af):Ad aR:=Hv (afx zN).no
end Go.Proofs.YtnfdimfepbbbpaaGreatDoor
