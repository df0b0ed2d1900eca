/- Texts joined by program: lemmas. -/
import Derived.Test.YtnfdimfepbbbpaaGreatDoorJFileBack3
import Derived.Deep.RegionWith
import Derived.Lib.SlTrimSet
import Derived.RangeFuncBound
import Derived.Shelf.Abstract
import Derived.Shelf.RegionOpen
import Derived.OwnWalkIn
import Derived.TacticsInMore
import Derived.LoopNIn
import Derived.LoopIn
import Derived.RangeFuncRecord
import Derived.RecoverIn
set_option linter.unusedSimpArgs false
set_option linter.unusedVariables false
set_option maxRecDepth 100000
set_option maxHeartbeats 8000000
open And renaming right->amF
open Array renaming getD_eq_getD_getElem?->cj,getElem!_eq_getD->anw,getElem?_append_left->amT,getElem?_eq_some_iff->cI,replicate_succ->aoW,replicate_zero->aoX,toList_append->ald,toList_inj->alH
open Bool renaming and_eq_true->aQ,eq_iff_iff->akT
open ByteArray renaming data_append->cR,ext->eE
open Classical renaming byContradiction->bT,not_not->eu
open Go renaming World->aa,Value->af,Program->az,Operand->aL,FuncId->bB,Deferred->dc
open Go.Act renaming put->dM
open Go.Deferred renaming ofValue->amQ
open Go.Fence renaming wide->aW
open Go.Instr renaming build->al3,sliceAt->cF
open Go.Lib renaming hasSuffix->amx,join->akL,trimRightS->ak8
open Go.Obj renaming stringIter->dH
open Go.Oper renaming semAt_none->ao2,upon->ak4,uponIn->ak5,wpIn_mono->aoS
open Go.Proofs.Tryz renaming prog->aq
open Go.Region renaming wanted->cV
open Go.Utf8 renaming decode->aJ,valid->aoN
open Go.Value renaming int->bI,pointer->cC
open Go.World renaming alloc_heap_new->amH,putObj_heap_other->dQ,putObj_heap_same->amI,putObj_size->ala
open Iff renaming rfl->alh
open Int renaming add_zero->anv,le_refl->bM,le_trans->anz,lt_of_not_ge->aoH,lt_trans->amA,natCast_emod->anr,natCast_zero->anu,toNat_natCast->cH,toNat_of_nonneg->cA
open List renaming all_eq_true->aY,append_assoc->bC,append_cons->aoT,append_nil->bq,append_toArray->aoZ,cons_append->dN,dropWhile_cons->aoO,drop_eq_getElem_cons->akE,drop_of_length_le->alk,eq_nil_of_length_eq_zero->bV,ext_getElem->dZ,filter_cons->al0,filter_cons_of_neg->amw,filter_nil->anx,filter_sublist->ano,find?_eq_none->am0,find?_range_eq_some->amC,flatMap_append->akI,flatMap_cons->cx,flatten_cons->alW,foldl_append->dm,getD_eq_getElem?_getD->aH,getElem?_append_left->cX,getElem?_append_right->cY,getElem?_eq_getElem->aR,getElem?_eq_none->cN,getElem?_eq_some_iff->b7,getElem?_map->cm,getElem_map->akM,getElem_mem->cU,getElem_range->alq,getElem_set->alc,intercalate->aoG,isEmpty_iff->dY,length_append->aO,length_cons->bA,length_drop->bw,length_eq_zero_iff->ak9,length_map->aV,length_nil->cq,length_range->ak7,length_singleton->cP,length_take->aX,map_append->bX,map_congr_left->dg,map_cons->bn,map_drop->alA,map_id->ami,map_map->cn,map_nil->b9,mem_append->aI,mem_append_left->aS,mem_append_right->bl,mem_cons->aC,mem_cons_of_mem->aE,mem_cons_self->aA,mem_filter->cB,mem_flatMap->cy,mem_flatten->amv,mem_map->aN,mem_of_mem_take->dh,mem_range->cg,mem_singleton->av,nil_append->cT,nodup_append->dF,nodup_cons->akO,nodup_iff_pairwise_ne->aoI,nodup_nil->akK,not_mem_nil->ak6,pairwise_append->aoK,pairwise_cons->akJ,pairwise_iff_getElem->akB,pairwise_singleton->amB,push_toArray->aoY,range->bH,range_succ->alY,replicate->cO,size_toArray->dK,take_append_drop->dO,take_length->bL,take_of_length_le->cM,take_sublist->amD,take_succ_eq_append_getElem->eC,take_zero->di
open List.Pairwise renaming cons->aoP,nil->aoJ,sublist->ape
open List.Sublist renaming refl->apd
open List.cons renaming inj->dW
open Nat renaming add_assoc->cJ,add_mul->bU,add_sub_cancel->amz,add_zero->dS,beq->aK,blt->bp,blt_eq->bW,le_of_ble_eq_true->ak0,le_of_lt->amE,le_refl->ay,le_trans->aU,lt_of_lt_of_le->bf,lt_succ_iff_lt_or_eq->dw,lt_succ_of_lt->eF,lt_succ_self->cQ,lt_trichotomy->anj,mod_lt->akz,mul_add->aoM,mul_one->cL,not_lt_zero->amG,one_pos->aoQ,pos_of_ne_zero->amj,reduceAdd->aoU,reduceSub->aoV,sub_self->cZ,succ_pos->al1,two_pos->anA,zero_le->bu
open Option renaming isSome_iff_exists->bD
open Option.some renaming inj->bz,injEq->bQ
open Prod renaming ext->alX
open Go.Proofs.Tryz
namespace Go.Proofs.YtnfdimfepbbbpaaGreatDoor
open Go.RowKit
abbrev sI:ByteArray:=eL
abbrev nlB:ByteArray:=eS
theorem v8 (a b c:ByteArray):a++b++c=a++(b++c):=by apply eE;simp only[cR,Array.append_assoc]
theorem LR (a:ByteArray):b0++a=a:=by apply eE;rw[cR];simp
theorem lB (a b:ByteArray):(a++b).size=a.size+b.size:=ByteArray.size_append
theorem join_one (a:ByteArray)(s:ByteArray):iM [a] s=a:=by
 apply eE;show(akL [a.data.toList] s.data.toList).toArray=_;simp[akL,aoG]
theorem join_cons (a b:ByteArray)(l:List ByteArray)(s:ByteArray):iM (a::b::l) s=a++s++iM (b::l) s:=by
 apply eE;rw[cR,cR];show(akL (a.data.toList::b.data.toList::l.map (·.data.toList)) s.data.toList).toArray=a.data++s.data++(akL (b.data.toList::l.map (·.data.toList)) s.data.toList).toArray;rw[<-alH];simp[akL,aoG,List.intersperse]
def we (q:ByteArray)(ws:List ByteArray):ByteArray:=q++iM ws sI++nlB
def nk (q:ByteArray)(ls:List (List ByteArray)):ByteArray:=ls.foldl we q
theorem vc (q:ByteArray)(ws:List ByteArray):(we q ws).size=q.size+(iM ws sI).size+1:=by unfold we;rw[lB,lB];rfl
theorem CW (q:ByteArray)(A B:List (List ByteArray)):nk q (A++B)=nk (nk q A) B:=by unfold nk;rw[dm]
theorem Pt (q:ByteArray)(A:List (List ByteArray))(ws:List ByteArray):nk q (A++[ws])=we (nk q A) ws:=by rw[CW];rfl
theorem NR:∀(B:List (List ByteArray)) (q:ByteArray),q.size<=(nk q B).size
 |[],q=>ay _
 |ws::B,q=>by
  have h1:=NR B (we q ws);rw[vc] at h1;show q.size<=(nk (we q ws) B).size;omega
theorem aaz (q:ByteArray)(A B:List (List ByteArray)):(nk q A).size<=(nk q (A++B)).size:=by rw[CW];exact NR _ _
section
variable {α:Type}{f:α->List (List ByteArray)}{l:List α}{d:α}{i:Int}{q:ByteArray}{P R:List (List ByteArray)}{N:Nat}
abbrev Fa (f:α->List (List ByteArray))(l:List α)(i:Int):List (List ByteArray):=(l.take i.toNat).flatMap f
theorem IY (h0:0<=i)(h1:i<(l.length:Int)):Fa f l (i+1)=Fa f l i++f (l.getD i.toNat d):=by
 unfold Fa;rw[qE (d:=d) h0 h1,akI];simp
theorem Bz (h:¬i<(l.length:Int)):Fa f l i=l.flatMap f:=by unfold Fa;rw[tH h]
theorem ad8 (k:Nat):l.flatMap f=(l.take k).flatMap f++(l.drop k).flatMap f:=by rw[<-akI,dO]
theorem ur (hN:(nk q (P++l.flatMap f++R)).size<=N)(h0:0<=i)(h1:i<(l.length:Int)){ws:List ByteArray}(hw:f (l.getD i.toNat d)=[ws]):(nk q (P++Fa f l i)).size+(iM ws sI).size+1<=N:=by
 have e:=IY (f:=f) (d:=d) h0 h1;rw[hw] at e;have h2:=vc (nk q (P++Fa f l i)) ws;rw[<-Pt,bC,<-e] at h2;have h3:l.flatMap f=Fa f l (i+1)++(l.drop (i+1).toNat).flatMap f:=ad8 _;have h4:=aaz q (P++Fa f l (i+1)) ((l.drop (i+1).toNat).flatMap f++R);rw[<-bC,bC P,<-h3] at h4;omega
theorem xL (h0:0<=i)(h1:i<(l.length:Int)){ws:List ByteArray}(hw:f (l.getD i.toNat d)=[ws]):nk q (P++Fa f l (i+1))=we (nk q (P++Fa f l i)) ws:=by
 rw[IY (d:=d) h0 h1,hw,<-bC,Pt]
theorem Pu (h0:0<=i)(h1:i<(l.length:Int))(hw:f (l.getD i.toNat d)=[]):nk q (P++Fa f l (i+1))=nk q (P++Fa f l i):=by
 rw[IY (d:=d) h0 h1,hw,bq]
end
abbrev Av:ByteArray:=apg
abbrev xM:ByteArray:=apk
abbrev wH:ByteArray:=apj
abbrev Wk:ByteArray:=aph
abbrev aaA:ByteArray:=eP
abbrev aaB:ByteArray:=eR
abbrev sC:ByteArray:=eO
abbrev wAr:ByteArray:=eN
abbrev wRg:ByteArray:=eM
def kE (x:Int):ByteArray:=if x=1 then aaA else if x=2 then aaB else Wk
def fV (v:ByteArray):List (List ByteArray):=[[Av,v]]
def fE (W:List ByteArray)(e:lG):List (List ByteArray):=[[kE e.2.2.2,e.1,W.getD e.2.1.toNat b0,W.getD e.2.2.1.toNat b0]]
def fH (E:List lG)(e:Int):List (List ByteArray):=[[sC,(E.getD e.toNat kO).1]]
def fW (W:List ByteArray)(h:Int->Bool)(v:Int):List (List ByteArray):=match h v with|true=>[]|false=>[[sC,W.getD v.toNat b0]]
def fA (W:List ByteArray)(E:List lG)(T:List (List Int))(h:Int->Bool)(v:Int):List (List ByteArray):=match h v with|true=>[wAr::W.getD v.toNat b0::(iE (T.getD v.toNat [])).map (uA W E)]|false=>[]
def fR (W:List ByteArray)(E:List lG)(l:List Int):List (List ByteArray):=[wRg::l.map (uA W E)]
def kL (K:Int):List (List ByteArray):=[[if K=0 then xM else wH]]
def AN (W:List ByteArray)(E:List lG)(V L:List Int)(T S:List (List Int))(h:Int->Bool):List (List ByteArray):=L.flatMap (fH E)++V.flatMap (fW W h)++V.flatMap (fA W E T h)++S.flatMap (fR W E)
def FH (K:Int)(W:List ByteArray)(E:List lG)(V L:List Int)(T S:List (List Int))(h:Int->Bool):List (List ByteArray):=
 kL K++W.flatMap fV++E.flatMap (fE W)++(if K=0 then AN W E V L T S h else[])
def S7 (E:List lG)(L:List Int):List Int:=L.flatMap λe=>[(E.getD e.toNat kO).2.1,(E.getD e.toNat kO).2.2.1]
def hE (E:List lG)(L:List Int)(v:Int):Bool:=decide (v∈S7 E L)
def hTn (T:List (List Int))(v:Int):Bool:=decide (¬(T.getD v.toNat []).length=0)
def Wl (mt:G5)(l:List Int):Prop:=∀x,(iC mt x).isSome=true↔x∈l
theorem ad9:Wl [] []:=λx=>⟨λh=>(by cases h),λh=>(by cases h)⟩
theorem Ez {mt:G5}{l:List Int}(x:Int)(h:Wl mt l):Wl (jM mt x ()) (l++[x]):=λy=>by
 rw[jI,aI,av,<-h y]
 by_cases e:x=y
 .rw[ak e];simp[e]
 rw[ah e];exact⟨.inl,λq=>q.resolve_right λz=>e z.symm⟩
theorem aaC {E:List lG}{L:List Int}{i:Int}(h0:0<=i)(h1:i<(L.length:Int)):S7 E (L.take (i+1).toNat)=S7 E (L.take i.toNat)++[(E.getD (L.getD i.toNat 0).toNat kO).2.1]++[(E.getD (L.getD i.toNat 0).toNat kO).2.2.1]:=by
 unfold S7;rw[qE (d:=0) h0 h1,akI];simp
def wdT (W:List ByteArray)(E:List lG)(ws:List ByteArray)(l:List Int)(i:Int):List ByteArray:=ws++(l.take i.toNat).map (uA W E)
theorem aaD {W:List ByteArray}{E:List lG}{ws:List ByteArray}{l:List Int}{i:Int}(h0:0<=i)(h1:i<(l.length:Int)):wdT W E ws l (i+1)=wdT W E ws l i++[uA W E (l.getD i.toNat 0)]:=by
 unfold wdT;rw[qE (d:=0) h0 h1,bX,<-bC];rfl
theorem aea {W:List ByteArray}{E:List lG}{ws:List ByteArray}{l:List Int}{i:Int}(h:¬i<(l.length:Int)):wdT W E ws l i=ws++l.map (uA W E):=by unfold wdT;rw[tH h]
theorem Pv {W:List ByteArray}{E:List lG}{N:Nat}(hW:∀j:Nat,j<W.length->(W.getD j b0).size<=N)(hE:∀j:Nat,j<E.length->(E.getD j kO).1.size<=N)(d:Int):(uA W E d).size<=N+1:=by
 unfold uA;split
 .split
  .have:=hW (-1-d).toNat (by omega);omega
  exact bu _
 split
 .exact bu _
 have:=hE (d/2).toNat (by omega);split
 .rw[lB];show _+1<=_;omega
 rw[lB];show _+1<=_;omega
section
variable {K:Int}{W:List ByteArray}{E:List lG}{V L:List Int}{T S:List (List Int)}{g:Int->Bool}{R:List (List ByteArray)}
theorem ai8 (h:K=0):iM [xM] sI++nlB=nk b0 (kL K++Fa fV W 0):=by
 show _=nk b0 (kL K++[]);rw[bq];show _=b0++iM [if K=0 then xM else wH] sI++nlB;rw[ak h,LR]
theorem ai9 (h:¬K=0):iM [wH] sI++nlB=nk b0 (kL K++Fa fV W 0):=by
 show _=nk b0 (kL K++[]);rw[bq];show _=b0++iM [if K=0 then xM else wH] sI++nlB;rw[ah h,LR]
theorem Wm:0<(nk b0 (kL K++R)).size:=by
 rw[CW];have h1:=NR R (nk b0 (kL K));have h2:(nk b0 (kL K)).size=b0.size+(iM [if K=0 then xM else wH] sI).size+1:=vc _ _;omega
theorem RX (h:K=0):FH K W E V L T S g=kL K++W.flatMap fV++E.flatMap (fE W)++AN W E V L T S g:=by unfold FH;rw[ak h]
theorem RY (h:¬K=0):FH K W E V L T S g=kL K++W.flatMap fV++E.flatMap (fE W):=by unfold FH;rw[ah h,List.append_nil]
end
noncomputable def sJ (K:Int) (W:List ByteArray) (E:List lG) (V L:List Int) (T S:List (List Int)):ByteArray×Int:=
 if ¬k9 K W E V L T S=0 then(b0,k9 K W E V L T S) else if 65536<((nk b0 (FH K W E V L T S (hE E L))).size:Int) then(b0,2) else(nk b0 (FH K W E V L T S (hE E L)),0)
def LS (W:List ByteArray)(E:List lG):Prop:=∀j:Nat,j<E.length->(0<=(E.getD j kO).2.1/\(E.getD j kO).2.1<(W.length:Int))/\(0<=(E.getD j kO).2.2.1/\(E.getD j kO).2.2.1<(W.length:Int))/\0<=(E.getD j kO).2.2.2/\(E.getD j kO).2.2.2<=2
def NS (W:List ByteArray)(E:List lG)(V L:List Int)(T:List (List Int)):Prop:=(∀v∈V,0<=v/\v<(W.length:Int)/\v<(T.length:Int))/\∀e∈L,0<=e/\e<(E.length:Int)
theorem Wo {l:List Int}{i:Int}(h0:0<=i)(h1:i<=(l.length:Int)):Cv l i l.length=rX l i:=by
 refine List.ext_getElem (by rw[tI,GN h0 h1]) λj hj hk=>?_;rw[tI] at hj;rw[<-getD_eq (d:=0),<-getD_eq (d:=0),LJ _ hj,Ak h0 h1 hj,show i+(j:Int)=((j+i.toNat:Nat):Int) by omega,<-Int.natCast_emod,Int.toNat_natCast]
theorem aeb {T:List (List Int)}{k:Nat}(h:k<T.length):(T.map iE).getD k []=iE (T.getD k []):=by
 rw[getD_eq (by rw[List.length_map];exact h),List.getElem_map,getD_eq h]
def prM (K:Int)(W:List ByteArray)(E:List lG)(V L:List Int)(T S:List (List Int))(h:Int->Bool):List (List ByteArray):=kL K++W.flatMap fV++E.flatMap (fE W)++AN W E V L T S h
def IZ (E:List (Int×Int))(v:Int)(l:List Int):Int:=if l.findIdx (λx=>decide (iO E x=v))<l.length then((l.findIdx λx=>decide (iO E x=v):Nat):Int) else -1
section
variable {E:List (Int×Int)}{v:Int}{l:List Int}
end
def arS (E:List (Int×Int))(s:List Int×List (List Int))(d:Int):List Int×List (List Int):=
 if IZ E (iO E (jG d)) (s.1++[d])<0 then(s.1++[d],s.2)
 else((s.1++[d]).take (IZ E (iO E (jG d)) (s.1++[d])).toNat,
  if(((s.1++[d]).drop (IZ E (iO E (jG d)) (s.1++[d])).toNat).length:Int)≠2\/((s.1++[d]).drop (IZ E (iO E (jG d)) (s.1++[d])).toNat).getD 0 0≠jG (((s.1++[d]).drop (IZ E (iO E (jG d)) (s.1++[d])).toNat).getD 1 0)
  then s.2++[(s.1++[d]).drop (IZ E (iO E (jG d)) (s.1++[d])).toNat] else s.2)
def OkD (E:List (Int×Int))(d:Int):Prop:=0<=d/\d/2<(E.length:Int)
instance (E:List (Int×Int)) (d:Int):Decidable (OkD E d):=inferInstanceAs (Decidable (_/\_))
section
variable {n:Int}{E:List (Int×Int)}{ds:List Int}
end
def aaE (ds:List Int)(j:Nat):Int:=if j=0 then ds.getD (ds.length-1) 0 else ds.getD (j-1) 0
def CyK (E:List (Int×Int))(ds:List Int)(k:Nat):Prop:=
 (∀j,j<k->iO E (jG (aaE ds j))=iO E (ds.getD j 0))/\∀j,j<k->∀i,i<j->¬iO E (ds.getD i 0)=iO E (ds.getD j 0)/\¬ds.getD i 0/2=ds.getD j 0/2
def agS (n:Int)(E:List (Int×Int))(V L:List Int)(ds:List Int):Prop:=jr n E V L=0/\ds≠[]/\(∀d∈ds,0<=d/\hasB L (d/2)=true)/\CyK E ds ds.length
instance (E:List (Int×Int)) (ds:List Int) (k:Nat):Decidable (CyK E ds k):=by unfold CyK;infer_instance
instance (n:Int) (E:List (Int×Int)) (V L:List Int) (ds:List Int):Decidable (agS n E V L ds):=by unfold agS;infer_instance
structure CyI (E:List (Int×Int))(ds:List Int)(k:Nat)(vm em:List (Int×Int))(a:Int):Prop where
 ok:CyK E ds k
 vk:∀x,(iC vm x).isSome=true↔∃j,j<k/\iO E (ds.getD j 0)=x
 ek:∀x,(iC em x).isSome=true↔∃j,j<k/\ds.getD j 0/2=x
 pr:a=aaE ds k
 len:vm.length<=k/\em.length<=k
section
variable {E:List (Int×Int)}{ds:List Int}{vm em:List (Int×Int)}{a:Int}
theorem CyI.step {i:Int}(h0:0<=i)(h:CyI E ds i.toNat vm em a)(h1:((iC vm (iO E (ds.getD i.toNat 0))).isSome=false/\(iC em (ds.getD i.toNat 0/2)).isSome=false)/\iO E (jG a)=iO E (ds.getD i.toNat 0)):
  CyI E ds (i+1).toNat (jM vm (iO E (ds.getD i.toNat 0)) i) (jM em (ds.getD i.toNat 0/2) i) (ds.getD i.toNat 0):=by
 obtain⟨⟨g1,g2⟩,g3⟩:=h1;have g1:¬(iC vm (iO E (ds.getD i.toNat 0))).isSome=true:=by rw[g1];decide
 have g2:¬(iC em (ds.getD i.toNat 0/2)).isSome=true:=by rw[g2];decide
 rw[show(i+1).toNat=i.toNat+1 by omega];have agT:∀(m:List (Int×Int)) (f:Nat->Int) (x:Int),(∀x,(iC m x).isSome=true↔∃j,j<i.toNat/\f j=x)->((iC (jM m (f i.toNat) i) x).isSome=true↔∃j,j<i.toNat+1/\f j=x):=by
  intro m f x hm;rw[jI]
  by_cases q:f i.toNat=x
  .rw[ak q];exact⟨λ_=>⟨_,cQ _,q⟩,λ_=>rfl⟩
  rw[ah q,hm];exact⟨λ⟨j,h1,h2⟩=>⟨j,by omega,h2⟩,λ⟨j,h1,h2⟩=>⟨j,by
   rcases dw.1 h1 with z|z
   .exact z
   subst z;exact absurd h2 q,h2⟩⟩
 refine⟨⟨λj hj=>?_,λj hj p hp=>?_⟩,λx=>agT vm (λj=>iO E (ds.getD j 0)) x h.vk,λx=>agT em (λj=>ds.getD j 0/2) x h.ek,?_,?_,?_⟩
 .rcases dw.1 hj with z|z
  .exact h.ok.1 j z
  subst z;rw[<-h.pr];exact g3
 .rcases dw.1 hj with z|z
  .exact h.ok.2 j z p hp
  subst z;exact⟨λe=>g1 ((h.vk _).2 ⟨p,hp,e⟩),λe=>g2 ((h.ek _).2 ⟨p,hp,e⟩)⟩
 .unfold aaE;rw[ah (by omega)];rfl
 .have:=mY vm (iO E (ds.getD i.toNat 0)) i;have:=h.len;omega
 have:=mY em (ds.getD i.toNat 0/2) i;have:=h.len;omega
theorem CyI.bad {i:Int}(h0:0<=i)(h:CyI E ds i.toNat vm em a)(hi:i.toNat<ds.length)(h1:((iC vm (iO E (ds.getD i.toNat 0))).isSome=true\/(iC em (ds.getD i.toNat 0/2)).isSome=true)\/¬iO E (jG a)=iO E (ds.getD i.toNat 0)):¬CyK E ds ds.length:=by
 intro hk;rcases h1 with(q|q)|q
 .obtain⟨j,hj,e⟩:=(h.vk _).1 q;exact(hk.2 i.toNat hi j hj).1 e
 .obtain⟨j,hj,e⟩:=(h.ek _).1 q;exact(hk.2 i.toNat hi j hj).2 e
 exact q (by rw[h.pr];exact hk.1 _ hi)
end
abbrev pZ (n:Int):Prop:= -9223372036854775808<=n/\n<=9223372036854775807
theorem akc:jg aq 111 [(false,(.list .int)),(false,.int)] [.bool] (λ_=>True) (λx=>(decide ((I_ x.2.1)∈(J_ x.1)),())):=by
 refine jl f111 18 [] func111 λo x hd _ _ h=>?_;obtain⟨(l:List Int),(x:Int),_⟩:=x;have r6:=mU h 0 l;refine tR [] h ?_;refine tA l (λi=>⟨[(0,eo 0),(1,en x),(5,en i)],[(0,some (.ar .int l))],1⟩) (λi=> ∀j:Nat,(j:Int)<i->¬l.getD j 0=x) (ir 1) (λj hj=>by omega) λi _ kU i0 i1 i2=>?_;refine jc ?_;refine iY (p:=i<(l.length:Int)) (λq1=>?_) λq1=>?_
 .refine jk (pr:=(jz i l.length)) bx ?_;refine iY (p:=(l.getD i.toNat 0)=x) (λq2=>?_) λq2=>?_
  .refine jc ?_;exact jb ((true:Bool),()) (aG (·,()) (show(true)=decide (x∈l) from(bN (pN.2 ⟨i.toNat,by omega,q2⟩)).symm))
  refine jk (pr:=(jm .i64 (i+1))) jK ?_;exact mQ (kU (ir 1) (λj hj=>if z:(j:Int)<i then i2 j z else by rw[show j=i.toNat by omega];exact q2))
 refine jc ?_;exact jb ((false:Bool),()) (aG (·,()) (show(false)=decide (x∈l) from(bG λq=>by obtain⟨j,hj,e⟩:=pN.1 q;exact i2 j (by omega) e).symm))
theorem Wp:jg aq 24 [(false,(.list .int)),(false,(.list .int))] [.bool] (λ_=>True) (λx=>(decide ((J_ x.1)=(J_ x.2.1)),())):=by
 refine jl f24 26 [] func24 λo x hd _ _ h=>?_;obtain⟨(l:List Int),(m:List Int),_⟩:=x;have r6:=mU h 0 l;have qg:=mU h 1 m;refine tR [] h ?_;refine oq (p:=(l.length:Int)=(m.length:Int)) (λq1=>?_) λq1=>?_
 .refine jc ?_;exact jb ((false:Bool),()) (aG (·,()) (show(false)=decide (l=m) from(bG λe=>q1 (by rw[e])).symm))
 have hle:=q1;refine jc ?_;refine tA l (λi=>⟨[(0,eo 0),(1,eo 1),(5,en i)],[(0,some (.ar .int l)),(1,some (.ar .int m))],2⟩) (λi=> ∀j:Nat,(j:Int)<i->l.getD j 0=m.getD j 0) (ir 2) (λj hj=>by omega) λi _ kU i0 i1 i2=>?_;refine jc ?_;refine iY (p:=i<(l.length:Int)) (λq2=>?_) λq2=>?_
 .refine jk (pr:=(jz i l.length)/\(jz i m.length)) ⟨bx,bx⟩ ?_;refine oq (p:=(l.getD i.toNat 0)=(m.getD i.toNat 0)) (λq3=>?_) λq3=>?_
  .refine jc ?_;exact jb ((false:Bool),()) (aG (·,()) (show(false)=decide (l=m) from(bG λe=>q3 (by rw[e])).symm))
  refine jk (pr:=(jm .i64 (i+1))) jK ?_;exact mQ (kU (ir 2) (λj hj=>if z:(j:Int)<i then i2 j z else by rw[show j=i.toNat by omega];exact q3))
 refine jc ?_;exact jb ((true:Bool),()) (aG (·,()) (show(true)=decide (l=m) from(bN (Nz hle λj hj=>i2 j (by omega))).symm))
def LU:kG aq:=plain Wp
theorem agU:jg aq 167 [(false,(.list .int)),(false,.int)] [.bool] (λ_=>True) (λx=>(decide (kT (J_ x.1) (I_ x.2.1)),())):=by
 refine jl f167 41 [] func167 λo x hd _ _ h=>?_;obtain⟨(l:List Int),(n:Int),_⟩:=x;have r6:=mU h 0 l;refine tR [] h ?_;refine tA l (λi=>⟨[(0,eo 0),(1,en n),(5,en i)],[(0,some (.ar .int l))],1⟩) (λi=> ∀j:Nat,(j:Int)<i->(0<=l.getD j 0/\l.getD j 0<n/\(0<j->l.getD (j-1) 0<l.getD j 0))) (ir 1) (λj hj=>by omega) λi _ kU i0 i1 i2=>?_;refine jc ?_;refine iY (p:=i<(l.length:Int)) (λq1=>?_) λq1=>?_
 .refine jk (pr:=(jz i l.length)/\((¬((l.getD i.toNat 0)<0))->(jz i l.length))/\(((¬((l.getD i.toNat 0)<0))/\(¬(n<=(l.getD i.toNat 0))))->((0:Int)<i)->(jz i l.length))/\(((¬((l.getD i.toNat 0)<0))/\(¬(n<=(l.getD i.toNat 0))))->((0:Int)<i)->(jm .i64 (i-1)))/\(((¬((l.getD i.toNat 0)<0))/\(¬(n<=(l.getD i.toNat 0))))->((0:Int)<i)->(jz (i-1) l.length))) ⟨bx,λ_=>bx,λ_ _=>bx,λ_ _=>jK,λ_ _=>bx⟩ ?_;refine jS (λ(q2:(((l.getD i.toNat 0)<0)\/(n<=(l.getD i.toNat 0)))\/(((0:Int)<i)/\((l.getD i.toNat 0)<=(l.getD (i-1).toNat 0))))=>?_) (λ(q2:((¬((l.getD i.toNat 0)<0))/\(¬(n<=(l.getD i.toNat 0))))/\((¬((0:Int)<i))\/(¬((l.getD i.toNat 0)<=(l.getD (i-1).toNat 0)))))=>?_)
  .refine jc ?_;exact jb ((false:Bool),()) (aG (·,()) (show(false)=decide (kT l n) from(bG λq=>by have q:=q i.toNat (by omega);have z:=q2;rw[show(i-1).toNat=i.toNat-1 by omega] at z;omega).symm))
  refine jk (pr:=(jm .i64 (i+1))) jK ?_;exact mQ (kU (ir 1) (λj hj=>if z:(j:Int)<i then i2 j z else by rw[show j=i.toNat by omega];have q:=q2;rw[show(i-1).toNat=i.toNat-1 by omega] at q;omega))
 refine jc ?_;exact jb ((true:Bool),()) (aG (·,()) (show(true)=decide (kT l n) from(bN (show kT l n from λj hj=>i2 j (by omega))).symm))
theorem Wq:jg aq 96 [(false,(.list .int)),(false,.int)] [.bool] (λ_=>True) (λx=>(decide (kT (J_ x.1) (I_ x.2.1)),())):=by
 refine jl f96 35 [] func96 λo x hd _ _ h=>?_;obtain⟨(l:List Int),(n:Int),_⟩:=x;have r6:=mU h 0 l;refine tR [] h ?_;refine tA l (λi=>⟨[(0,eo 0),(1,en n),(7,eo 0),(8,en (l.length:Int)),(9,en i)],[(0,some (.ar .int l))],1⟩) (λi=> ∀j:Nat,(j:Int)<i->(0<=l.getD j 0/\l.getD j 0<n/\(0<j->l.getD (j-1) 0<l.getD j 0))) (ir 1) (λj hj=>by omega) λi _ kU i0 i1 i2=>?_;refine jc ?_;refine iY (p:=i<(l.length:Int)) (λq1=>?_) λq1=>?_
 .refine jk (pr:=(jz i l.length)/\(((¬((l.getD i.toNat 0)<0))/\(¬(n<=(l.getD i.toNat 0))))->((0:Int)<i)->(jm .i64 (i-1)))/\(((¬((l.getD i.toNat 0)<0))/\(¬(n<=(l.getD i.toNat 0))))->((0:Int)<i)->(jz (i-1) l.length))) ⟨bx,λ_ _=>jK,λ_ _=>bx⟩ ?_;refine jS (λ(q2:(((l.getD i.toNat 0)<0)\/(n<=(l.getD i.toNat 0)))\/(((0:Int)<i)/\((l.getD i.toNat 0)<=(l.getD (i-1).toNat 0))))=>?_) (λ(q2:((¬((l.getD i.toNat 0)<0))/\(¬(n<=(l.getD i.toNat 0))))/\((¬((0:Int)<i))\/(¬((l.getD i.toNat 0)<=(l.getD (i-1).toNat 0)))))=>?_)
  .refine jc ?_;exact jb ((false:Bool),()) (aG (·,()) (show(false)=decide (kT l n) from(bG λq=>by have q:=q i.toNat (by omega);have z:=q2;rw[show(i-1).toNat=i.toNat-1 by omega] at z;omega).symm))
  refine jk (pr:=(jm .i64 (i+1))) jK ?_;exact mQ (kU (ir 1) (λj hj=>if z:(j:Int)<i then i2 j z else by rw[show j=i.toNat by omega];have q:=q2;rw[show(i-1).toNat=i.toNat-1 by omega] at q;omega))
 refine jc ?_;exact jb ((true:Bool),()) (aG (·,()) (show(true)=decide (kT l n) from(bN (show kT l n from λj hj=>i2 j (by omega))).symm))
def Wr:kG aq:=plain Wq
theorem agV:jg aq 77 [(false,AL)] [.int] (λx=>pZ (I_ x.1.1)) (λx=>(jA (I_ x.1.1) (E_ x.1.2),())):=by
 refine jl f77 70 [] func77 λo x hd _ _ h=>?_;obtain⟨⟨(n:Int),(E:List (Int×Int))⟩,_⟩:=x;have r6:=Ft h 0 E;change pZ n at hd;have hn:=hd;unfold pZ at hn;refine tR [] h ?_;refine iY (p:=n<0) (λq1=>?_) λq1=>?_
 .refine jc ?_;exact jb (((3:Int):Int),()) (aG (·,()) (show((3:Int))=jA n E from by unfold jA;first|rw[ak (by omega)]|rw[ah (by omega),ak (by omega)]))
 refine jk (pr:=((¬((1024:Int)<n))/\(¬((1024:Int)<(E.length:Int))))->(jm .i64 (n+(E.length:Int)))) (λ_=>jK) ?_;refine jS (λ(q2:(((1024:Int)<n)\/((1024:Int)<(E.length:Int)))\/((1024:Int)<n+(E.length:Int)))=>?_) (λ(q2:((¬((1024:Int)<n))/\(¬((1024:Int)<(E.length:Int))))/\(¬((1024:Int)<n+(E.length:Int))))=>?_)
 .refine jc ?_;exact jb (((2:Int):Int),()) (aG (·,()) (show((2:Int))=jA n E from by unfold jA;first|rw[ak (by omega)]|rw[ah (by omega),ak (by omega)]))
 refine jc ?_;refine tA E (λi=>⟨[(1,ep 0),(3,en i)],[(0,some (.box 55 [.v (.int .i64 n),.own 1])),(1,some (.ar Be E))],2⟩) (λi=> ∀j:Nat,(j:Int)<i->Ny n (E.getD j (0,0))) (rk [1,0]) (λj hj=>by omega) λi _ kU i0 i1 i2=>?_;refine jc ?_;refine iY (p:=i<(E.length:Int)) (λq3=>?_) λq3=>?_
 .refine jk (pr:=(jz i E.length)/\((¬((E.getD i.toNat (0,0)).1<0))->(jz i E.length))/\(((¬((E.getD i.toNat (0,0)).1<0))/\(¬(n<=(E.getD i.toNat (0,0)).1)))->(jz i E.length))/\((((¬((E.getD i.toNat (0,0)).1<0))/\(¬(n<=(E.getD i.toNat (0,0)).1)))/\(¬((E.getD i.toNat (0,0)).2<0)))->(jz i E.length))) ⟨bx,λ_=>bx,λ_=>bx,λ_=>bx⟩ ?_;refine jS (λ(q4:((((E.getD i.toNat (0,0)).1<0)\/(n<=(E.getD i.toNat (0,0)).1))\/((E.getD i.toNat (0,0)).2<0))\/(n<=(E.getD i.toNat (0,0)).2))=>?_) (λ(q4:(((¬((E.getD i.toNat (0,0)).1<0))/\(¬(n<=(E.getD i.toNat (0,0)).1)))/\(¬((E.getD i.toNat (0,0)).2<0)))/\(¬(n<=(E.getD i.toNat (0,0)).2)))=>?_)
  .refine jc ?_;exact jb (((3:Int):Int),()) (aG (·,()) (show((3:Int))=jA n E from(DX (by omega) (by omega) (by omega) i0 (by omega) (by unfold Ny;have:=q4;omega)).symm))
  refine jk (pr:=(jm .i64 (i+1))) jK ?_;exact mQ (kU (ir 2) (λj hj=>if z:(j:Int)<i then i2 j z else by rw[show j=i.toNat by omega];unfold Ny;have:=q4;omega))
 refine jc ?_;exact jb (((0:Int):Int),()) (aG (·,()) (show((0:Int))=jA n E from(GH (i:=i) (by omega) (by omega) (by omega) (by omega) i2).symm))
theorem aaF:jg aq 73 [(false,AL)] [.int] (λx=>pZ (I_ x.1.1)) (λx=>(jA (I_ x.1.1) (E_ x.1.2),())):=by
 refine jl f73 50 [] func73 λo x hd _ _ h=>?_;obtain⟨⟨(n:Int),(E:List (Int×Int))⟩,_⟩:=x;have r6:=Ft h 0 E;change pZ n at hd;have hn:=hd;unfold pZ at hn;refine tR [] h ?_;refine iY (p:=n<0) (λq1=>?_) λq1=>?_
 .refine jc ?_;exact jb (((3:Int):Int),()) (aG (·,()) (show((3:Int))=jA n E from by unfold jA;first|rw[ak (by omega)]|rw[ah (by omega),ak (by omega)]))
 refine jk (pr:=(¬((1024:Int)<n))->(jm .i64 (1024-n))) (λ_=>jK) ?_;refine jS (λ(q2:((1024:Int)<n)\/(1024-n<(E.length:Int)))=>?_) (λ(q2:(¬((1024:Int)<n))/\(¬(1024-n<(E.length:Int))))=>?_)
 .refine jc ?_;exact jb (((2:Int):Int),()) (aG (·,()) (show((2:Int))=jA n E from by unfold jA;first|rw[ak (by omega)]|rw[ah (by omega),ak (by omega)]))
 refine jc ?_;refine tA E (λi=>⟨[(1,ep 0),(21,eo 1),(22,en (E.length:Int)),(23,en i)],[(0,some (.box 55 [.v (.int .i64 n),.own 1])),(1,some (.ar Be E))],2⟩) (λi=> ∀j:Nat,(j:Int)<i->Ny n (E.getD j (0,0))) (rk [1,0]) (λj hj=>by omega) λi _ kU i0 i1 i2=>?_;refine jc ?_;refine iY (p:=i<(E.length:Int)) (λq3=>?_) λq3=>?_
 .refine jk (pr:=(jz i E.length)) bx ?_;refine jS (λ(q4:((((E.getD i.toNat (0,0)).1<0)\/(n<=(E.getD i.toNat (0,0)).1))\/((E.getD i.toNat (0,0)).2<0))\/(n<=(E.getD i.toNat (0,0)).2))=>?_) (λ(q4:(((¬((E.getD i.toNat (0,0)).1<0))/\(¬(n<=(E.getD i.toNat (0,0)).1)))/\(¬((E.getD i.toNat (0,0)).2<0)))/\(¬(n<=(E.getD i.toNat (0,0)).2)))=>?_)
  .refine jc ?_;exact jb (((3:Int):Int),()) (aG (·,()) (show((3:Int))=jA n E from(DX (by omega) (by omega) (by omega) i0 (by omega) (by unfold Ny;have:=q4;omega)).symm))
  refine jk (pr:=(jm .i64 (i+1))) jK ?_;exact mQ (kU (ir 2) (λj hj=>if z:(j:Int)<i then i2 j z else by rw[show j=i.toNat by omega];unfold Ny;have:=q4;omega))
 refine jc ?_;exact jb (((0:Int):Int),()) (aG (·,()) (show((0:Int))=jA n E from(GH (i:=i) (by omega) (by omega) (by omega) (by omega) i2).symm))
def Pw:kG aq:=plain aaF
theorem aaG:jg aq 162 [(false,.int)] [.bool] (λ_=>True) (λx=>(false,())):=by
 refine jl f162 6 [] func162 λo x hd _ _ h=>?_;obtain⟨(x:Int),_⟩:=x;refine tR [] h ?_;exact jb ((!(decide (x=x)):Bool),()) (aG (·,()) (show(!(decide (x=x)))=false from by simp))
def aaH:kG aq:=plain aaG
theorem Ws:jg aq 160 [(false,.int)] [.bool] (λ_=>True) (λx=>(false,())):=by
 refine jl f160 6 [] func160 λo x hd _ _ h=>?_;obtain⟨(x:Int),_⟩:=x;refine tR [] h ?_;exact jb ((!(decide (x=x)):Bool),()) (aG (·,()) (show(!(decide (x=x)))=false from by simp))
def Wt:kG aq:=plain Ws
theorem aec:jg aq 127 [(false,.int),(false,.int)] [.bool] (λ_=>True) (λx=>(decide ((I_ x.1)<(I_ x.2.1)),())):=by
 refine jl f127 17 [Wt] func127 λo x hd _ _ h=>?_;obtain⟨(x:Int),(y:Int),_⟩:=x;refine go (pr:=True/\((false=true)->True)) [] h ⟨tv,λ_=>trivial⟩ ?_;exact jb (((false && (!false))||(decide (x<y)):Bool),()) (aG (·,()) (show((false && (!false))||(decide (x<y)))=decide (x<y) from by simp))
def aed:kG aq:=plain aec
theorem aja:jg aq 134 [(false,(.list .int)),(false,.int)] [.int,.bool] (λx=>(J_ x.1).length<=1000000) (λx=>(Vk (J_ x.1) (I_ x.2.1),hasB (J_ x.1) (I_ x.2.1),())):=by
 refine jl f134 54 [aaH,aed] func134 λo x hd _ _ h=>?_;obtain⟨(l:List Int),(x:Int),_⟩:=x;have r6:=mU h 0 l;change l.length<=1000000 at hd;refine tR [] h ?_;refine xD Int Int (λp q=>⟨[(0,eo 0),(1,en x),(6,en (l.length:Int)),(7,en p),(8,en q)],[(0,some (.ar .int l))],1⟩) (λp q=>0<=p/\p<=q/\q<=(l.length:Int)/\O6 l x p q=Vk l x) (λp q=>(q-p).toNat) 0 (l.length:Int) (ir 1) ⟨bM _,Int.natCast_nonneg _,bM _,acz l x⟩ λp q _ kU hI=>?_;have⟨h1,h2,h3,hb⟩:=hI;refine jc ?_;refine iY (p:=p<q) (λq1=>?_) λq1=>?_
 .refine jk (pr:=(jm .i64 (p+q))/\(jm .u64 (p+q))/\(jm .i64 ((p+q)/2))/\(jz ((p+q)/2) l.length)/\True) ⟨jK,⟨by omega,by omega⟩,jK,bx,tv⟩ ?_;refine jS (λ(q2:(decide ((l.getD ((p+q)/2).toNat 0)<x))=true)=>?_) (λ(q2:(decide ((l.getD ((p+q)/2).toNat 0)<x))=false)=>?_)
  .refine jk (pr:=(jm .i64 (((p+q)/2)+1))) jK ?_;exact mQ (kU (((p+q)/2)+1) q (ir 1) ⟨by omega,by omega,by omega,by rw[acw (by omega) (aP q2)] at hb;exact hb⟩ (by omega))
  refine jc ?_;exact mQ (kU p ((p+q)/2) (ir 1) ⟨by omega,by omega,by omega,by rw[acy (by omega) (bh q2)] at hb;exact hb⟩ (by omega))
 have e1:p=Vk l x:=by rw[Iu (by omega)] at hb;exact hb
 refine jk (pr:=((p<(l.length:Int))->(jz p l.length))/\((p<(l.length:Int))->(¬((l.getD p.toNat 0)=x))->(jz p l.length))/\((p<(l.length:Int))->(¬((l.getD p.toNat 0)=x))->True)/\((p<(l.length:Int))->(¬((l.getD p.toNat 0)=x))->(false=true)->True)) ⟨λ_=>bx,λ_ _=>bx,λ_ _=>trivial,λ_ _ _=>trivial⟩ ?_;exact jb ((p:Int),((decide (p<(l.length:Int))) && ((decide ((l.getD p.toNat 0)=x))||(false && false)):Bool),()) (alX e1 (aG (·,()) (show((decide (p<(l.length:Int))) && ((decide ((l.getD p.toNat 0)=x))||(false && false)))=hasB l x from by unfold hasB;rw[<-e1];simp)))
def ajb:kG aq:=plain aja
theorem agW:jg aq 97 [(false,(.list .int)),(false,.int)] [.bool] (λx=>(J_ x.1).length<=1000000) (λx=>(hasB (J_ x.1) (I_ x.2.1),())):=by
 refine jl f97 14 [ajb] func97 λo x hd _ _ h=>?_;obtain⟨(l:List Int),(x:Int),_⟩:=x;have r6:=mU h 0 l;change l.length<=1000000 at hd;refine go (pr:=(l.length<=1000000)) [] h hd ?_;exact jb ((hasB l x:Bool),()) rfl
def agX:kG aq:=plain agW
theorem aaI:jg aq 74 [(false,AL),(false,zq)] [.int] (λx=>pZ (I_ x.1.1)) (λx=>(jr (I_ x.1.1) (E_ x.1.2) (J_ x.2.1.1) (J_ x.2.1.2),())):=by
 refine jl f74 58 [agX,Pw,Wr] func74 λo x hd _ _ h=>?_;obtain⟨⟨(n:Int),(E:List (Int×Int))⟩,⟨(V:List Int),(L:List Int)⟩,_⟩:=x;have r6:=Ft h 0 E;have qg:=mU h 1 V;have pV:=mU h 2 L;change pZ n at hd;have hn:=hd;refine go (pr:=(pZ n)) [] h hn ?_;refine oq (p:=jA n E=0) (λq1=>?_) λq1=>?_
 .refine jc ?_;exact jb ((jA n E:Int),()) (aG (·,()) (show(jA n E)=jr n E V L from(ak q1).symm))
 refine jk (pr:=True/\(((decide (kT V n))=true)->True)) ⟨tv,λ_=>trivial⟩ ?_;refine jS (λ(q2:((decide (kT V n))=false)\/((decide (kT L (E.length:Int)))=false))=>?_) (λ(q2:((decide (kT V n))=true)/\((decide (kT L (E.length:Int)))=true))=>?_)
 .refine jc ?_;exact jb (((4:Int):Int),()) (aG (·,()) (show((4:Int))=jr n E V L from by unfold jr;rw[ah (by omega),ak (q2.imp bh bh)]))
 have S8:=kF (n:=n) (E:=E) q1;have hr1:kT V n:=aP q2.1;have RW:kT L (E.length:Int):=aP q2.2;have hv9:=l6 hr1 (by omega);have hl9:=l6 RW (by omega);refine jc ?_;refine tA L (λi=>⟨[(2,ep 0),(3,ep 1),(29,eo 2),(30,en (L.length:Int)),(31,en i)],[(0,some (.box 55 [.v (.int .i64 n),.own 3])),(1,some (.box 26 [.own 4,.own 2])),(2,some (.ar .int L)),(3,some (.ar Be E)),(4,some (.ar .int V))],5⟩) (λi=> ∀j:Nat,(j:Int)<i->(hasB V (E.getD (L.getD j 0).toNat (0,0)).1=true/\hasB V (E.getD (L.getD j 0).toNat (0,0)).2=true)) (rk [3,4099,2,0,1]) (λj hj=>by omega) λi _ kU i0 i1 i2=>?_;refine jc ?_;refine iY (p:=i<(L.length:Int)) (λq3=>?_) λq3=>?_
 .have hx:=RW i.toNat (by omega);refine jk (pr:=(jz i L.length)/\(jz (L.getD i.toNat 0) E.length)/\(V.length<=1000000)/\(((hasB V ((E.getD (L.getD i.toNat 0).toNat (0,0)).1))=true)->(jz (L.getD i.toNat 0) E.length))/\(((hasB V ((E.getD (L.getD i.toNat 0).toNat (0,0)).1))=true)->(V.length<=1000000))) ⟨bx,bx,by omega,λ_=>bx,λ_=>by omega⟩ ?_;refine jS (λ(q4:((hasB V ((E.getD (L.getD i.toNat 0).toNat (0,0)).1))=false)\/((hasB V ((E.getD (L.getD i.toNat 0).toNat (0,0)).2))=false))=>?_) (λ(q4:((hasB V ((E.getD (L.getD i.toNat 0).toNat (0,0)).1))=true)/\((hasB V ((E.getD (L.getD i.toNat 0).toNat (0,0)).2))=true))=>?_)
  .refine jc ?_;exact jb (((4:Int):Int),()) (aG (·,()) (show((4:Int))=jr n E V L from by unfold jr;rw[ah (by omega),ah (by rintro(q|q);exact q hr1;exact q RW),ah (λq:Bl E V L=>by have z:=q i.toNat (by omega);rcases q4 with y|y;rw[z.1] at y;cases y;rw[z.2] at y;cases y)]))
  refine jk (pr:=(jm .i64 (i+1))) jK ?_;exact mQ (kU (ir 5) (λj hj=>if z:(j:Int)<i then i2 j z else by rw[show j=i.toNat by omega];exact q4))
 refine jc ?_;exact jb (((0:Int):Int),()) (aG (·,()) (show((0:Int))=jr n E V L from by unfold jr;rw[ah (by omega),ah (by rintro(q|q);exact q hr1;exact q RW),ak (show Bl E V L from λj hj=>i2 j (by omega))]))
def I0:kG aq:=plain aaI
open Go.Lib Go.Proofs.YtnfdimfepbbbpaaGreatDoor.Deep Go.Sort
theorem Wu {S:iF}{w:aa}(l:List Int):jP S w (l.map (bI .i64)) l:=by
 refine⟨by show _=l.length*1;simp,λi hi=>?_⟩;show((l.map (bI .i64)).drop (i*1)).take 1=[.int .i64 l[i]];rw[cL,akE (by simpa using hi),List.take_succ_cons,di];simp
theorem RZ {o:Orig}{w:aa}{S:iF}{rs:List o9}(H:Fr o w S rs){v:af}{l:List Int}(hv:Rd (· <w.heap.size) w v l)(hl:l.length<=1000000000):
  Calls aq 48 #[v] w λe w'=> ∃u,e= .returned u/\Fr o w' S (.row 3 u l::rs)/\Below w.heap.size w w':=by
 obtain⟨p,c,rfl,h1,h2,h3⟩:=jZ hv;have aaJ:∀(u:af) (w':aa) (xs:List af),w'.ownsRow w.heap.size 3 1 u l.length xs->xs=l.map (bI .i64)->Below w.heap.size w w'->Fr o w' S (.row 3 u l::rs):=by
  intro u w' xs oe YG hb;refine(H.on hb).put _ ⟨xs,⟨oe.1,?_⟩,by rw[YG];exact Wu l⟩ λb qh=>?_
  .rcases oe.2 with h|⟨g,cap,cur,e1,e2,rest⟩
   .exact .inl h
   exact .inr ⟨g,cap,cur,e1,bu _,rest⟩
  rcases oe.2 with⟨h,_⟩|⟨g,cap,cur,e1,e2,e3,_⟩
  .rw[h] at qh;cases qh
  rw[e1] at qh;have e9:g=b:=bz qh;have pg:g<w'.heap.size:=(cI.1 e3).1;rw[<-e9];exact⟨aU H.below.size e2,pg,λhs=>by have:=H.nO g hs;omega,λr hr e=>by have:=(H.own r hr g e).2.1;omega⟩
 cases p with
 |none=>
  have:l=[]:=by
   rcases h3 with h|⟨g,off,cur,t,fz,h,_⟩
   .exact h
   cases h
  subst this;refine(Tryz.slices_Clone_int_nil 0 c w).mono λe w' ⟨he,hw⟩=>⟨_,he,?_,?_⟩
  .subst hw;exact H.newRow 3
  subst hw;exact Below.refl _ _
 |some a=>
  by_cases hz:l=[]
  .subst hz;refine(Tryz.slices_Clone_int_zero a c w).mono λe w' ⟨u,he,oe,_,hb⟩=>⟨u,he,aaJ u w' [] oe rfl hb,hb⟩
  rcases h3 with h|⟨g,off,cur,t,fz,h,hg,hw,hc⟩
  .exact absurd h hz
  cases h;refine(Tryz.slices_Clone_int g off l.length c l w (ay _) (by omega) λj hj=>?_).mono λe w' ⟨u,he,oe,_,hb⟩=>⟨u,he,aaJ u w' _ oe (by rw[bL]) hb,hb⟩;obtain⟨cs,hr,hq⟩:=hc j hj;have hr:cs=[.int .i64 l[j]]:=hr;have:=hq 0 (show 0<1 by decide);rw[hr] at this;rw[cell_of_row w g _ cur t fz hw];have e:off+j*Data.size Int+0=off+j:=by show off+j*1+0=_;omega
  rw[e] at this;rw[this];simp[aH,aR hj]
theorem aaK:jg aq 48 [(false,.list .int)] [.list .int] (λx=>(show List Int from x.1).length<=1000000) (λx=>(show List Int from x.1,())):=by
 intro o vs x hx hd
 match vs,hx with
 |[v],hx=>
  refine(RZ (Fr.start o) (v:=v) (l:=show List Int from x.1) hx.1 (aU hd (by decide))).mono λe w' ⟨u,he,H,hb⟩=>⟨u,he,?_,hb⟩;exact H.ac9 0 rfl
def Px:kG aq:=plain aaK
end Go.Proofs.YtnfdimfepbbbpaaGreatDoor
namespace Go.Proofs.YtnfdimfepbbbpaaGreatDoor
open Go.RowKit
open Go.Proofs.YtnfdimfepbbbpaaGreatDoor.Deep
theorem LV {r:Option vR}{ds:List Int}{out:List (Int×List Int)}:∀ {k:Nat},k<=ds.length->∃sub:List Int,sub.Sublist (ds.take k)/\(l8 r ds out k).2.map (·.1)=out.map (·.1)++sub
 |0,_=>⟨[],List.nil_sublist _,(bq _).symm⟩
 |k+1,h=>by
  obtain⟨sub,h1,h2⟩:=LV (r:=r) (ds:=ds) (out:=out) (k:=k) (by omega);have ht:ds.take (k+1)=ds.take k++[ds.getD k 0]:=nZ (by omega) 0;show ∃sub:List Int,_/\(qR r (l8 r ds out k) (ds.getD k 0)).2.map (·.1)=_;unfold qR;split
  .refine⟨sub++[ds.getD k 0],by rw[ht];exact h1.append (apd _),?_⟩;rw[bX,h2,bC];rfl
  exact⟨sub,by rw[ht];exact h1.trans (List.sublist_append_left _ _),h2⟩
theorem Py {V:List Int}{T:List (List Int)}(hV:V.Nodup):∀ {k:Nat},k<=V.length->((Cf V T k).map (·.1)).Nodup/\∀x∈(Cf V T k).map (·.1),∃j,j<k/\x= -1-V.getD (V.length-1-j) 0
 |0,_=>⟨akK,λx hx=>by cases hx⟩
 |k+1,h=>by
  obtain⟨h1,h2⟩:=Py (T:=T) hV (k:=k) (by omega);unfold Cf;split
  .rw[bX];refine⟨dF.2 ⟨h1,by simp,λa ha b hb=>?_⟩,λx hx=>?_⟩
   .obtain⟨j,hj,e⟩:=h2 a ha;rw[bn,b9,av] at hb;intro q;rw[e,hb] at q;have:=nY (z:=0) hV (show V.length-1-j<V.length by omega) (show V.length-1-k<V.length by omega) (by omega);omega
   rcases aI.1 hx with q|q
   .obtain⟨j,hj,e⟩:=h2 x q;exact⟨j,by omega,e⟩
   rw[bn,b9,av] at q;exact⟨k,cQ _,q⟩
  exact⟨h1,λx hx=>let⟨j,hj,e⟩:=h2 x hx;⟨j,by omega,e⟩⟩
theorem Wv {n:Int}{E:List (Int×Int)}{V L:List Int}{T:List (List Int)}(h:(iA n E V L T).2=0):((iA n E V L T).1.map (·.1)).Nodup:=by
 have hw:=h;rw[sH] at h;obtain⟨hp,hT,hr⟩:=y7 h;obtain⟨hrt,hV,hL,_⟩:=jH hp;have hVn:=nG (iK.1 hV).1;have hLn:=nG (iK.1 hL).1;rw[u5 h];obtain⟨sub,h1,h2⟩:=LV (r:=(mF n E V L T).1) (ds:=m7 L L.length) (out:=Cf V T V.length) (ay _);show(((l8 _ _ _ _).2).map (·.1)).Nodup;rw[h2];obtain⟨l1,l2⟩:=Py (T:=T) hVn (ay V.length);refine dF.2 ⟨l1,?_,λa ha b hb q=>?_⟩
 .rw[bL] at h1;exact(yf hLn (ay _)).sublist h1
 obtain⟨j,hj,e⟩:=l2 a ha;have C3:=(mH b).1 (dh (h1.subset hb));have v0:=(iK.1 hV).2 _ (iL (l:=V) (i:=V.length-1-j) (d:=0) (by omega));have b0:=(iK.1 hL).2 _ C3;omega
theorem EA {ow:List (Int×Int)}{S:List (List Int)}{N:Nat}:∀ {i:Nat} {z:S4×List (Int×Int)},rA ow S N i=some z->∀j,0<j->j<i->(S.getD (j-1) []).getD 0 0<(S.getD j []).getD 0 0
 |0,z,_,j,_,hj=>by omega
 |i+1,z,h,j,h0,hj=>by
  have h:(rA ow S N i).bind (λs=>vY ow S s i)=some z:=h;cases hq:rA ow S N i with
  |none=>rw[hq] at h;cases h
  |some y=>
   by_cases e:j=i
   .subst e;rw[hq] at h;have h:vY ow S y j=some z:=h;unfold vY at h;split at h
    .cases h
    rename_i q;exact aoH λz=>q (.inr ⟨h0,z⟩)
   exact EA hq j h0 (by omega)
theorem Pz {f:Nat->Int}{N:Nat}(h:∀j,0<j->j<N->f (j-1)<f j):∀ {i j:Nat},i<j->j<N->f i<f j
 |i,0,hi,_=>by omega
 |i,j+1,hi,hj=>by
  have h1:=h (j+1) (by omega) hj;rw[amz] at h1;rcases dw.1 hi with z|z
  .exact amA (Pz h z (by omega)) h1
  subst z;exact h1
theorem oE {n:Int}{E:List (Int×Int)}{V L:List Int}{T S:List (List Int)}(h:r5 n E V L T S=0):qD n E V L T=0/\∃s,rA (jJ E (iH n E V L) (iA n E V L T).1 (iA n E V L T).1.length) S (iH n E V L).length S.length=some s/\s.1.2.2.2<=1:=by
 by_cases hf:qD n E V L T=0
 .refine⟨hf,?_⟩;cases hq:rA (jJ E (iH n E V L) (iA n E V L T).1 (iA n E V L T).1.length) S (iH n E V L).length S.length with
  |none=>rw[pY hf hq] at h;cases h
  |some s=>
   refine⟨s,rfl,?_⟩;rw[y9 hf hq] at h;split at h
   .cases h
   omega
 rw[Eo hf] at h;exact absurd h hf
theorem LW {r:Option vR}{L:List Int}:∀ {k:Nat} {m:List (Int×Int)} {x:Int} {acc:List Int},(∀y,(iC m y).isSome=true->jy L y)->jy L x->(∀y∈acc,jy L y)->
  (∀y∈(qz r k m x acc).2,jy L y)/\(∀y,(iC (qz r k m x acc).1 y).isSome=true->jy L y)/\(qz r k m x acc).2.length<=acc.length+k/\(qz r k m x acc).1.length<=m.length
 |0,m,x,acc,hm,hx,ha=>⟨ha,hm,ay _,ay _⟩
 |k+1,m,x,acc,hm,hx,ha=>by
  have ha2:∀y∈acc++[x],jy L y:=λy hy=>(aI.1 hy).elim (ha y) λq=>by rw[av.1 q];exact hx
  have hd:=J0 (k:=.int) m x;have hl:(acc++[x]).length=acc.length+1:=by simp
  unfold qz;split
  .rename_i q;obtain⟨h1,h2,h3,h4⟩:=LW (r:=r) (k:=k) (CQ hm x) (CQ hm x _ q) ha2;exact⟨h1,h2,by omega,aU h4 hd⟩
  exact⟨ha2,CQ hm x,by show(acc++[x]).length<=_;omega,hd⟩
theorem G9 {r:Option vR}{L ds:List Int}{out:List (Int×List Int)}(VH:∀d∈ds,jy L d)(ho:∀w∈out,(∀d∈w.2,jy L d)/\w.2.length<=ds.length):∀ {k:Nat},k<=ds.length->
  (∀y,(iC (l8 r ds out k).1 y).isSome=true->jy L y)/\(l8 r ds out k).1.length<=ds.length/\∀w∈(l8 r ds out k).2,(∀d∈w.2,jy L d)/\w.2.length<=ds.length
 |0,_=>⟨λy hy=>VH y (by have:=(CP (ay _) y).1 hy;rwa[bL] at this),IF ds _,ho⟩
 |k+1,h=>by
  obtain⟨h1,h2,h3⟩:=G9 (r:=r) VH ho (k:=k) (by omega);show(∀y,(iC (qR r (l8 r ds out k) (ds.getD k 0)).1 y).isSome=true->_)/\_;show _/\(qR r (l8 r ds out k) (ds.getD k 0)).1.length<=_/\∀w∈(qR r (l8 r ds out k) (ds.getD k 0)).2,_;unfold qR;split
  .obtain⟨o1,o2,o3,o4⟩:=LW (r:=r) (k:=(l8 r ds out k).1.length) (acc:=[]) h1 (VH _ (iL (l:=ds) (i:=k) (d:=0) (by omega))) (λy hy=>by cases hy);refine⟨o2,by show(qz _ _ _ _ _).1.length<=_;omega,λw hw=>?_⟩;rcases aI.1 hw with q|q
   .exact h3 w q
   rw[av.1 q];refine⟨o1,?_⟩;have o3:(qz r (l8 r ds out k).1.length (l8 r ds out k).1 (ds.getD k 0) []).2.length<=0+(l8 r ds out k).1.length:=o3;show(qz _ _ _ _ _).2.length<=_;omega
  exact⟨h1,h2,h3⟩
theorem LX {n:Int}{E:List (Int×Int)}{V L:List Int}{T:List (List Int)}(h:(iA n E V L T).2=0):∀w∈(iA n E V L T).1,(∀d∈w.2,jy L d)/\w.2.length<=2*L.length:=by
 rw[sH] at h;rw[u5 h];have:=(G9 (r:=(mF n E V L T).1) (ds:=m7 L L.length) (out:=Cf V T V.length) (λd hd=>(mH d).1 hd) (λw hw=>by
  have e:=bV (Ao (ay _) w hw).1;rw[e];exact⟨λd hd=>(by cases hd),bu _⟩) (ay _)).2.2
 intro w hw;have h2:=this w hw;refine⟨h2.1,?_⟩;have h3:=h2.2;rwa[Af] at h3
def Rsg {α:Type}(m:List (Int×α)):Prop:=m.Pairwise λp q=>p.1<q.1
theorem PA {α:Type}{x:Int}{v:α}:∀ {m:List (Int×α)},Rsg m->(∀q∈m,q.1≠x)->Rsg (qd (k:=.int) (x,v) m)
 |[],_,_=>amB _ _
 |p::m,h,hn=>by
  have hp:=akJ.1 h;have h1:=hn p aA;show Rsg (if ilt x p.1=true then(x,v)::p::m else p::qd (k:=.int) (x,v) m);split
  .rename_i q;have q:x<p.1:=aP (show decide (x<p.1)=true from q);refine akJ.2 ⟨λy hy=>?_,h⟩;rcases aC.1 hy with rfl|hy
   .exact q
   have:=hp.1 y hy;exact amA q this
  rename_i q;have q:¬x<p.1:=λz=>q (show decide (x<p.1)=true from bN z);refine akJ.2 ⟨λy hy=>?_,PA hp.2 λy hy=>hn y (aE _ hy)⟩;rcases(zH (k:=.int)).1 hy with rfl|hy
  .show p.1<x;omega
  exact hp.1 y hy
theorem NT {α:Type}{m:List (Int×α)}(h:Rsg m)(x:Int)(v:α):Rsg (jM m x v):=by
 show Rsg (qd (k:=.int) (x,v) (ox (k:=.int) m x));refine PA (h.sublist ano) λq hq=>?_;have h2:(!decide (q.1=x))=true:=(cB.1 hq).2;intro e;have h3:(!decide (q.1=x))=false:=by rw[e];simp
 rw[h3] at h2;cases h2
def onF (ds:List Int):Nat->List (Int×Int)
 |0=>[]
 |k+1=>jM (onF ds k) (ds.getD k 0/2) (k:Int)
def jF (left on:List (Int×Int))(L:List Int):Nat->S4
 |0=>([],[],[],0)
 |k+1=>if(iC on (L.getD k 0)).isSome=true then jF left on L k else RB (jF left on L k) ((iC left (2*L.getD k 0)).getD 0) ((iC left (2*L.getD k 0+1)).getD 0)
def adF (left:List (Int×Int))(ds:List Int)(s:S4):Nat->S4
 |0=>s
 |k+1=>mM (mM (adF left ds s k) ((iC left (ds.getD k 0)).getD 0)) ((iC left (jG (ds.getD k 0))).getD 0)
def mZ (left:List (Int×Int))(L ds:List Int):S4:=adF left ds (jF left (onF ds ds.length) L L.length) ds.length
def sdV (s:S4)(head r:Int):Int:=if r=head\/smB s r head=true then 1 else 2
structure SdI (left:List (Int×Int))(s0:S4)(head:Int)(lf:Int->Bool)(cnt:Nat)(s:S4)(out:List (Int×Int)):Prop where
 ok:Ef s
 rl:∀a b,Rl s a b↔Rl s0 a b
 len:s.2.1.length=s0.2.1.length
 rs:Rsg out
 out:∀x,iC out x=if lf x=true then none else(iC left x).map (sdV s0 head)
section
variable {left:List (Int×Int)}{s0 s:S4}{head:Int}{lf:Int->Bool}{cnt:Nat}{out:List (Int×Int)}{x v:Int}
theorem SdI.step (h:SdI left s0 head lf cnt s out)(h0:Ef s0){rO:Nat}{s':S4}{r:Int}(hl:lf x=true)(hv:iC left x=some v)(hs:Ef s'/\(∀a b,Rl s' a b↔Rl s a b)/\s'.2.1.length=s.2.1.length)(hr:r=sdV s0 head v)(MY:List (Int×Int))(ho:MY=jM out x r\/MY=jM (jM out x 2) x r):
  SdI left s0 head (λz=>lf z && !decide (z=x)) rO s' MY:=by
 have E5:∀y,iC MY y=if x=y then some r else iC out y:=λy=>by
  rcases ho with rfl|rfl
  .exact jI ..
  rw[jI];split
  .rfl
  rename_i q;rw[jI,ah q]
 refine⟨hs.1,λa b=>(hs.2.1 a b).trans (h.rl a b),hs.2.2.trans h.len,?_,λy=>?_⟩
 .rcases ho with rfl|rfl
  .exact NT h.rs _ _
  exact NT (NT h.rs _ _) _ _
 rw[E5]
 by_cases q:x=y
 .subst q;rw[ak rfl,ah (by simp),hv,hr];rfl
 rw[ah q,h.out];have:decide (y=x)=false:=bG λz=>q z.symm;rw[this];simp
end
def tnP (a b:List Int)(i:Nat):Prop:=a.take (a.length-i)=b.drop i/\a.drop (a.length-i)=b.take i
instance (a b:List Int) (i:Nat):Decidable (tnP a b i):=by unfold tnP;infer_instance
def acJ (a b:List Int):Prop:=a.length=b.length/\(a.length=0\/∃i,i<b.length/\tnP a b i)
instance (a b:List Int):Decidable (acJ a b):=by unfold acJ;infer_instance
theorem PB {n:Int}{E:List (Int×Int)}{V L:List Int}{T S:List (List Int)}(h:vb n E V L T S=0):jr n E V L=0/\r5 n E V L T S=0:=by
 unfold vb at h;split at h
 .rename_i q;exact absurd h q
 rename_i q;exact⟨eu.1 q,h⟩
structure LsI (held now:List (Int×Int))(lf:Int->Bool)(least:Int)(bad:Bool):Prop where
 no:bad=false->least=0/\∀k v,iC held k=some v->lf k=false->(iC now k).getD 0=v
 yes:bad=true->(∃v,iC held least=some v/\¬(iC now least).getD 0=v)/\∀k v,iC held k=some v->lf k=false->¬(iC now k).getD 0=v->least<=k
section
variable {held now:List (Int×Int)}{lf:Int->Bool}{least:Int}{bad:Bool}{x v:Int}
theorem agY (h:(lf x && !decide (x=v))=false):lf x=false\/x=v:=by
 by_cases q:x=v
 .exact .inr q
 rw[bG q] at h;simp at h;exact .inl h
theorem LsI.take (h:LsI held now lf least bad)(hv:iC held x=some v)(hd:¬(iC now x).getD 0=v)(hb:bad=false\/x<least):LsI held now (λz=>lf z && !decide (z=x)) x true:=by
 refine⟨λq=>(by cases q),λ_=>⟨⟨v,hv,hd⟩,λk u h1 h2 h3=>?_⟩⟩;rcases agY h2 with z|z
 .rcases hb with y|y
  .exact absurd ((h.no y).2 k u h1 z) h3
  cases hq:bad with
  |false=>exact absurd ((h.no hq).2 k u h1 z) h3
  |true=>have:=(h.yes hq).2 k u h1 z h3;omega
 omega
end
section
variable {n:Int}{E:List (Int×Int)}{V L:List Int}{T S U R:List (List Int)}
end
def agZ (E:List (Int×Int))(T:List (List Int))(d n:Int):Int:=
 (T.getD (iO E d).toNat []).getD ((agH (T.getD (iO E d).toNat []) d+n+((T.getD (iO E d).toNat []).length:Int))%((T.getD (iO E d).toNat []).length:Int)).toNat 0
def FI (E:List (Int×Int))(T:List (List Int))(d:Int):Int:=agZ E T (jG d) (-1)
section
variable {n:Int}{E:List (Int×Int)}{V L:List Int}{T:List (List Int)}
theorem za (hp:jr n E V L=0)(h:nS n E L T){d:Int}(hd:jy L d):FI E T d=Ei E L T d:=by
 have ht:=rZ.2 hd;obtain⟨h0,h1,h2⟩:=yg hp h ht;obtain⟨j,hj,e⟩:=iV (z:=(0:Int)).1 h2;obtain⟨i,i1,i2,i3⟩:=adY hj e;refine VO (h.nd _ h1) ⟨i,by omega,i3,?_⟩ (yh hp h hd);unfold FI agZ;rw[i1]
 congr 1
 rw[show(i:Int)+ -1+((T.getD (iO E (jG d)).toNat []).length:Int)=((i+(T.getD (iO E (jG d)).toNat []).length-1:Nat):Int) by omega,<-anr];rfl
end
def sP (f:Int->Int):Nat->Int->Int
 |0,d=>d
 |k+1,d=>f (sP f k d)
def p6 (f:Int->Int)(d:Int)(N:Nat):Nat:=((bH N).find? λk=>decide (sP f (k+1) d=d)).getD 0+1
def xN (f:Int->Int)(d:Int)(p:Nat):List Int:=(bH p).map λi=>sP f i d
section
variable {f:Int->Int}{D:List Int}{d:Int}
theorem zb (a:Nat):∀b,sP f (a+b) d=sP f b (sP f a d)
 |0=>rfl
 |b+1=>by
  show f (sP f (a+b) d)=f _;rw[zb a b]
theorem tN (hc:∀x∈D,f x∈D)(hd:d∈D):∀k,sP f k d∈D
 |0=>hd
 |k+1=>hc _ (tN hc hd k)
theorem NU (hc:∀x∈D,f x∈D)(hi:∀x∈D,∀y∈D,f x=f y->x=y){x y:Int}(hx:x∈D)(hy:y∈D):∀ {k:Nat},sP f k x=sP f k y->x=y
 |0,h=>h
 |k+1,h=>NU hc hi hx hy (k:=k) (hi _ (tN hc hx k) _ (tN hc hy k) h)
theorem pO (p:Nat):(xN f d p).length=p:=by unfold xN;rw[aV,ak7]
theorem ve {p i:Nat}(h:i<p):(xN f d p).getD i 0=sP f i d:=by
 unfold xN;rw[Al (z:=0) (by rw[ak7];exact h),getD_eq (by rw[ak7];exact h),alq]
theorem R4 (p:Nat):xN f d (p+1)=xN f d p++[sP f p d]:=by
 unfold xN;rw[alY,bX];rfl
theorem aaL (hc:∀x∈D,f x∈D)(hi:∀x∈D,∀y∈D,f x=f y->x=y)(hd:d∈D):∃k,k<D.length/\sP f (k+1) d=d:=by
 have hn:¬(xN f d (D.length+1)).Nodup:=λhn=>by
  have:=hn.length_le_of_subset (l₂:=D) λx hx=>by
   obtain⟨i,_,rfl⟩:=aN.1 hx;exact tN hc hd i
  rw[pO] at this;omega
 have hx:∃a b,a<b/\b<D.length+1/\sP f a d=sP f b d:=by
  refine bT λhx=>hn ?_;rw[aoI,akB];intro a b ha hb JE e;rw[pO] at ha hb;rw[<-getD_eq (by rw[pO];exact ha) 0,<-getD_eq (by rw[pO];exact hb) 0,ve ha,ve hb] at e;exact hx ⟨a,b,JE,hb,e⟩
 have⟨a,b,JE,hb,e⟩:=hx;refine⟨b-a-1,by omega,?_⟩;have e2:sP f b d=sP f a (sP f (b-a) d):=by rw[<-zb];congr 1;omega
 have:=NU hc hi hd (tN hc hd (b-a)) (e.trans e2);rw[show b-a-1+1=b-a by omega];exact this.symm
theorem BA (hc:∀x∈D,f x∈D)(hi:∀x∈D,∀y∈D,f x=f y->x=y)(hd:d∈D):0<p6 f d D.length/\p6 f d D.length<=D.length/\sP f (p6 f d D.length) d=d/\∀k,0<k->k<p6 f d D.length->sP f k d≠d:=by
 obtain⟨k,hk,e⟩:=aaL hc hi hd;cases hq:(bH D.length).find? λk=>decide (sP f (k+1) d=d) with
 |none=>
  rw[am0] at hq;exact absurd e (by simpa using hq k (cg.2 hk))
 |some m=>
  have hm:=amC.1 hq;have e1:p6 f d D.length=m+1:=by unfold p6;rw[hq];rfl
  rw[e1];have h1:=cg.1 hm.2.1;refine⟨by omega,by omega,by simpa using hm.1,λk h0 h1=>?_⟩;have:=hm.2.2 (k-1) (by omega);rw[show k-1+1=k by omega] at this;simpa using this
theorem NV {p:Nat}(hp:sP f p d=d):∀q,sP f (p*q) d=d
 |0=>rfl
 |q+1=>by rw[Nat.mul_succ,Nat.add_comm,zb,hp,NV hp q]
theorem Ww {p:Nat}(h0:0<p)(hp:sP f p d=d)(k:Nat):sP f k d=sP f (k%p) d:=by
 conv=>lhs;rw[<-Nat.div_add_mod k p,zb,NV hp]
theorem EB (hc:∀x∈D,f x∈D)(hi:∀x∈D,∀y∈D,f x=f y->x=y)(hd:d∈D):(xN f d (p6 f d D.length)).Nodup:=by
 obtain⟨p0,p1,p2,p3⟩:=BA hc hi hd;rw[aoI,akB];intro a b ha hb JE e;rw[pO] at ha hb;rw[<-getD_eq (by rw[pO];exact ha) 0,<-getD_eq (by rw[pO];exact hb) 0,ve ha,ve hb] at e;have e2:sP f b d=sP f a (sP f (b-a) d):=by rw[<-zb];congr 1;omega
 exact p3 (b-a) (by omega) (by omega) (NU hc hi hd (tN hc hd (b-a)) (e.trans e2)).symm
def tY (f:Int->Int)(x y:Int):Prop:=∃k,sP f k x=y
theorem tY.refl (x:Int):tY f x x:=⟨0,rfl⟩
theorem tY.trans {x y z:Int}(h:tY f x y)(k:tY f y z):tY f x z:=by
 obtain⟨a,rfl⟩:=h;obtain⟨b,rfl⟩:=k;exact⟨a+b,zb a b⟩
theorem tY.symm (hc:∀x∈D,f x∈D)(hi:∀x∈D,∀y∈D,f x=f y->x=y){x y:Int}(hx:x∈D)(h:tY f x y):tY f y x:=by
 obtain⟨a,rfl⟩:=h;obtain⟨p0,p1,p2,p3⟩:=BA hc hi hx;refine⟨p6 f x D.length*a-a,?_⟩;rw[<-zb];have:a<=p6 f x D.length*a:=Nat.le_mul_of_pos_left a p0;rw[show a+(p6 f x D.length*a-a)=p6 f x D.length*a by omega];exact NV p2 a
theorem qG (hc:∀x∈D,f x∈D)(hi:∀x∈D,∀y∈D,f x=f y->x=y)(hd:d∈D){x:Int}:x∈xN f d (p6 f d D.length)↔tY f d x:=by
 obtain⟨p0,p1,p2,p3⟩:=BA hc hi hd;constructor
 .intro h;obtain⟨i,_,rfl⟩:=aN.1 h;exact⟨i,rfl⟩
 rintro⟨k,rfl⟩;rw[Ww p0 p2 k];exact aN.2 ⟨_,cg.2 (akz _ p0),rfl⟩
end
def xO (f:Int->Int)(d:Int)(p:Nat):Bool:=(bH p).all λj=>decide (j=0)||decide (d<sP f j d)
def S9 (f:Int->Int)(ds:List Int)(N:Nat):Nat->List (Int×List Int)
 |0=>[]
 |k+1=>if xO f (ds.getD k 0) (p6 f (ds.getD k 0) N)=true then S9 f ds N k++[(ds.getD k 0,xN f (ds.getD k 0) (p6 f (ds.getD k 0) N))] else S9 f ds N k
theorem yt {f:Int->Int}{d:Int}{p:Nat}:xO f d p=true↔∀j,0<j->j<p->d<sP f j d:=by
 unfold xO;rw[aY];constructor
 .intro h j h0 h1;have:=h j (cg.2 h1);simp only[Bool.or_eq_true,decide_eq_true_eq] at this;rcases this with q|q
  .omega
  exact q
 intro h j hj
 by_cases q:j=0
 .rw[bN q];rfl
 rw[bN (h j (by omega) (cg.1 hj)),Bool.or_true]
theorem NW {L:List Int}(h:FA L):∀ {k:Nat},k<=L.length->FA (m7 L k)
 |0,_=>aoJ
 |k+1,hk=>by
  have ht:L.take (k+1)=L.take k++[L.getD k 0]:=nZ (by omega) 0;have ha:FA (L.take (k+1)):=h.sublist (amD _ _);rw[ht] at ha;have hb:=(aoK.1 ha).2.2;refine aoK.2 ⟨NW h (by omega),?_,λa ha2 b C3=>?_⟩
  .refine akJ.2 ⟨λy hy=>?_,amB _ _⟩;rw[av.1 hy];omega
  have:=hb _ ((CN (by omega) a).1 ha2) _ (av.2 rfl);rcases aC.1 C3 with rfl|C3
  .omega
  rw[av.1 C3];omega
section
variable {f:Int->Int}{D:List Int}{d:Int}{r:Option vR}{m:List (Int×Int)}
theorem LY (hf:∀x∈D,(lq r (jG x) (-1)).1=f x)(hc:∀x∈D,f x∈D)(hi:∀x∈D,∀y∈D,f x=f y->x=y)(hd:d∈D)(hm:∀i,i<p6 f d D.length->(iC m (sP f i d)).isSome=true):
  ∀ {k i:Nat} {mi:List (Int×Int)},i<p6 f d D.length->p6 f d D.length<=i+k->(∀y,(iC mi y).isSome=true↔(iC m y).isSome=true/\∀j,j<i->sP f j d≠y)->
   (qz r k mi (sP f i d) (xN f d i)).2=xN f d (p6 f d D.length)/\∀y,(iC (qz r k mi (sP f i d) (xN f d i)).1 y).isSome=true↔(iC m y).isSome=true/\∀j,j<p6 f d D.length->sP f j d≠y
 |0,i,mi,h1,h2,_=>by omega
 |k+1,i,mi,h1,h2,hmi=>by
  obtain⟨p0,p1,p2,p3⟩:=BA hc hi hd;have hn:=EB hc hi hd;have hx:=tN hc hd i;have e:(lq r (jG (sP f i d)) (-1)).1=sP f (i+1) d:=hf _ hx;have Ga:∀y,(iC (Dk mi (sP f i d)) y).isSome=true↔(iC m y).isSome=true/\∀j,j<i+1->sP f j d≠y:=λy=>by
   rw[Dl]
   by_cases q:sP f i d=y
   .rw[ak q];exact⟨λz=>(by cases z),λz=>absurd q (z.2 i (cQ _))⟩
   rw[ah q,hmi];exact⟨λz=>⟨z.1,λj hj=>(dw.1 hj).elim (z.2 j) λw=>w▸q⟩,λz=>⟨z.1,λj hj=>z.2 j (by omega)⟩⟩
  unfold qz;rw[e,<-R4]
  by_cases hl:i+1<p6 f d D.length
  .have hs:(iC (Dk mi (sP f i d)) (sP f (i+1) d)).isSome=true:=(Ga _).2 ⟨hm _ hl,λj hj q=>by
    have:=nY (z:=(0:Int)) hn (i:=j) (j:=i+1) (by rw[pO];omega) (by rw[pO];exact hl) (by rw[ve (by omega),ve hl];exact q);omega⟩
   rw[ak hs];exact LY hf hc hi hd hm hl (by omega) Ga
  have ep:i+1=p6 f d D.length:=by omega
  have hs:¬(iC (Dk mi (sP f i d)) (sP f (i+1) d)).isSome=true:=λz=>((Ga _).1 z).2 0 (by omega) (by rw[ep,p2];rfl);rw[ah hs,ep];rw[ep] at Ga;exact⟨rfl,Ga⟩
theorem PC {out:List (Int×List Int)}(ha:FA D)(hf:∀x∈D,(lq r (jG x) (-1)).1=f x)(hc:∀x∈D,f x∈D)(hi:∀x∈D,∀y∈D,f x=f y->x=y):∀ {k:Nat},k<=D.length->
  (∀y,(iC (l8 r D out k).1 y).isSome=true↔y∈D/\∀j,j<k->¬tY f (D.getD j 0) y)/\(l8 r D out k).2=out++S9 f D D.length k
 |0,_=>⟨λy=>by
  show(iC (VR D D.length) y).isSome=true↔_;rw[CP (ay _),bL];exact⟨λh=>⟨h,λj hj=>by omega⟩,λh=>h.1⟩,(bq _).symm⟩
 |k+1,hk=>by
  obtain⟨h1,h2⟩:=PC ha hf hc hi (k:=k) (by omega);have hd:D.getD k 0∈D:=iL (by omega);obtain⟨p0,p1,p2,p3⟩:=BA hc hi hd;have pg:∀a b,a<b->b<D.length->D.getD a 0<D.getD b 0:=λa b JE hb=>by
   rw[getD_eq (show a<D.length by omega),getD_eq hb];exact akB.1 ha a b (by omega) hb JE
  show(∀y,(iC (qR r (l8 r D out k) (D.getD k 0)).1 y).isSome=true↔_)/\(qR r (l8 r D out k) (D.getD k 0)).2=_;unfold qR S9
  by_cases hs:(iC (l8 r D out k).1 (D.getD k 0)).isSome=true
  .have B3:=((h1 _).1 hs).2;have aee:xO f (D.getD k 0) (p6 f (D.getD k 0) D.length)=true:=yt.2 λj j0 j1=>by
    obtain⟨q,hq,e⟩:=iV (z:=(0:Int)).1 (tN hc hd j);rcases anj q k with z|z|z
    .exact absurd (tY.symm hc hi hd ⟨j,rfl⟩) (by rw[<-e];exact B3 q z)
    .subst z;exact absurd e.symm (p3 j j0 j1)
    rw[<-e];exact pg k q z hq
   have vr:∀i,i<p6 f (D.getD k 0) D.length->(iC (l8 r D out k).1 (sP f i (D.getD k 0))).isSome=true:=λi qm=>(h1 _).2 ⟨tN hc hd i,λj hj z=>B3 j hj (z.trans (tY.symm hc hi hd ⟨i,rfl⟩))⟩;have akd:p6 f (D.getD k 0) D.length<=(l8 r D out k).1.length:=by
    have:=(EB hc hi hd).length_le_of_subset (l₂:=(l8 r D out k).1.map (·.1)) λx hx=>by
     obtain⟨i,qm,rfl⟩:=aN.1 hx;exact mem_keys.2 (vr i (cg.1 qm))
    rwa[pO,aV] at this
   obtain⟨o1,o2⟩:=LY hf hc hi hd vr (k:=(l8 r D out k).1.length) (i:=0) p0 (by omega) (mi:=(l8 r D out k).1) λy=>⟨λz=>⟨z,λj hj=>by omega⟩,λz=>z.1⟩;have o1:(qz r (l8 r D out k).1.length (l8 r D out k).1 (D.getD k 0) []).2=xN f (D.getD k 0) (p6 f (D.getD k 0) D.length):=o1;have o2:∀y,(iC (qz r (l8 r D out k).1.length (l8 r D out k).1 (D.getD k 0) []).1 y).isSome=true↔(iC (l8 r D out k).1 y).isSome=true/\∀j,j<p6 f (D.getD k 0) D.length->sP f j (D.getD k 0)≠y:=o2;rw[ak hs,ak aee,o1,h2,bC];refine⟨λy=>?_,rfl⟩;show(iC (qz r (l8 r D out k).1.length (l8 r D out k).1 (D.getD k 0) []).1 y).isSome=true↔_;rw[o2,h1];constructor
   .rintro⟨⟨z1,z2⟩,z3⟩;refine⟨z1,λj hj=>?_⟩;rcases dw.1 hj with w|w
    .exact z2 j w
    subst w;rintro⟨q,rfl⟩;exact z3 _ (akz _ p0) (Ww p0 p2 q).symm
   rintro⟨z1,z2⟩;exact⟨⟨z1,λj hj=>z2 j (by omega)⟩,λj hj e=>z2 k (cQ _) ⟨j,e⟩⟩
  have B3:∃j,j<k/\tY f (D.getD j 0) (D.getD k 0):=by
   refine bT λz=>hs ((h1 _).2 ⟨hd,λj hj w=>z ⟨j,hj,w⟩⟩)
  have⟨j,hj,hw⟩:=B3;have Kz:D.getD j 0∈D:=iL (by omega);have MC:¬xO f (D.getD k 0) (p6 f (D.getD k 0) D.length)=true:=λz=>by
   have hb:=(qG hc hi hd).2 (tY.symm hc hi Kz hw);obtain⟨i,qm,e⟩:=aN.1 hb;have qm:=cg.1 qm;have h3:=pg j k hj (by omega)
   by_cases q:i=0
   .subst q;have e:D.getD k 0=D.getD j 0:=e;omega
   have:=yt.1 z i (by omega) qm;rw[e] at this;omega
  rw[ah hs,ah MC];refine⟨λy=>?_,h2⟩;rw[h1];constructor
  .rintro⟨z1,z2⟩;refine⟨z1,λq hq=>?_⟩;rcases dw.1 hq with w|w
   .exact z2 q w
   subst w;exact λz=>z2 j hj (hw.trans z)
  rintro⟨z1,z2⟩;exact⟨z1,λq hq=>z2 q (by omega)⟩
end
theorem R5 {n:Int}{E:List (Int×Int)}{V L:List Int}{T:List (List Int)}(h:(mF n E V L T).2=0):
  iA n E V L T=(Cf V T V.length++S9 (FI E T) (m7 L L.length) (m7 L L.length).length (m7 L L.length).length,0):=by
 obtain⟨hp,hT,hr⟩:=y7 h;obtain⟨hrt,hV,hL,_⟩:=jH hp;rw[u5 h];have hD:∀x∈m7 L L.length,jy L x:=λx hx=>(mH x).1 hx;rw[(PC (r:=(mF n E V L T).1) (D:=m7 L L.length) (f:=FI E T) (NW (iK.1 hL).1 (ay _)) (λx hx=>by
  rw[za hp hT (hD x hx),hr];rfl) (λx hx=>by
  rw[za hp hT (hD x hx)];exact(mH _).2 (uZ hp hT (hD x hx)).1) (λx hx y hy e=>by
  rw[za hp hT (hD x hx),za hp hT (hD y hy)] at e;exact Li hp hT (hD x hx) (hD y hy) e) (ay _)).2]
section
variable {n:Int}{E:List (Int×Int)}{V L:List Int}{T:List (List Int)}
end
def ajc (E:List (Int×Int))(V L:List Int)(T:List (List Int)):List (Int×List Int):=Cf V T V.length++S9 (FI E T) (m7 L L.length) (m7 L L.length).length (m7 L L.length).length
theorem aaM {E:List (Int×Int)}{v:Int}{l:List Int}:(IZ E v l= -1/\∀j,j<l.length->iO E (l.getD j 0)≠v)\/∃i:Nat,IZ E v l=(i:Int)/\i<l.length/\iO E (l.getD i 0)=v:=by
 unfold IZ
 by_cases q:l.findIdx (λx=>decide (iO E x=v))<l.length
 .rw[ak q];refine .inr ⟨_,rfl,q,?_⟩;have:=List.findIdx_getElem (w:=q);rw[getD_eq q];simpa using this
 rw[ah q];refine .inl ⟨rfl,λj hj e=>q (List.findIdx_lt_length_of_exists ⟨l.getD j 0,iL hj,bN e⟩)⟩
abbrev hdE (E:List (Int×Int))(d:Int):Int:=iO E (jG d)
section
variable {E:List (Int×Int)}{ds gone l:List Int}{d:Int}{k:Nat}
theorem BB {j:Nat}(h:j<gone.length):(gone++[d]).getD j 0=gone.getD j 0:=by
 rw[aH,cX h,<-aH]
theorem NY:(gone++[d]).getD gone.length 0=d:=by
 rw[aH,cY (ay _),cZ];rfl
theorem He {i j:Nat}:(l.drop i).getD j 0=l.getD (i+j) 0:=by
 rw[aH,List.getElem?_drop,<-aH]
theorem EC {i j:Nat}(h:j<i):(l.take i).getD j 0=l.getD j 0:=by
 rw[aH,List.getElem?_take_of_lt h,<-aH]
structure Cw (E:List (Int×Int))(g:List Int):Prop where
 nd:∀i j,i<j->j<g.length->iO E (g.getD i 0)≠iO E (g.getD j 0)
 ch:∀j,j+1<g.length->iO E (g.getD (j+1) 0)=hdE E (g.getD j 0)
structure ArI (E:List (Int×Int))(ds:List Int)(k:Nat)(g:List Int):Prop where
 p:Cw E g
 la:g≠[]->0<k/\hdE E (g.getD (g.length-1) 0)=hdE E (ds.getD (k-1) 0)
 no:∀j,j<g.length->iO E (g.getD j 0)≠hdE E (g.getD (g.length-1) 0)
theorem Cw.nil:Cw E []:=⟨λi j _ h=>(by simp at h),λj h=>(by simp at h)⟩
theorem Cw.drop (h:Cw E l)(i:Nat):Cw E (l.drop i):=by
 refine⟨λa b JE hb=>?_,λj hj=>?_⟩
 .rw[bw] at hb;rw[He,He];exact h.nd _ _ (by omega) (by omega)
 rw[bw] at hj;rw[He,He];exact h.ch (i+j) (by omega)
theorem Cw.take (h:Cw E l)(i:Nat):Cw E (l.take i):=by
 refine⟨λa b JE hb=>?_,λj hj=>?_⟩
 .rw[aX] at hb;rw[EC (by omega),EC (by omega)];exact h.nd _ _ JE (by omega)
 rw[aX] at hj;rw[EC (by omega),EC (by omega)];exact h.ch j (by omega)
theorem ArI.add (h:ArI E ds k gone)(VH:∀k,k+1<ds.length->iO E (ds.getD (k+1) 0)=hdE E (ds.getD k 0))(hk:k<ds.length):Cw E (gone++[ds.getD k 0]):=by
 have hlen:(gone++[ds.getD k 0]).length=gone.length+1:=by simp
 have acK:gone≠[]->iO E (ds.getD k 0)=hdE E (gone.getD (gone.length-1) 0):=λmc=>by
  obtain⟨h0,h1⟩:=h.la mc;have:=VH (k-1) (by omega);rw[show k-1+1=k by omega] at this;rw[this,h1]
 refine⟨λi j JB hj=>?_,λj hj=>?_⟩
 .rw[hlen] at hj
  by_cases q:j<gone.length
  .rw[BB q,BB (by omega)];exact h.p.nd i j JB q
  have e:j=gone.length:=by omega
  subst e;have mc:gone≠[]:=λe=>by rw[e] at JB;simp at JB
  rw[NY,BB JB,acK mc];exact h.no i JB
 rw[hlen] at hj
 by_cases q:j+1<gone.length
 .rw[BB q,BB (by omega)];exact h.p.ch j q
 have e:j+1=gone.length:=by omega
 have mc:gone≠[]:=λe2=>by rw[e2] at e;simp at e
 rw[e,NY,BB (by omega),acK mc,show gone.length-1=j by omega]
theorem Cw.cyc (h:Cw E l)(hn:l≠[])(hc:iO E (l.getD 0 0)=hdE E (l.getD (l.length-1) 0))(hb:¬((l.length:Int)=2/\l.getD 0 0=jG (l.getD 1 0))):CyK E l l.length:=by
 have Tc:=List.length_pos_iff.2 hn;refine⟨λj hj=>?_,λj hj i JB=>⟨h.nd i j JB hj,λe=>?_⟩⟩
 .unfold aaE
  by_cases q:j=0
  .rw[ak q,q];exact hc.symm
  rw[ah q];have:=h.ch (j-1) (by omega);rw[show j-1+1=j by omega] at this;exact this.symm
 have ht:l.getD j 0=l.getD i 0\/l.getD j 0=jG (l.getD i 0):=by unfold jG;split<;>omega
 rcases ht with z|z
 .exact h.nd i j JB hj (by rw[z])
 have h1:iO E (l.getD (i+1) 0)=iO E (l.getD j 0):=by rw[h.ch i (by omega),z]
 have zo:j=i+1:=by
  rcases anj (i+1) j with w|w|w
  .exact absurd h1 (h.nd _ _ w hj)
  .exact w.symm
  omega
 have h2:hdE E (l.getD j 0)=iO E (l.getD i 0):=by show iO E (jG _)=_;rw[z,Pe]
 have hjl:j=l.length-1:=by
  by_cases w:j+1<l.length
  .have:=h.ch j w;rw[h2] at this;exact absurd this.symm (h.nd i (j+1) (by omega) w)
  omega
 have hi0:i=0:=by
  rw[<-hjl,h2] at hc
  by_cases w:0<i
  .exact absurd hc (h.nd 0 i w (by omega))
  omega
 subst hi0;exact hb ⟨by omega,by rw[zo] at z;rw[z,Pe]⟩
theorem ArI.step (h:ArI E ds k gone)(VH:∀k,k+1<ds.length->iO E (ds.getD (k+1) 0)=hdE E (ds.getD k 0))(hk:k<ds.length)(out:List (List Int))(ho:∀l∈out,CyK E l l.length/\l≠[]):
  ArI E ds (k+1) (arS E (gone,out) (ds.getD k 0)).1/\∀l∈(arS E (gone,out) (ds.getD k 0)).2,CyK E l l.length/\l≠[]:=by
 have hp:=h.add VH hk;have hlen:(gone++[ds.getD k 0]).length=gone.length+1:=by simp
 have qg:(gone++[ds.getD k 0]).getD ((gone++[ds.getD k 0]).length-1) 0=ds.getD k 0:=by rw[hlen,amz];exact NY
 have hix:=aaM (E:=E) (v:=iO E (jG (ds.getD k 0))) (l:=gone++[ds.getD k 0]);generalize hg:gone++[ds.getD k 0]=g at*
 have ako:g≠[]:=λe=>by rw[e] at hlen;simp at hlen
 unfold arS;dsimp only;rw[hg];rcases hix with⟨i1,i2⟩|⟨i,i1,i2,i3⟩
 .rw[ak (by rw[i1];decide)];refine⟨⟨hp,λ_=>⟨by omega,by rw[qg,amz]⟩,λj hj=>?_⟩,ho⟩;rw[qg];exact i2 j hj
 rw[ah (by omega),i1,cH];refine⟨⟨hp.take i,λmc=>⟨by omega,?_⟩,λj hj=>?_⟩,?_⟩
 .have hi0:0<i:=amj λe=>mc (by rw[e];rfl);have hti:(g.take i).length=i:=by rw[aX];omega
  rw[hti,EC (by omega),amz];have:=hp.ch (i-1) (by omega);rw[show i-1+1=i by omega] at this;rw[<-this,i3]
 .have hti:(g.take i).length=i:=by rw[aX];omega
  rw[hti] at hj ⊢;rw[EC hj,EC (by omega)];have:=hp.ch (i-1) (by omega);rw[show i-1+1=i by omega] at this;rw[<-this];exact hp.nd j i hj i2
 dsimp only;split
 .rename_i hb;intro l hl;rcases aI.1 hl with q|q
  .exact ho l q
  rw[av.1 q];have MK:g.drop i≠[]:=λe=>by
   have:(g.drop i).length=0:=by rw[e];rfl
   rw[bw] at this;omega
  refine⟨(hp.drop i).cyc MK ?_ λz=>?_,MK⟩
  .rw[He,He,bw,show i+(g.length-i-1)=g.length-1 by omega,qg,dS,i3]
  rcases hb with w|w
  .exact w z.1
  exact w z.2
 exact ho
end
section
variable {n:Int}{E:List (Int×Int)}{V L:List Int}{T S:List (List Int)}
end
section
variable {n:Int}{E:List (Int×Int)}{V L:List Int}{a but x:Int}
def rpS (E:List (Int×Int))(V L:List Int)(s:List Int×List (List Int×List Int))(v:Int):List Int×List (List Int×List Int):=
 if v∈s.1 then s else(s.1++spread E L v (-1),s.2++[(ai4 V (spread E L v (-1)),ai5 E L (spread E L v (-1)))])
def rpF (E:List (Int×Int))(V L:List Int):Nat->List Int×List (List Int×List Int)
 |0=>([],[])
 |k+1=>rpS E V L (rpF E V L k) (V.getD k 0)
end
section
variable {n:Int}{E:List (Int×Int)}{V L:List Int}
open Classical in
end
def ag0 (E:List (Int×Int))(w:Int×List Int):Int:=if w.1<0 then -1-w.1 else iO E w.1
def acL (E:List (Int×Int))(W:List (Int×List Int))(vs:List Int):Nat->Int
 |0=>0
 |k+1=>acL E W vs k+if ag0 E (W.getD k (0,[]))∈vs then 1 else 0
def gnR (E:List (Int×Int))(P:List (List Int×List Int))(W:List (Int×List Int)):Nat->List Int
 |0=>[]
 |k+1=>gnR E P W k++[Int.tdiv (2-((P.getD k ([],[])).1.length:Int)+((P.getD k ([],[])).2.length:Int)-acL E W (P.getD k ([],[])).1 W.length) 2]
section
variable {E:List (Int×Int)}{P:List (List Int×List Int)}{W:List (Int×List Int)}{vs:List Int}{i:Int}
end
def gnA (E:List (Int×Int))(V L:List Int)(T:List (List Int)):List Int:=gnR E (rpF E V L V.length).2 (ajc E V L T) (rpF E V L V.length).2.length
def ag1 (n:Int)(E:List (Int×Int))(V L:List Int)(T:List (List Int)):Prop:=(mF n E V L T).2=0/\∀x∈gnA E V L T,x=0
instance (n:Int) (E:List (Int×Int)) (V L:List Int) (T:List (List Int)):Decidable (ag1 n E V L T):=by unfold ag1;infer_instance
section
variable {n:Int}{E:List (Int×Int)}{V L:List Int}{T:List (List Int)}{P:vt}{W:List (Int×List Int)}
end
def NZ (N:Nat)(p:Nat->Bool):Int:=match(bH N).find? p with
 |some i=>(i:Int)
 |none=> -1
section
variable {N:Nat}{p:Nat->Bool}
theorem PD {i:Nat}(hi:i<N)(h:p i=true):∃j:Nat,NZ N p=(j:Int)/\j<=i/\p j=true:=by
 cases hq:(bH N).find? p with
 |none=>
  rw[am0] at hq;exact absurd h (hq i (cg.2 hi))
 |some j=>
  have hj:=amC.1 hq;refine⟨j,by unfold NZ;rw[hq],Nat.le_of_not_lt λz=>?_,hj.1⟩;have:=hj.2.2 i z;rw[h] at this;cases this
theorem aef: -1<=NZ N p/\NZ N p<(N:Int):=by
 unfold NZ;cases hq:(bH N).find? p with
 |none=>exact⟨bM _,by show(-1:Int)<_;omega⟩
 |some j=>
  have hj:=cg.1 (amC.1 hq).2.1;show -1<=(j:Int)/\(j:Int)<_;omega
end
def Ta (W:List (Int×List Int))(key:Int):Int:=NZ W.length λi=>decide ((W.getD i (0,[])).1=key)
section
variable {S:List (List Int)}{W:List (Int×List Int)}{key i:Int}
end
section
variable {ow:List (Int×Int)}{S:List (List Int)}{N:Nat}{l:List Int}{s z:S4×List (Int×Int)}
theorem Wx {i:Int}{k:Nat}(h:vX ow l i s k=some z):(iC ow (l.getD k 0)).isSome=true/\(iC s.2 (l.getD k 0)).isSome=false/\∀x,(iC z.2 x).isSome=true↔(iC s.2 x).isSome=true\/x=l.getD k 0:=by
 have hp:∀m:List (Int×Int),∀x,(iC (jM m (l.getD k 0) i) x).isSome=true↔(iC m x).isSome=true\/x=l.getD k 0:=λm x=>by
  rw[jI]
  by_cases q:l.getD k 0=x
  .rw[ak q];exact⟨λ_=>.inr q.symm,λ_=>rfl⟩
  rw[ah q];exact⟨.inl,λw=>w.elim id λw=>absurd w.symm q⟩
 unfold vX at h
 by_cases q:(iC ow (l.getD k 0)).isSome=false\/(iC s.2 (l.getD k 0)).isSome=true\/(0<k/\l.getD k 0<=l.getD (k-1) 0)
 .rw[ak q] at h;cases h
 rw[ah q] at h;refine⟨by cases hq:(iC ow (l.getD k 0)).isSome;exact absurd (.inl hq) q;rfl,by cases hq:(iC s.2 (l.getD k 0)).isSome;rfl;exact absurd (.inr (.inl hq)) q,?_⟩;split at h
 .cases h;exact hp s.2
 split at h
 .cases h;exact hp s.2
 cases h
theorem LZ {i:Int}:∀ {k:Nat} {z:S4×List (Int×Int)},k<=l.length->runK ow l i s k=some z->
  (∀x,(iC z.2 x).isSome=true↔(iC s.2 x).isSome=true\/x∈l.take k)/\∀x∈l.take k,(iC ow x).isSome=true/\(iC s.2 x).isSome=false
 |0,z,_,h=>by
  have h:some s=some z:=h;cases h;exact⟨λx=>⟨.inl,λw=>w.elim id λw=>(by simp at w)⟩,λx hx=>(by simp at hx)⟩
 |k+1,z,hk,h=>by
  have h:(runK ow l i s k).bind (λy=>vX ow l i y k)=some z:=h;cases hq:runK ow l i s k with
  |none=>rw[hq] at h;cases h
  |some y=>
   rw[hq] at h;obtain⟨h1,h2⟩:=LZ (k:=k) (by omega) hq;obtain⟨k1,k2,k3⟩:=Wx (show vX ow l i y k=some z from h);rw[nZ (show k<l.length by omega) 0];refine⟨λx=>?_,λx hx=>?_⟩
   .rw[k3,h1,aI,av,or_assoc]
   rcases aI.1 hx with w|w
   .exact h2 x w
   rw[av.1 w];refine⟨k1,?_⟩;cases hv:(iC s.2 (l.getD k 0)).isSome with
   |false=>rfl
   |true=>have:=(h1 (l.getD k 0)).2 (.inl hv);rw[k2] at this;cases this
theorem ED:∀ {i:Nat} {z:S4×List (Int×Int)},rA ow S N i=some z->(∀x,(iC z.2 x).isSome=true↔∃j,j<i/\x∈S.getD j [])/\(∀j,j<i->∀x∈S.getD j [],(iC ow x).isSome=true)/\∀a b,a<b->b<i->∀x∈S.getD a [],x∉S.getD b []
 |0,z,h=>by
  have h:some (vW N,([]:List (Int×Int)))=some z:=h;cases h;exact⟨λx=>⟨λw=>(by cases w),λ⟨j,w,_⟩=>(by omega)⟩,λj w=>(by omega),λa b _ w=>(by omega)⟩
 |i+1,z,h=>by
  have h:(rA ow S N i).bind (λs=>vY ow S s i)=some z:=h;cases hq:rA ow S N i with
  |none=>rw[hq] at h;cases h
  |some y=>
   rw[hq] at h;have h:vY ow S y i=some z:=h;obtain⟨h1,h2,h3⟩:=ED hq;unfold vY at h;split at h
   .cases h
   obtain⟨k1,k2⟩:=LZ (ay _) h;rw[bL] at k1 k2;refine⟨λx=>?_,λj hj x hx=>?_,λa b JE hb x hx=>?_⟩
   .rw[k1,h1];constructor
    .rintro(⟨j,w1,w2⟩|w)
     .exact⟨j,by omega,w2⟩
     exact⟨i,cQ _,w⟩
    rintro⟨j,w1,w2⟩;rcases dw.1 w1 with q|q
    .exact .inl ⟨j,q,w2⟩
    subst q;exact .inr w2
   .rcases dw.1 hj with q|q
    .exact h2 j q x hx
    subst q;exact(k2 x hx).1
   rcases dw.1 hb with q|q
   .exact h3 a b JE q x hx
   subst q;intro w;have:=(h1 x).2 ⟨a,JE,hx⟩;rw[(k2 x w).2] at this;cases this
end
theorem Wy {E:List (Int×Int)}{P:vt}{W:List (Int×List Int)}:∀ {k:Nat},k<=W.length->∀x,(iC (jJ E P W k) x).isSome=true↔∃w∈W.take k,w.1=x
 |0,_,x=>⟨λh=>(by cases h),λ⟨w,hw,_⟩=>(by simp at hw)⟩
 |k+1,h,x=>by
  show(iC (jM (jJ E P W k) (W.getD k (0,[])).1 _) x).isSome=true↔_;rw[jI,nZ (show k<W.length by omega) (0,[])]
  by_cases q:(W.getD k (0,[])).1=x
  .rw[ak q];exact⟨λ_=>⟨_,bl _ (av.2 rfl),q⟩,λ_=>rfl⟩
  rw[ah q,Wy (k:=k) (by omega)];constructor
  .rintro⟨w,hw,e⟩;exact⟨w,aS _ hw,e⟩
  rintro⟨w,hw,e⟩;rcases aI.1 hw with z|z
  .exact⟨w,z,e⟩
  rw[av.1 z] at e;exact absurd e q
section
variable {S:List (List Int)}{W:List (Int×List Int)}{key:Int}
end
section
variable {n:Int}{E:List (Int×Int)}{V L:List Int}{T S:List (List Int)}
end
theorem ag2 (W:List (Int×List Int))(key:Int): -1<=Ta W key/\Ta W key<(W.length:Int):=aef
section
variable {g l m:List Int}{a b:Int}{W:List (Int×List Int)}{o:Int->Int}
structure Wz (W:List (Int×List Int))(m:List Int):Prop where
 nd:m.Nodup
 fn:∀x∈m,0<=Ta W x
theorem aaN {x y:Int}(hx:0<=Ta W x)(e:Ta W x=Ta W y):x=y:=by
 have key:∀x,0<=Ta W x->(W.getD (Ta W x).toNat (0,[])).1=x:=λx hx=>by
  unfold Ta NZ at hx ⊢;split at hx
  .rename_i i hi;have:=(amC.1 hi).1;exact aP this
  omega
 rw[<-key x hx,<-key y (by omega),e]
theorem Wz.len (h:Wz W m):m.length<=W.length:=by
 have hn:(m.map λx=>(Ta W x).toNat).Nodup:=by
  refine List.pairwise_map.2 (h.nd.imp_of_mem λ{x y} hx hy q e=>q ?_);have:=h.fn x hx;have:=h.fn y hy;exact aaN (by omega) (by omega)
 have:=hn.length_le_of_subset (l₂:=bH W.length) λz hz=>by
  obtain⟨x,hx,rfl⟩:=aN.1 hz;have:=(ag2 W x).2;have:=h.fn x hx;exact cg.2 (by omega)
 rwa[aV,ak7] at this
theorem Wz.snoc (h:Wz W m){x:Int}(h1:¬Ta W x<0)(h2:x∉m):Wz W (m++[x]):=
 ⟨dF.2 ⟨h.nd,amB _ _,λa ha b hb e=>h2 (by rw[<-av.1 hb,<-e];exact ha)⟩,λy hy=>(aI.1 hy).elim (h.fn y) λq=>by rw[av.1 q];omega⟩
end
structure GrI (ow:qn)(N:Nat)(g m:List Int)(z:S4×qn):Prop where
 rt:FD ow N z
 len:g.length=N
 wA:∀x,(iC z.1.1 x).isSome=true->0<=x/\x<(N:Int)
 eq:∀a b:Int,0<=a->a<(N:Int)->0<=b->b<(N:Int)->(g.getD a.toNat 0=g.getD b.toNat 0↔Rl z.1 a b)
 me:∀x,(iC z.2 x).isSome=true↔x∈m
section
variable {ow:qn}{N:Nat}{W:List (Int×List Int)}{o:Int->Int}{l g m:List Int}{s:S4×qn}{S:List (List Int)}
theorem GrI.met (h:GrI ow N g m s){x i:Int}(hx:(iC ow x).isSome=true):GrI ow N g (m++[x]) (s.1,jM s.2 x i):=
 ⟨h.rt.met hx,h.len,h.wA,h.eq,λy=>by
  show(iC (jM s.2 x i) y).isSome=true↔_;rw[jI,aI,av]
  by_cases q:x=y
  .rw[ak q];exact⟨λ_=>.inr q.symm,λ_=>rfl⟩
  rw[ah q,h.me];exact⟨.inl,λw=>w.elim id λw=>absurd w.symm q⟩⟩
variable (hk:∀x,(iC ow x).isSome=true↔0<=Ta W x)(ho:∀x,(iC ow x).isSome=true->(iC ow x).getD 0=o x/\0<=o x/\o x<(N:Int))
include hk ho in
end
section
variable {n:Int}{E:List (Int×Int)}{V L:List Int}{T S:List (List Int)}
end
theorem ag3 (s:ByteArray)(pos:Nat):(aJ s pos).2<=4:=by
 simp only[aJ]
 repeat' split
 all_goals simp_all [Utf8.runeError]
theorem PE (s:ByteArray):∀(f pos:Nat) (n k:Int),s.size-pos<=f->0<=n->n<=16->lz (jY s pos) n k=true->((s.size-pos:Nat):Int)<=4*(16-n)
 |0,pos,n,k,h,h0,h1,_=>by omega
 |f+1,pos,n,k,h,h0,h1,hn=>by
  by_cases hp:pos<s.size
  .rw[ja s pos hp] at hn;have hw:=nX s pos hp;have h4:=ag3 s pos;have key:∀k',n+1<=16->lz (jY s (pos+(aJ s pos).2)) (n+1) k'=true->((s.size-pos:Nat):Int)<=4*(16-n):=λk' q1 q2=>by
    have:=PE s f _ (n+1) k' (by omega) (by omega) q1 q2;omega
   unfold lz at hn;split at hn
   .split at hn
    .cases hn
    split at hn
    .cases hn
    split at hn
    .cases hn
    exact key _ (by omega) hn
   split at hn
   .split at hn
    .cases hn
    split at hn
    .cases hn
    split at hn
    .cases hn
    split at hn
    .cases hn
    exact key _ (by omega) hn
   split at hn
   .split at hn
    .cases hn
    split at hn
    .cases hn
    split at hn
    .cases hn
    exact key _ (by omega) hn
   cases hn
  omega
theorem Hf {s:ByteArray}(h:kg s=true):s.size<=64:=by
 have:=PE s s.size 0 0 0 (by omega) (by omega) (by omega) h;omega
section
variable {ow:qn}{S:List (List Int)}{N:Nat}{l:List Int}{s z:S4×qn}
theorem Hg {i:Int}:∀ {k:Nat} {z:S4×qn},runK ow l i s k=some z->∀j,0<j->j<k->l.getD (j-1) 0<l.getD j 0
 |0,z,_,j,_,hj=>by omega
 |k+1,z,h,j,h0,hj=>by
  have h:(runK ow l i s k).bind (λy=>vX ow l i y k)=some z:=h;cases hq:runK ow l i s k with
  |none=>rw[hq] at h;cases h
  |some y=>
   by_cases e:j=k
   .subst e;rw[hq] at h;have h:vX ow l i y j=some z:=h;unfold vX at h;split at h
    .cases h
    rename_i q;exact aoH λw=>q (.inr (.inr ⟨h0,w⟩))
   exact Hg hq j h0 (by omega)
theorem BC:∀ {i:Nat} {z:S4×qn},rA ow S N i=some z->∀j,j<i->∀k,0<k->k<(S.getD j []).length->(S.getD j []).getD (k-1) 0<(S.getD j []).getD k 0
 |0,z,_,j,hj=>by omega
 |i+1,z,h,j,hj=>by
  have h:(rA ow S N i).bind (λs=>vY ow S s i)=some z:=h;cases hq:rA ow S N i with
  |none=>rw[hq] at h;cases h
  |some y=>
   by_cases e:j=i
   .subst e;rw[hq] at h;have h:vY ow S y j=some z:=h;unfold vY at h;split at h
    .cases h
    exact Hg h
   exact BC hq j (by omega)
theorem PF {l:List Int}(h:∀k,0<k->k<l.length->l.getD (k-1) 0<l.getD k 0):FA l:=by
 refine akB.2 λi j hi hj JB=>?_;have:=Pz (f:=λk=>l.getD k 0) (N:=l.length) h JB hj;rw[getD_eq hi,getD_eq hj] at this;exact this
end
section
variable {n:Int}{E:List (Int×Int)}{V L:List Int}{T S:List (List Int)}
theorem WA (h:r5 n E V L T S=0):S.flatten.Nodup:=by
 obtain⟨_,z,hz,_⟩:=oE h;obtain⟨_,_,m3⟩:=ED hz;have key:∀k,k<=S.length->(S.take k).flatten.Nodup:=λk=>by
  induction k with
  |zero=>exact λ_=>akK
  |succ k ih=>
   intro hk;rw[nZ (show k<S.length by omega) [],List.flatten_append,alW,List.flatten_nil,bq,dF];refine⟨ih (by omega),nG (PF (BC hz k (by omega))),λa ha b hb e=>?_⟩;subst e;obtain⟨u,hu,hx⟩:=(sO (by omega)).1 ha;exact m3 u k hu (by omega) a hx hb
 have:=key S.length (ay _);rwa[bL] at this
theorem EE (h:r5 n E V L T S=0){x:Int}(hx:x∈S.flatten):∃w∈(iA n E V L T).1,w.1=x:=by
 obtain⟨_,z,hz,_⟩:=oE h;obtain⟨_,m2,_⟩:=ED hz;obtain⟨l,hl,hx⟩:=amv.1 hx;obtain⟨j,hj,rfl⟩:=iV (z:=([]:List Int)).1 hl;have:=(Wy (ay _) x).1 (m2 j hj x hx);rwa[bL] at this
theorem Aw {l:List Int}{a b:Int}(hn:l.Nodup)(h:∀x∈l,a<=x/\x<b):l.length<=(b-a).toNat:=by
 have:=hn.length_le_of_subset (l₂:=(bH (b-a).toNat).map λi:Nat=>a+(i:Int)) λx hx=>by
  have:=h x hx;exact aN.2 ⟨(x-a).toNat,cg.2 (by omega),by omega⟩
 rwa[aV,ak7] at this
theorem WB (h:r5 n E V L T S=0):S.flatten.length<=(n+2*(E.length:Int)).toNat:=by
 obtain⟨hp,_,hw⟩:=qC (rB (oE h).1);obtain⟨hr,hV,hL,_⟩:=jH hp;have hn0:=(kF hr).1;have:=Aw (a:= -n) (b:=2*(E.length:Int)) (WA h) λx hx=>by
  obtain⟨w,hm,rfl⟩:=EE h hx;rcases hw.key w hm with⟨_,q⟩|⟨_,q⟩
  .have:=(iK.1 hV).2 _ q;omega
  have:=(iK.1 hL).2 _ q;omega
 rwa[show 2*(E.length:Int)- -n=n+2*(E.length:Int) by omega] at this
theorem R6 (hp:jr n E V L=0)(hT:nS n E L T):(V.flatMap λv=>T.getD v.toNat []).length<=(2*(E.length:Int)).toNat:=by
 obtain⟨_,hV,hL,_⟩:=jH hp;have hVm:=(iK.1 hV).2;have hl:=hT.len;have key:∀l:List Int,l.Nodup->(∀v∈l,0<=v/\v<n)->(l.flatMap λv=>T.getD v.toNat []).Nodup:=λl=>by
  induction l with
  |nil=>exact λ_ _=>akK
  |cons v l ih=>
   intro hn hm;rw[cx,dF];obtain⟨n1,n2⟩:=akO.1 hn;have hv:=hm v aA;refine⟨hT.nd _ (by omega),ih n2 λw hw=>hm w (aE _ hw),λa ha b hb e=>?_⟩;subst e;obtain⟨w,hw,hb⟩:=cy.1 hb;have Fw:=hm w (aE _ hw);have e1:=((hT.mem _ (by omega) a).1 ha).2;have e2:=((hT.mem _ (by omega) a).1 hb).2;have:v=w:=by omega
   exact n1 (this▸hw)
 have:=Aw (a:=0) (b:=2*(E.length:Int)) (key V (nG (iK.1 hV).1) hVm) λx hx=>by
  obtain⟨v,hv,hx⟩:=cy.1 hx;have h1:=hVm v hv;have:=(iK.1 hL).2 _ ((hT.mem _ (by omega) x).1 hx).1;omega
 rwa[Int.sub_zero] at this
end
def JH (ls:List (List ByteArray)):Nat:=(ls.map λws=>(iM ws sI).size+1).sum
theorem EF:∀(ls:List (List ByteArray)) (q:ByteArray),(nk q ls).size=q.size+JH ls
 |[],q=>rfl
 |ws::ls,q=>by
  show(nk (we q ws) ls).size=_;rw[EF ls,vc];show _=q.size+(((iM ws sI).size+1)+JH ls);omega
theorem N0 (A B:List (List ByteArray)):JH (A++B)=JH A+JH B:=by unfold JH;rw[bX,List.sum_append]
theorem rC:∀(a:ByteArray) (l:List ByteArray) (N:Nat),(∀x∈l,x.size<=N)->(iM (a::l) sI).size+1<=a.size+1+l.length*(N+1)
 |a,[],N,_=>by rw[join_one];simp
 |a,b::l,N,h=>by
  have h1:=rC b l N λx hx=>h x (aE _ hx);have h2:=h b aA;rw[join_cons,lB,lB];have h3:sI.size=1:=rfl;rw[bA,bU];omega
theorem EG {α β:Type}{f:α->List (List ByteArray)}{g:α->List β}{c:Nat}:∀ {l:List α},(∀x∈l,JH (f x)<=c+66*(g x).length)->JH (l.flatMap f)<=c*l.length+66*(l.flatMap g).length
 |[],_=>ay _
 |x::l,h=>by
  have h1:=EG (l:=l) λy hy=>h y (aE _ hy);have h2:=h x aA;rw[cx,cx,N0,aO,bA,aoM,aoM];omega
theorem WC {α β:Type}(l:List α):(l.flatMap λ_=>([]:List β))=[]:=by induction l with
 |nil=>rfl
 |cons x l ih=>rw[cx,ih];rfl
theorem EH {α β:Type}{f g:α->List β}:∀ {l:List α},(∀x∈l,f x=g x)->l.flatMap f=l.flatMap g
 |[],_=>rfl
 |x::l,h=>by rw[cx,cx,h x aA,EH λy hy=>h y (aE _ hy)]
section
variable {K:Int}{W:List ByteArray}{E:List lG}{V L:List Int}{T S:List (List Int)}
theorem ze (h:k9 K W E V L T S=0):K=0\/K=1:=by
 unfold k9 at h;split at h
 .cases h
 clear h;omega
theorem I1 (h:k9 K W E V L T S=0):∀j:Nat,j<(tM W E).length->kg ((tM W E).getD j b0)=true:=λj hj=>by
 unfold k9 at h;split at h
 .cases h
 split at h
 .cases h
 rename_i q;cases e:kg ((tM W E).getD j b0) with
 |true=>rfl
 |false=>exact absurd ⟨j,hj,e⟩ q
theorem Ay (h:k9 K W E V L T S=0)(hk:K=0):jQ K W E V L T S=((((W.length:Int),yA E),((V,L),(T,S))),0)/\vb (W.length:Int) (yA E) V L T S=0:=by
 unfold k9 at h;split at h
 .cases h
 split at h
 .cases h
 split at h
 .cases h
 rw[ah (by omega)] at h;split at h
 .rename_i q;exact absurd h q
 rename_i q;have hc:=G6 (eu.1 q);rw[hc] at h;exact⟨hc,h⟩
theorem xP (h:k9 K W E V L T S=0)(hk:K=1):(jN K W E V L T S).2=0/\jA (jN K W E V L T S).1.1.1 (jN K W E V L T S).1.1.2=0/\jA (jN K W E V L T S).1.2.1.1 (jN K W E V L T S).1.2.1.2=0:=by
 unfold k9 at h;split at h
 .cases h
 split at h
 .cases h
 split at h
 .cases h
 split at h
 .rename_i q;exact absurd h q
 rename_i q;refine⟨eu.1 q,?_⟩;unfold wG at h;split at h
 .rename_i z;exact absurd h z
 rename_i z;split at h
 .rename_i y;exact absurd h y
 rename_i y;exact⟨eu.1 z,eu.1 y⟩
theorem EI (h:(jN K W E V L T S).2=0):jN K W E V L T S=((((W.length:Int),(Ar E).1),(((W.length:Int),(Ar E).2.1),(Ar E).2.2)),0)/\V.length=0/\L.length=0/\S.length=0/\V1 E:=by
 unfold jN at h ⊢;split at h
 .rename_i q1;rw[ak q1];split at h
  .cases h
  rename_i q2;rw[ah q2];split at h
  .rename_i q3;rw[ak q3];exact⟨rfl,by omega,by omega,by omega,q3⟩
  cases h
 cases h
theorem aaO (E:List lG):∀l∈E,((l.2.1,l.2.2.1)∈(Ar E).1)\/(l.2.1,l.2.2.1)∈(Ar E).2.1:=by
 have key:∀(E:List lG) (z:Aq),(∀p∈z.1,p∈(E.foldl mV z).1)/\(∀p∈z.2.1,p∈(E.foldl mV z).2.1)/\∀l∈E,((l.2.1,l.2.2.1)∈(E.foldl mV z).1)\/(l.2.1,l.2.2.1)∈(E.foldl mV z).2.1:=by
  intro E
  induction E with
  |nil=>intro z;exact⟨λ_ h=>h,λ_ h=>h,λ_ h=>by cases h⟩
  |cons l E ih=>
   intro z;obtain⟨a,b,c⟩:=ih (mV z l);have h:(∀p∈z.1,p∈(mV z l).1)/\(∀p∈z.2.1,p∈(mV z l).2.1)/\(((l.2.1,l.2.2.1)∈(mV z l).1)\/(l.2.1,l.2.2.1)∈(mV z l).2.1):=by
    unfold mV;split
    .exact⟨λp hp=>aS _ hp,λp hp=>aS _ hp,.inl (bl _ (av.2 rfl))⟩
    split
    .exact⟨λp hp=>aS _ hp,λp hp=>hp,.inl (bl _ (av.2 rfl))⟩
    exact⟨λp hp=>hp,λp hp=>aS _ hp,.inr (bl _ (av.2 rfl))⟩
   refine⟨λp hp=>a p (h.1 p hp),λp hp=>b p (h.2.1 p hp),λx hx=>?_⟩;rcases aC.1 hx with rfl|hx
   .rcases h.2.2 with q|q
    .exact .inl (a _ q)
    exact .inr (b _ q)
   exact c x hx
 exact(key E ([],([],[]))).2.2
theorem I2 {n:Int}{A:List (Int×Int)}(h:jA n A=0){p:Int×Int}(hp:p∈A):Ny n p:=by
 obtain⟨j,hj,rfl⟩:=iV (z:=((0:Int),(0:Int))).1 hp;exact(kF h).2.2.2 j hj
theorem BD (h:k9 K W E V L T S=0):LS W E:=λj hj=>by
 have hm:E.getD j kO∈E:=iL hj;rcases ze h with hk|hk
 .obtain⟨hc,hh⟩:=Ay h hk;have vr:(E.getD j kO).2.2.2=0:=by
   have:Ep E:=by
    unfold jQ at hc;rw[ak hk] at hc;split at hc
    .assumption
    have q:(1:Int)=0:=aG (·.2) hc;omega
   exact this j (by omega)
  have ho:=I2 (jH (PB hh).1).1 (p:=((E.getD j kO).2.1,(E.getD j kO).2.2.1)) (aN.2 ⟨_,hm,rfl⟩);exact⟨⟨ho.1,ho.2.1⟩,⟨ho.2.2.1,ho.2.2.2⟩,by omega,by omega⟩
 obtain⟨h1,h2,h3⟩:=xP h hk;obtain⟨hv,_,_,_,hi⟩:=EI h1;rw[hv] at h2 h3;have ho:Ny (W.length:Int) ((E.getD j kO).2.1,(E.getD j kO).2.2.1):=by
  rcases aaO E _ hm with q|q
  .exact I2 h2 q
  exact I2 h3 q
 have:=hi j (by omega);exact⟨⟨ho.1,ho.2.1⟩,⟨ho.2.2.1,ho.2.2.2⟩,this.1,this.2⟩
theorem rD (h:k9 K W E V L T S=0)(hk:K=0):jr (W.length:Int) (yA E) V L=0/\r5 (W.length:Int) (yA E) V L T S=0/\nS (W.length:Int) (yA E) L T:=by
 obtain⟨_,hh⟩:=Ay h hk;obtain⟨h1,h2⟩:=PB hh;exact⟨h1,h2,(qC (rB (oE h2).1)).2.1⟩
theorem oN (E:List lG):(yA E).length=E.length:=by unfold yA;rw[aV]
theorem EJ (h:k9 K W E V L T S=0)(hk:K=0):NS W E V L T:=by
 obtain⟨h1,_,h3⟩:=rD h hk;obtain⟨_,hV,hL,_⟩:=jH h1;have hl:=h3.len;refine⟨λv hv=>?_,λe he=>?_⟩
 .have:=(iK.1 hV).2 v hv;omega
 have:=(iK.1 hL).2 e he;rw[oN] at this;exact this
theorem WD (h:k9 K W E V L T S=0)(hk:K=0){v:Int}(hv:v∈V):hE E L v=hTn T v:=by
 obtain⟨h1,_,h3⟩:=rD h hk;obtain⟨hV1,YN⟩:=EJ h hk;obtain⟨v0,v1,v2⟩:=hV1 v hv;unfold hE hTn;refine decide_eq_decide.2 ⟨λhm=>?_,λhn=>?_⟩
 .obtain⟨e,he,hx⟩:=cy.1 hm;obtain⟨e0,e1⟩:=YN e he;have hg:(yA E).getD e.toNat (0,0)=((E.getD e.toNat kO).2.1,(E.getD e.toNat kO).2.2.1):=by
   rw[getD_eq (by rw[oN];omega),getD_eq (by omega)];unfold yA;rw[akM]
  have hd:∃d,d∈T.getD v.toNat []:=by
   rcases aC.1 hx with q|q
   .refine⟨2*e,(h3.mem _ (by omega) _).2 ⟨show 2*e/2∈L by rw[show 2*e/2=e by omega];exact he,?_⟩⟩;unfold iO;rw[ak (by omega),show 2*e/2=e by omega,hg];show(E.getD e.toNat kO).2.1=_;omega
   have q:=av.1 q;refine⟨2*e+1,(h3.mem _ (by omega) _).2 ⟨show(2*e+1)/2∈L by rw[show(2*e+1)/2=e by omega];exact he,?_⟩⟩;unfold iO;rw[ah (by omega),show(2*e+1)/2=e by omega,hg];show(E.getD e.toNat kO).2.2.1=_;omega
  have⟨d,hd⟩:=hd;intro z;rw[ak9.1 z] at hd;cases hd
 obtain⟨d,hd⟩:=List.exists_mem_of_length_pos (amj hn);obtain⟨d1,d2⟩:=(h3.mem _ (by omega) d).1 hd;have he:d/2∈L:=d1;obtain⟨e0,e1⟩:=YN _ he;have hg:(yA E).getD (d/2).toNat (0,0)=((E.getD (d/2).toNat kO).2.1,(E.getD (d/2).toNat kO).2.2.1):=by
  rw[getD_eq (by rw[oN];omega),getD_eq (by omega)];unfold yA;rw[akM]
 refine cy.2 ⟨d/2,he,?_⟩;unfold iO at d2;rw[hg] at d2;split at d2
 .have d2:(E.getD (d/2).toNat kO).2.1=_:=d2;exact aC.2 (.inl (by omega))
 have d2:(E.getD (d/2).toNat kO).2.2.1=_:=d2;exact aC.2 (.inr (av.2 (by omega)))
theorem aaP (h:k9 K W E V L T S=0)(hk:K=0):AN W E V L T S (hE E L)=AN W E V L T S (hTn T):=by
 unfold AN;rw[EH (f:=fW W (hE E L)) (g:=fW W (hTn T)) λv hv=>by unfold fW;rw[WD h hk hv],EH (f:=fA W E T (hE E L)) (g:=fA W E T (hTn T)) λv hv=>by unfold fA;rw[WD h hk hv]]
theorem aiu (h:k9 K W E V L T S=0):prM K W E V L T S (hTn T)=FH K W E V L T S (hE E L):=by
 rcases ze h with hk|hk
 .rw[RX hk];unfold prM;rw[aaP h hk]
 obtain⟨_,h1,h2,h3,_⟩:=EI (xP h hk).1;rw[RY (by omega)];unfold prM AN;rw[ak9.1 h1,ak9.1 h2,ak9.1 h3];simp
theorem aaQ (h:k9 K W E V L T S=0):∀j:Nat,j<W.length->(W.getD j b0).size<=64:=λj hj=>by
 have:=I1 h j (by simp[tM];omega);rw[show(tM W E).getD j b0=W.getD j b0 by simp[tM,aH,cX hj]] at this;exact Hf this
theorem aaR (h:k9 K W E V L T S=0):∀j:Nat,j<E.length->(E.getD j kO).1.size<=64:=λj hj=>by
 have:=I1 h (W.length+j) (by simp[tM];omega);rw[show(tM W E).getD (W.length+j) b0=(E.getD j kO).1 by simp[tM,aH,cY,hj]] at this;exact Hf this
theorem aeg {S:List (List Int)}(h:∀l∈S,2<=l.length):S.length<=S.flatten.length:=by
 induction S with
 |nil=>exact ay _
 |cons l S ih=>
  have h1:=ih λx hx=>h x (aE _ hx);have h2:=h l aA;rw[alW,aO,bA];omega
theorem zf (ws:List ByteArray):JH [ws]=(iM ws sI).size+1:=by unfold JH;simp
theorem Az (h:k9 K W E V L T S=0)(hW:W.length<=40)(hE':E.length<=40):(nk b0 (FH K W E V L T S (hE E L))).size<=65536:=by
 have sW:=aaQ h;have sE:=aaR h;have sg:∀x:Int,(W.getD x.toNat b0).size<=64:=λx=>by
  by_cases q:x.toNat<W.length
  .exact sW _ q
  rw[aH,cN (by omega)];exact bu _
 have eg:∀x:Int,(E.getD x.toNat kO).1.size<=64:=λx=>by
  by_cases q:x.toNat<E.length
  .exact sE _ q
  rw[aH,cN (by omega)];exact bu _
 have w0:JH (kL K)=5:=by
  unfold kL;rw[zf,join_one];split<;>rfl
 have w1:=EG (f:=fV) (g:=λ_=>([]:List Int)) (c:=72) (l:=W) λv hv=>by
  unfold fV;rw[zf];have hs:v.size<=64:=by obtain⟨j,hj,rfl⟩:=iV (z:=b0).1 hv;exact sW j hj
  have:=rC Av [v] 64 λx hx=>by rw[av.1 hx];exact hs
  have e:Av.size=6:=rfl;rw[cP] at this;simp only[cq];omega
 have w2:=EG (f:=fE W) (g:=λ_=>([]:List Int)) (c:=202) (l:=E) λe he=>by
  unfold fE;rw[zf];have hs:e.1.size<=64:=by obtain⟨j,hj,rfl⟩:=iV (z:=kO).1 he;exact sE j hj
  have:=rC (kE e.2.2.2) [e.1,W.getD e.2.1.toNat b0,W.getD e.2.2.1.toNat b0] 64 λx hx=>by
   simp only[aC,ak6,or_false] at hx;rcases hx with rfl|rfl|rfl
   .exact hs
   .exact sg _
   exact sg _
  have ek:(kE e.2.2.2).size<=6:=by unfold kE;split;decide;split<;>decide
  simp only[bA,cq] at this ⊢;omega
 rw[WC,cq] at w1 w2;rw[EF];have hb:b0.size=0:=rfl;rcases ze h with hk|hk
 .obtain⟨hp,E8,hT⟩:=rD h hk;obtain⟨hr,hV,hL,_⟩:=jH hp;have c1:L.length<=40:=by
   have:=Aw (a:=0) (nG (iK.1 hL).1) (iK.1 hL).2;rw[oN] at this;omega
  have c2:V.length<=40:=by
   have:=Aw (a:=0) (nG (iK.1 hV).1) (iK.1 hV).2;omega
  have c3:=WB E8;have c4:=R6 hp hT;rw[oN] at c3 c4;have c5:S.length<=S.flatten.length:=aeg λl hl=>by
   obtain⟨_,z,hz,_⟩:=oE E8;obtain⟨j,hj,rfl⟩:=iV (z:=([]:List Int)).1 hl;exact Ap hz j hj
  have w3:=EG (f:=fH E) (g:=λ_=>([]:List Int)) (c:=70) (l:=L) λe _=>by
   unfold fH;rw[zf];have:=rC sC [(E.getD e.toNat kO).1] 64 λx hx=>by rw[av.1 hx];exact eg _
   have e4:sC.size=4:=rfl;rw[cP] at this;simp only[cq];omega
  have w4:=EG (f:=fW W (hE E L)) (g:=λ_=>([]:List Int)) (c:=70) (l:=V) λv _=>by
   unfold fW;split
   .exact bu _
   rw[zf];have:=rC sC [W.getD v.toNat b0] 64 λx hx=>by rw[av.1 hx];exact sg _
   have e4:sC.size=4:=rfl;rw[cP] at this;simp only[cq];omega
  have w5:=EG (f:=fA W E T (hE E L)) (g:=λv=>T.getD v.toNat []) (c:=73) (l:=V) λv _=>by
   unfold fA;split
   .rw[zf];have:=rC wAr (W.getD v.toNat b0::(iE (T.getD v.toNat [])).map (uA W E)) 65 λx hx=>by
     rcases aC.1 hx with rfl|hx
     .exact Nat.le_succ_of_le (sg _)
     obtain⟨d,_,rfl⟩:=aN.1 hx;exact Pv sW sE d
    have e6:wAr.size=6:=rfl;rw[bA,aV,kM,bU] at this;omega
   exact bu _
  have w6:=EG (f:=fR W E) (g:=λl=>l) (c:=7) (l:=S) λl _=>by
   unfold fR;rw[zf];have:=rC wRg (l.map (uA W E)) 65 λx hx=>by obtain⟨d,_,rfl⟩:=aN.1 hx;exact Pv sW sE d
   have e6:wRg.size=6:=rfl;rw[aV] at this;omega
  rw[WC,cq] at w3 w4;have e6:(S.flatMap λl=>l)=S.flatten:=by rw[List.flatMap_def,List.map_id']
  rw[e6] at w6;rw[RX hk];unfold AN;simp only[N0];omega
 rw[RY (by omega)];simp only[N0];omega
end
theorem rE (s:ByteArray)(pos k:Nat):nL s ((pos:Int)+(k:Int))=((s.get! (pos+k)).toNat:Int):=by
 unfold nL;rw[show((pos:Int)+(k:Int)).toNat=pos+k by omega];rfl
def qO (b0 b1 b2 b3:Nat)(s1 s2 s3:Prop)[Decidable s1][Decidable s2][Decidable s3]:Nat×Nat:=
 if b0<128 then(b0,1)
 else if b0/32=6/\s1/\b1/64=2 then
  (if 128<=b0%32*64+b1%64 then(b0%32*64+b1%64,2) else(65533,1))
 else if(b0/16=14/\s1/\b1/64=2)/\s2/\b2/64=2 then
  (if 2048<=b0%16*4096+b1%64*64+b2%64/\aoN ((b0%16*4096+b1%64*64+b2%64:Nat):Int)=true then(b0%16*4096+b1%64*64+b2%64,3) else(65533,1))
 else if((b0/8=30/\s1/\b1/64=2)/\s2/\b2/64=2)/\s3/\b3/64=2 then
  (if 65536<=b0%8*262144+b1%64*4096+b2%64*64+b3%64/\aoN ((b0%8*262144+b1%64*4096+b2%64*64+b3%64:Nat):Int)=true then(b0%8*262144+b1%64*4096+b2%64*64+b3%64,4) else(65533,1))
 else(65533,1)
theorem oG {α:Type}{b:Bool}{p:Prop}[Decidable p]{x y x' y':α}(h:b=true↔p)(hx:x=x')(hy:y=y'):(if b=true then x else y)=(if p then x' else y'):=by
 subst hx;subst hy
 by_cases hp:p
 .rw[ak hp,ak (h.2 hp)]
 rw[ah hp,ah (λe=>hp (h.1 e))]
theorem n9 (s:ByteArray)(pos:Nat):aJ s pos=qO (s.get! (pos+0)).toNat (s.get! (pos+1)).toNat (s.get! (pos+2)).toNat (s.get! (pos+3)).toNat (pos+1<s.size) (pos+2<s.size) (pos+3<s.size):=by
 unfold Utf8.decode qO;refine ite_congr rfl (λ_=>rfl) λ_=>?_;refine oG (by simp only[aQ,beq_iff_eq,decide_eq_true_eq]) rfl ?_;refine oG (by simp only[aQ,beq_iff_eq,decide_eq_true_eq]) (oG (by simp only[aQ,decide_eq_true_eq,ge_iff_le]) rfl rfl) ?_;exact oG (by simp only[aQ,beq_iff_eq,decide_eq_true_eq]) (oG (by simp only[aQ,decide_eq_true_eq,ge_iff_le]) rfl rfl) rfl
def okN (l:List Int)(n:Nat):Prop:=∀j,j<n->(l.getD j 0=1\/l.getD j 0=2)
instance (l:List Int) (n:Nat):Decidable (okN l n):=by unfold okN;infer_instance
def ajd (s:ByteArray):Nat->Nat->Int->Int
 |0,_,n=>n
 |f+1,i,n=>if nL s i<48\/57<nL s i then -1 else ajd s f (i+1) (n*10+nL s i-48)
def WE (r:Int):Prop:=¬(r<0\/r=65533\/(cls r=0/\r≠10/\(r<43\/47<r)/\r≠58/\r≠124))
instance (r:Int):Decidable (WE r):=by unfold WE;infer_instance
def JI (s:ByteArray):Nat->Nat->Int->List (Int×Int)
 |0,_,from_=>if from_<(s.size:Int) then[(from_,(s.size:Int))] else[]
 |f+1,i,from_=>if nL s i=10 then(from_,(i:Int))::JI s f (i+1) ((i:Int)+1) else JI s f (i+1) from_
def aeh (s:ByteArray):List (Int×Int):=JI s s.size 0 0
theorem PG (b0 b1 b2 b3:Nat)(s1 s2 s3:Prop)[Decidable s1][Decidable s2][Decidable s3]:
  ((qO b0 b1 b2 b3 s1 s2 s3).1=10↔b0=10)/\(b0=10->(qO b0 b1 b2 b3 s1 s2 s3).2=1)/\1<=(qO b0 b1 b2 b3 s1 s2 s3).2/\(qO b0 b1 b2 b3 s1 s2 s3).2<=4/\
  (2<=(qO b0 b1 b2 b3 s1 s2 s3).2->b1≠10/\s1)/\(3<=(qO b0 b1 b2 b3 s1 s2 s3).2->b2≠10/\s2)/\(4<=(qO b0 b1 b2 b3 s1 s2 s3).2->b3≠10/\s3):=by
 unfold qO;split
 .exact⟨alh,λ_=>rfl,by omega,by omega,λh=>by omega,λh=>by omega,λh=>by omega⟩
 split
 .rename_i h1 h2;split
  .simp only;refine⟨by omega,by omega,by omega,by omega,λ_=>⟨by omega,h2.2.1⟩,by omega,by omega⟩
  simp only;omega
 split
 .rename_i h1 h2 h3;split
  .rename_i h4;simp only;refine⟨by omega,by omega,by omega,by omega,λ_=>⟨by omega,h3.1.2.1⟩,λ_=>⟨by omega,h3.2.1⟩,by omega⟩
  simp only;omega
 split
 .rename_i h1 h2 h3 h4;split
  .rename_i h5;simp only;refine⟨by omega,by omega,by omega,by omega,λ_=>⟨by omega,h4.1.1.2.1⟩,λ_=>⟨by omega,h4.1.2.1⟩,λ_=>⟨by omega,h4.2.1⟩⟩
  simp only;omega
 simp only;omega
theorem tO {s:ByteArray}{i:Nat}{from_:Int}(hi:i<s.size)(h:nL s i≠10):JI s (s.size-i) i from_=JI s (s.size-(i+1)) (i+1) from_:=by
 rw[show s.size-i=(s.size-(i+1))+1 by omega];simp only[JI];rw[ah h]
theorem oO (s:ByteArray)(i:Nat):nL s (i:Int)=((s.get! i).toNat:Int):=rE s i 0
theorem EK {s:ByteArray}{pos:Nat}{from_:Int}(hp:pos<s.size)(h:¬((aJ s pos).1:Int)=10):
  JI s (s.size-pos) pos from_=JI s (s.size-(pos+(aJ s pos).2)) (pos+(aJ s pos).2) from_/\pos+(aJ s pos).2<=s.size:=by
 rw[n9 s pos] at h ⊢;obtain⟨h1,_,h3,h4,h5,h6,h7⟩:=PG (s.get! (pos+0)).toNat (s.get! (pos+1)).toNat (s.get! (pos+2)).toNat (s.get! (pos+3)).toNat (pos+1<s.size) (pos+2<s.size) (pos+3<s.size);generalize qO (s.get! (pos+0)).toNat (s.get! (pos+1)).toNat (s.get! (pos+2)).toNat (s.get! (pos+3)).toNat (pos+1<s.size) (pos+2<s.size) (pos+3<s.size)=d at h h1 h3 h4 h5 h6 h7 ⊢;obtain⟨r,k⟩:=d;simp only at h h1 h3 h4 h5 h6 h7 ⊢;have b0:nL s (pos:Int)≠10:=by rw[oO];intro e;apply h;rw[h1.2 (by rw[dS];omega)];rfl
 have e0:=tO (from_:=from_) hp b0;rcases(show k=1\/k=2\/k=3\/k=4 by omega) with rfl|rfl|rfl|rfl
 .exact⟨e0,hp⟩
 .obtain⟨c1,d1⟩:=h5 (by omega);have e1:=tO (from_:=from_) d1 (by rw[oO];omega);exact⟨e0.trans e1,d1⟩
 .obtain⟨c1,d1⟩:=h5 (by omega);obtain⟨c2,d2⟩:=h6 (by omega);have e1:=tO (from_:=from_) d1 (by rw[oO];omega);have e2:=tO (from_:=from_) d2 (by rw[oO];omega);exact⟨(e0.trans e1).trans e2,d2⟩
 obtain⟨c1,d1⟩:=h5 (by omega);obtain⟨c2,d2⟩:=h6 (by omega);obtain⟨c3,d3⟩:=h7 (by omega);have e1:=tO (from_:=from_) d1 (by rw[oO];omega);have e2:=tO (from_:=from_) d2 (by rw[oO];omega);have e3:=tO (from_:=from_) d3 (by rw[oO];omega);exact⟨((e0.trans e1).trans e2).trans e3,d3⟩
theorem BF {s:ByteArray}{pos:Nat}{from_:Int}(hp:pos<s.size)(h:((aJ s pos).1:Int)=10):
  JI s (s.size-pos) pos from_=(from_,(pos:Int))::JI s (s.size-(pos+(aJ s pos).2)) (pos+(aJ s pos).2) ((pos:Int)+1)/\(aJ s pos).2=1:=by
 rw[n9 s pos] at h ⊢;obtain⟨h1,h2,_⟩:=PG (s.get! (pos+0)).toNat (s.get! (pos+1)).toNat (s.get! (pos+2)).toNat (s.get! (pos+3)).toNat (pos+1<s.size) (pos+2<s.size) (pos+3<s.size);have hb:=h1.1 (by omega);rw[h2 hb];refine⟨?_,rfl⟩;rw[show s.size-pos=(s.size-(pos+1))+1 by omega];simp only[JI];rw[ak (by rw[oO];rw[dS] at hb;omega)]
def I3 (s:ByteArray)(c:Int×Int):Int×ByteArray:=(c.1,s.extract c.1.toNat c.2.toNat)
def oH (s:ByteArray):List (Int×ByteArray):=(aeh s).map (I3 s)
def WG (s:ByteArray)(pre:List (Int×ByteArray)):Prop:=∃rest,pre++rest=oH s
theorem WH {b0 b1 b2 b3:Nat}{s1 s2 s3:Prop}[Decidable s1][Decidable s2][Decidable s3](h:b0<128):qO b0 b1 b2 b3 s1 s2 s3=(b0,1):=ak h
theorem Hh {b0 b1 b2 b3:Nat}{s1 s2 s3:Prop}[Decidable s1][Decidable s2][Decidable s3](h:¬b0<128):
  128<=(qO b0 b1 b2 b3 s1 s2 s3).1/\(1<(qO b0 b1 b2 b3 s1 s2 s3).2->128<=b1)/\(2<(qO b0 b1 b2 b3 s1 s2 s3).2->128<=b2)/\(3<(qO b0 b1 b2 b3 s1 s2 s3).2->128<=b3)/\(qO b0 b1 b2 b3 s1 s2 s3).2<=4/\(1<(qO b0 b1 b2 b3 s1 s2 s3).2->s1)/\(2<(qO b0 b1 b2 b3 s1 s2 s3).2->s2)/\(3<(qO b0 b1 b2 b3 s1 s2 s3).2->s3):=by
 unfold qO;rw[ah h]
 (repeat' split)<;>(refine⟨?_,?_,?_,?_,?_,?_,?_,?_⟩<;>(try dsimp only)<;>first|omega|(intro _;simp_all;done))
theorem L0 {s:ByteArray}{pos:Nat}(h:nL s pos<128):aJ s pos=((nL s pos).toNat,1):=by
 have e0:=rE s pos 0;simp only[anu,anv] at e0;rw[n9,WH (by omega),e0];rfl
theorem R7 {s:ByteArray}{pos:Nat}(h:¬nL s pos<128):128<=(aJ s pos).1/\∀k:Nat,0<k->k<(aJ s pos).2->128<=nL s ((pos+k:Nat):Int):=by
 have e0:=rE s pos 0;have e1:=rE s pos 1;have e2:=rE s pos 2;have e3:=rE s pos 3;simp only[anu,anv] at e0;have hd:=Hh (b0:=(s.get! (pos+0)).toNat) (b1:=(s.get! (pos+1)).toNat) (b2:=(s.get! (pos+2)).toNat) (b3:=(s.get! (pos+3)).toNat) (s1:=pos+1<s.size) (s2:=pos+2<s.size) (s3:=pos+3<s.size) (by omega);rw[<-n9] at hd;have⟨h1,h2,h3,h4,h5,_⟩:=hd;refine⟨h1,λk k0 k1=>?_⟩;have:k=1\/k=2\/k=3:=by omega
 rw[Int.natCast_add];rcases this with rfl|rfl|rfl
 .have:=h2 k1;omega
 .have:=h3 k1;omega
 have:=h4 k1;omega
theorem R8 {s:ByteArray}{pos:Nat}(h:pos<s.size):pos+(aJ s pos).2<=s.size:=by
 by_cases hl:nL s pos<128
 .rw[L0 hl];exact h
 have e0:=rE s pos 0;simp only[anu,anv] at e0;have hd:=Hh (b0:=(s.get! (pos+0)).toNat) (b1:=(s.get! (pos+1)).toNat) (b2:=(s.get! (pos+2)).toNat) (b3:=(s.get! (pos+3)).toNat) (s1:=pos+1<s.size) (s2:=pos+2<s.size) (s3:=pos+3<s.size) (by omega);rw[<-n9] at hd;have⟨_,_,_,_,h5,h6,h7,h8⟩:=hd;omega
theorem PI {s t:ByteArray}{i:Nat}(h:i<s.size):(s++t).get! i=s.get! i:=by
 have h:i<s.data.size:=h;show(s++t).data[i]! =s.data[i]!;rw[cR];simp only[anw,cj];rw[amT h]
theorem PJ (s t:ByteArray)(i:Nat):(s++t).get! (s.size+i)=t.get! i:=by
 show(s++t).data[s.data.size+i]! =t.data[i]!;rw[cR];simp only[anw,cj];rw[Array.getElem?_append_right (by omega),Nat.add_sub_cancel_left]
theorem R9 {b0 b1 b2 b3:Nat}{s1 s2 s3 t1 t2 t3:Prop}[Decidable s1][Decidable s2][Decidable s3][Decidable t1][Decidable t2][Decidable t3](h1:s1↔t1)(h2:s2↔t2)(h3:s3↔t3):
 qO b0 b1 b2 b3 s1 s2 s3=qO b0 b1 b2 b3 t1 t2 t3:=by simp only[qO,h1,h2,h3]
theorem Sa {b0 b1 b2 b3 c1 c2 c3:Nat}{s1 s2 s3 t1 t2 t3:Prop}[Decidable s1][Decidable s2][Decidable s3][Decidable t1][Decidable t2][Decidable t3]
  (h1:s1->t1/\c1=b1) (h2:s2->t2/\c2=b2) (h3:s3->t3/\c3=b3) (h:(qO b0 b1 b2 b3 s1 s2 s3).1≠65533):qO b0 c1 c2 c3 t1 t2 t3=qO b0 b1 b2 b3 s1 s2 s3:=by
 unfold qO at h ⊢
 by_cases k0:b0<128
 .rw[ak k0,ak k0]
 rw[ah k0] at h ⊢;rw[ah k0]
 by_cases k1:b0/32=6/\s1/\b1/64=2
 .obtain⟨a1,rfl⟩:=h1 k1.2.1;rw[ak k1,ak ⟨k1.1,a1,k1.2.2⟩]
 rw[ah k1] at h ⊢
 by_cases k2:(b0/16=14/\s1/\b1/64=2)/\s2/\b2/64=2
 .obtain⟨a1,rfl⟩:=h1 k2.1.2.1;obtain⟨a2,rfl⟩:=h2 k2.2.1;rw[ah (λq=>by omega),ak k2,ak ⟨⟨k2.1.1,a1,k2.1.2.2⟩,a2,k2.2.2⟩]
 rw[ah k2] at h ⊢
 by_cases k3:((b0/8=30/\s1/\b1/64=2)/\s2/\b2/64=2)/\s3/\b3/64=2
 .obtain⟨a1,rfl⟩:=h1 k3.1.1.2.1;obtain⟨a2,rfl⟩:=h2 k3.1.2.1;obtain⟨a3,rfl⟩:=h3 k3.2.1;rw[ah (λq=>by omega),ah (λq=>by omega),ak k3,ak ⟨⟨⟨k3.1.1.1,a1,k3.1.1.2.2⟩,a2,k3.1.2.2⟩,a3,k3.2.2⟩]
 rw[ah k3] at h;exact absurd rfl h
theorem ag4 (s t:ByteArray)(p:Nat):aJ (s++t) (s.size+p)=aJ t p:=by
 rw[n9,n9,cJ,cJ,cJ,cJ,PJ,PJ,PJ,PJ];exact R9 (by rw[lB];omega) (by rw[lB];omega) (by rw[lB];omega)
theorem ag5 {s t:ByteArray}{p:Nat}(hp:p<s.size)(h:(aJ s p).1≠65533):aJ (s++t) p=aJ s p:=by
 rw[n9] at h;rw[n9,n9,show(s++t).get! (p+0)=s.get! (p+0) from PI hp];exact Sa (λq=>⟨by rw[lB];omega,by rw[PI q]⟩) (λq=>⟨by rw[lB];omega,by rw[PI q]⟩) (λq=>⟨by rw[lB];omega,by rw[PI q]⟩) h
def Cx (n:Nat)(l:List (Nat×Int)):List (Nat×Int):=l.map λx=>(n+x.1,x.2)
theorem yu (n:Nat)(l m:List (Nat×Int)):Cx n (l++m)=Cx n l++Cx n m:=bX
theorem PK (n m:Nat)(l:List (Nat×Int)):Cx n (Cx m l)=Cx (n+m) l:=by
 unfold Cx;rw[cn];exact dg λx _=>by show(n+(m+x.1),x.2)=_;rw[cJ]
def Full (l:List (Nat×Int)):Prop:=∀x∈l,x.2≠65533
theorem I4 (s t:ByteArray):∀(f q:Nat),t.size-q<=f->jY (s++t) (s.size+q)=Cx s.size (jY t q)
 |0,q,h=>by rw[j9 _ _ (by rw[lB];omega),j9 _ _ (by omega)];rfl
 |f+1,q,h=>by
  by_cases hq:q<t.size
  .have hw:=nX t q hq;rw[ja _ _ (by rw[lB];omega),ja t q hq,ag4,cJ,I4 s t f (q+(aJ t q).2) (by omega)];rfl
  rw[j9 _ _ (by rw[lB];omega),j9 _ _ hq];rfl
theorem PL (s t:ByteArray):∀(f p:Nat),s.size-p<=f->p<=s.size->Full (jY s p)->jY (s++t) p=jY s p++Cx s.size (jY t 0)
 |0,p,h,hp,hf=>by
  obtain rfl:p=s.size:=by omega
  rw[j9 s _ (by omega)];exact I4 s t _ 0 (ay _)
 |f+1,p,h,hp,hf=>by
  by_cases hq:p<s.size
  .have hw:=nX s p hq;rw[ja s p hq] at hf ⊢;have h0:(aJ s p).1≠65533:=λe=>hf _ aA (by show((aJ s p).1:Int)=_;rw[e];rfl);rw[ja _ _ (by rw[lB];omega),ag5 hq h0,dN];exact aG _ (PL s t f (p+(aJ s p).2) (by omega) (R8 hq) λx hx=>hf x (aE _ hx))
  obtain rfl:p=s.size:=by omega
  rw[j9 s _ (by omega)];exact I4 s t _ 0 (ay _)
theorem vf {s:ByteArray}(t:ByteArray)(h:Full (jY s 0)):jY (s++t) 0=jY s 0++Cx s.size (jY t 0):=PL s t _ 0 (ay _) (bu _) h
def clW (r:Int):Prop:=cls r≠4/\r≠10/\r≠65533/\(cls r=0->wF r=true)
def okW (w:ByteArray):Prop:=w.size≠0/\∀x∈jY w 0,clW x.2
theorem okW.full {w:ByteArray}(h:okW w):Full (jY w 0):=λx hx=>(h.2 x hx).2.2.1
theorem WI {r:Int}(h:cls r=1\/cls r=2\/cls r=3):clW r:=by
 refine⟨by omega,λe=>?_,λe=>?_,by omega⟩
 .subst e;revert h;decide+kernel
 subst e;revert h;decide+kernel
theorem EL:∀(l:List (Nat×Int)) (n k:Int),lz l n k=true->∀x∈l,cls x.2=1\/cls x.2=2\/cls x.2=3
 |[],_,_,_,x,hx=>by cases hx
 |(p,r)::l,n,k,h,x,hx=>by
  simp only[lz] at h;have:(cls r=1\/cls r=2\/cls r=3)/\∃n' k',lz l n' k'=true:=by
   (repeat' split at h)<;>first|(cases h;done)|exact⟨.inl (by assumption),_,_,h⟩|exact⟨.inr (.inl (by assumption)),_,_,h⟩|exact⟨.inr (.inr (by assumption)),_,_,h⟩
  rcases aC.1 hx with rfl|hx
  .exact this.1
  have⟨n',k',h'⟩:=this.2;exact EL l n' k' h' x hx
theorem AA {w:ByteArray}(h:kg w=true):w.size≠0:=λe=>by
 unfold kg at h;rw[j9 w 0 (by omega)] at h;cases h
theorem pP {w:ByteArray}(h:kg w=true):okW w:=⟨AA h,λx hx=>WI (EL _ _ _ h x hx)⟩
theorem L3 {w s:ByteArray}(h:kg w=true){r:Int}(hs:jY s 0=[(0,r)])(hr:clW r):okW (w++s):=by
 refine⟨by have:=AA h;rw[lB];omega,λx hx=>?_⟩;rw[vf s (pP h).full,hs] at hx;rcases aI.1 hx with hx|hx
 .exact(pP h).2 x hx
 rw[av.1 hx];exact hr
theorem WJ {w:ByteArray}(h:kg w=true):okW (w++eX):=L3 h (r:=43) (by kernel_rfl) (by unfold clW;decide+kernel)
theorem Sb {w:ByteArray}(h:kg w=true):okW (w++eV):=L3 h (r:=45) (by kernel_rfl) (by unfold clW;decide+kernel)
theorem I5 (A w B:ByteArray):(A++w++B).extract A.size (A.size+w.size)=w:=by
 apply eE;rw[ByteArray.data_extract,cR,cR];have e1:A.size=A.data.size:=rfl;have e2:w.size=w.data.size:=rfl;rw[e1,e2];apply Array.ext';simp[Array.toList_extract,List.extract,List.drop_append,List.take_append];rw[alk (show A.data.toList.length<=A.size from ay _),List.take_nil,cT,cM (show w.data.toList.length<=w.size from ay _)]
theorem PM (a:ByteArray):a++b0=a:=by apply eE;rw[cR];simp
theorem aaS (A w:ByteArray):(A++w).extract A.size (A++w).size=w:=by
 have:=I5 A w b0;rw[PM] at this;rw[lB];exact this
def PN:Nat->List ByteArray->List (Int×ByteArray)
 |_,[]=>[]
 |p,w::ws=>((p:Int),w)::PN (p+w.size+1) ws
def ruW:Nat->List ByteArray->List (Nat×Int)
 |_,[]=>[]
 |p,[w]=>Cx p (jY w 0)
 |p,w::v::ws=>Cx p (jY w 0)++(p+w.size,32)::ruW (p+w.size+1) (v::ws)
theorem acM:jY sI 0=[(0,32)]:=by kernel_rfl
theorem acN:jY nlB 0=[(0,10)]:=by kernel_rfl
theorem aaT:Full (jY sI 0):=λx hx=>by rw[acM] at hx;rw[av.1 hx];decide
theorem I6:∀(ws:List ByteArray) (p:Nat),(∀w∈ws,okW w)->Cx p (jY (iM ws sI) 0)=ruW p ws
 |[],p,_=>by
  have:jY (iM [] sI) 0=[]:=by kernel_rfl
  rw[this];rfl
 |[w],p,_=>by rw[join_one];rfl
 |w::v::ws,p,h=>by
  rw[join_cons,v8,vf _ (h w aA).full,vf _ aaT,acM,yu,yu,yu];simp only[PK];rw[I6 (v::ws) _ λw hw=>h w (aE _ hw)];rfl
theorem acO:∀(ws:List ByteArray) (p:Nat),(∀w∈ws,okW w)->∀x∈ruW p ws,clW x.2\/x.2=32
 |[],_,_,_,hx=>by cases hx
 |[w],p,h,x,hx=>by
  obtain⟨y,hy,rfl⟩:=aN.1 (show x∈(jY w 0).map λx=>(p+x.1,x.2) from hx);exact .inl ((h w aA).2 y hy)
 |w::v::ws,p,h,x,hx=>by
  rcases aI.1 (show x∈Cx p (jY w 0)++(p+w.size,32)::ruW (p+w.size+1) (v::ws) from hx) with hx|hx
  .obtain⟨y,hy,rfl⟩:=aN.1 hx;exact .inl ((h w aA).2 y hy)
  rcases aC.1 hx with rfl|hx
  .exact .inr rfl
  exact acO (v::ws) _ (λw hw=>h w (aE _ hw)) x hx
theorem PO (l:List (Nat×Int)):Cx 0 l=l:=by unfold Cx;simp
theorem I7 {ws:List ByteArray}(h:∀w∈ws,okW w):∀x∈jY (iM ws sI) 0,clW x.2\/x.2=32:=λx hx=>by
 rw[<-PO (jY (iM ws sI) 0),I6 ws 0 h] at hx;exact acO ws 0 h x hx
theorem aaU {l:List (Nat×Int)}(h:∀x∈l,clW x.2\/x.2=32):Full l:=λx hx=>(h x hx).elim (λq=>q.2.2.1) λq=>by rw[q];decide
theorem acP {s:ByteArray}:∀(l t:List (Nat×Int)) {b:Int} (acc:List (Int×ByteArray)),0<=b->(∀x∈l,cls x.2≠4)->su s (l++t) b acc=su s t b acc
 |[],t,b,acc,_,_=>rfl
 |(p,r)::l,t,b,acc,hb,h=>by
  rw[dN];simp only[su];rw[ah (h (p,r) aA),ah (by omega)];exact acP l t acc hb λx hx=>h x (aE _ hx)
theorem PR {s w:ByteArray}(hw:okW w)(p:Nat)(t:List (Nat×Int))(acc:List (Int×ByteArray)):su s (Cx p (jY w 0)++t) (-1) acc=su s t (p:Int) acc:=by
 have h0:0<w.size:=by have:=hw.1;omega
 have hc:=hw.2;rw[ja w 0 h0] at hc ⊢;show su s ((p+0,((aJ w 0).1:Int))::(Cx p _++t)) (-1) acc=_;simp only[su];rw[ah (hc _ aA).1,ak (by omega),dS];refine acP _ _ _ (by omega) λx hx=>?_;obtain⟨y,hy,rfl⟩:=aN.1 hx;exact(hc y (aE _ hy)).1
theorem PS:∀(ws:List ByteArray) (A s:ByteArray) (acc:List (Int×ByteArray)),s=A++iM ws sI->(∀w∈ws,okW w)->su s (ruW A.size ws) (-1) acc=acc++PN A.size ws
 |[],A,s,acc,hs,_=>by show su s [] (-1) acc=acc++[];simp[su]
 |[w],A,s,acc,hs,h=>by
  rw[join_one] at hs;show su s (Cx A.size (jY w 0)) (-1) acc=acc++[((A.size:Int),w)];have:=PR (s:=s) (h w aA) A.size [] acc;rw[bq] at this;rw[this];simp only[su];rw[ak (by omega),hs,cH,aaS]
 |w::v::ws,A,s,acc,hs,h=>by
  rw[join_cons] at hs;show su s (Cx A.size (jY w 0)++(A.size+w.size,32)::ruW (A.size+w.size+1) (v::ws)) (-1) acc=_;rw[PR (h w aA)];simp only[su];rw[ak (show cls 32=4 by decide+kernel),ak (by omega),cH,cH];have e1:s.extract A.size (A.size+w.size)=w:=by rw[hs,v8 w,<-v8 A];exact I5 _ _ _
  have e2:s=(A++w++sI)++iM (v::ws) sI:=by rw[hs];simp only[v8]
  have e3:(A++w++sI).size=A.size+w.size+1:=by rw[lB,lB];rfl
  have:=PS (v::ws) (A++w++sI) s (acc++[((A.size:Int),w)]) e2 λw hw=>h w (aE _ hw);rw[e3] at this;rw[e1,this,bC];rfl
theorem EM {ws:List ByteArray}(h:∀w∈ws,okW w):mX (iM ws sI)=PN 0 ws:=by
 have:=PS ws b0 (iM ws sI) [] (by rw[LR]) h;unfold mX;rw[<-PO (jY (iM ws sI) 0),I6 ws 0 h];exact this
def YQ:Nat->List (List ByteArray)->List (Int×ByteArray)
 |_,[]=>[]
 |p,ws::ls=>((p:Int),iM ws sI)::YQ (p+(iM ws sI).size+1) ls
def ruL:Nat->List (List ByteArray)->List (Nat×Int)
 |_,[]=>[]
 |p,ws::ls=>Cx p (jY (iM ws sI) 0)++(p+(iM ws sI).size,10)::ruL (p+(iM ws sI).size+1) ls
theorem CX:∀(ls:List (List ByteArray)) (q:ByteArray),nk q ls=q++nk b0 ls
 |[],q=>(PM q).symm
 |ws::ls,q=>by
  show nk (we q ws) ls=q++nk (we b0 ws) ls;rw[CX ls (we q ws),CX ls (we b0 ws)];unfold we;simp only[v8,LR]
theorem aaV:Full (jY nlB 0):=λx hx=>by rw[acN] at hx;rw[av.1 hx];decide
theorem N1:∀(ls:List (List ByteArray)) (p:Nat),(∀ws∈ls,∀w∈ws,okW w)->Cx p (jY (nk b0 ls) 0)=ruL p ls
 |[],p,_=>by
  have:jY (nk b0 []) 0=[]:=by kernel_rfl
  rw[this];rfl
 |ws::ls,p,h=>by
  show Cx p (jY (nk (we b0 ws) ls) 0)=_;have hj:=I7 (h ws aA);rw[CX];unfold we;rw[LR,v8,vf _ (aaU hj),vf _ aaV,acN,yu,yu,yu];simp only[PK];rw[N1 ls _ λws hw=>h ws (aE _ hw)];rfl
theorem PT {s:ByteArray}{rest:List (Nat×Int)}{from_:Int}:∀(l:List (Nat×Int)) (pos:Nat),pos<=s.size->jY s pos=l++rest->(∀x∈l,x.2≠10)->
  ∃pos',pos'<=s.size/\jY s pos'=rest/\JI s (s.size-pos) pos from_=JI s (s.size-pos') pos' from_
 |[],pos,hp,h,_=>⟨pos,hp,h,rfl⟩
 |x::l,pos,hp,h,hx=>by
  by_cases q:pos<s.size
  .rw[ja s pos q,dN] at h;obtain⟨h1,h2⟩:=dW h;have hn:¬((aJ s pos).1:Int)=10:=λe=>hx x aA (by rw[<-h1];exact e);obtain⟨e,hle⟩:=EK (from_:=from_) q hn;obtain⟨pos',k1,k2,k3⟩:=PT (from_:=from_) l _ hle h2 λy hy=>hx y (aE _ hy);exact⟨pos',k1,k2,e.trans k3⟩
  rw[j9 s pos q] at h;cases h
theorem WK {s:ByteArray}:∀(ls:List (List ByteArray)) (A:ByteArray),s=nk A ls->(∀ws∈ls,∀w∈ws,okW w)->jY s A.size=ruL A.size ls->
  (JI s (s.size-A.size) A.size (A.size:Int)).map (I3 s)=YQ A.size ls
 |[],A,hs,_,_=>by
  have hs:s=A:=hs;subst hs;rw[cZ];simp only[JI];rw[ah (by omega)];rfl
 |ws::ls,A,hs,h,hr=>by
  have hj:=I7 (h ws aA);have ag6:s=A++iM ws sI++(nlB++nk b0 ls):=by
   rw[hs];show nk (we A ws) ls=_;rw[CX];unfold we;simp only[v8]
  have m9:A.size+(iM ws sI).size+1<=s.size:=by rw[ag6,lB,lB,lB,show nlB.size=1 from rfl];omega
  obtain⟨pos,k1,k2,k3⟩:=PT (from_:=(A.size:Int)) (Cx A.size (jY (iM ws sI) 0)) A.size (by omega) hr λx hx=>by
   obtain⟨y,hy,rfl⟩:=aN.1 hx;exact(hj y hy).elim (λq=>q.2.1) λq=>by show y.2≠10;rw[q];decide
  by_cases q:pos<s.size
  .rw[ja s pos q] at k2;obtain⟨e1,e2⟩:=dW k2;obtain⟨e3,e4⟩:=Prod.mk.inj e1;obtain⟨g1,g2⟩:=BF (from_:=(A.size:Int)) q e4;rw[k3,g1,bn];rw[g2] at e2 ⊢;have ea:(we A ws).size=pos+1:=by rw[vc];omega
   have:=WK ls (we A ws) hs (λws hw=>h ws (aE _ hw)) (by rw[ea,e2,e3]);rw[ea] at this;show I3 s ((A.size:Int),(pos:Int))::_=((A.size:Int),iM ws sI)::YQ (A.size+(iM ws sI).size+1) ls;rw[show((pos:Int)+1)=((pos+1:Nat):Int) from rfl,this,<-e3];refine aG (· ::_) ?_;show((A.size:Int),s.extract (A.size:Int).toNat (pos:Int).toNat)=_;rw[cH,cH,e3]
   congr 1
   rw[ag6];exact I5 _ _ _
  rw[j9 s pos q] at k2;cases k2
theorem Sd {ls:List (List ByteArray)}(h:∀ws∈ls,∀w∈ws,okW w):oH (nk b0 ls)=YQ 0 ls:=by
 have:=WK (s:=nk b0 ls) ls b0 rfl h (by rw[<-N1 ls b0.size h];exact(PO _).symm);exact this
theorem WL:∀(l:List (Nat×Int)),(∀x∈l,cls x.2=0->wF x.2=true)->Eu l=(0,false)
 |[],_=>rfl
 |(p,r)::l,h=>by
  simp only[Eu];rw[ah λq=>by have:=h (p,r) aA q.1;rw[q.2] at this;cases this];exact WL l λx hx=>h x (aE _ hx)
theorem WM:∀(ls:List (List ByteArray)) (p:Nat),(∀ws∈ls,∀w∈ws,okW w)->∀x∈ruL p ls,cls x.2=0->wF x.2=true
 |[],_,_,_,hx=>by cases hx
 |ws::ls,p,h,x,hx=>by
  rcases aI.1 (show x∈Cx p (jY (iM ws sI) 0)++(p+(iM ws sI).size,10)::ruL (p+(iM ws sI).size+1) ls from hx) with hx|hx
  .obtain⟨y,hy,rfl⟩:=aN.1 hx;rcases I7 (h ws aA) y hy with q|q
   .exact q.2.2.2
   show cls y.2=0->_;rw[q];decide+kernel
  rcases aC.1 hx with rfl|hx
  .exact λ_=>show wF 10=true by decide+kernel
  exact WM ls _ (λws hw=>h ws (aE _ hw)) x hx
theorem aaW {ls:List (List ByteArray)}(h:∀ws∈ls,∀w∈ws,okW w):IW (nk b0 ls)=(0,false):=by
 unfold IW;refine WL _ ?_;rw[<-PO (jY (nk b0 ls) 0),N1 ls 0 h];exact WM ls 0 h
theorem EN (w:ByteArray):∀(f pos i:Nat),w.size-pos<=f->pos<=i->i<w.size->(∀x∈jY w pos,cls x.2=1\/cls x.2=2\/cls x.2=3)->nL w (i:Int)≠43/\nL w (i:Int)≠45
 |0,pos,i,h,h1,h2,_=>by omega
 |f+1,pos,i,h,h1,h2,hc=>by
  have hp:pos<w.size:=by omega
  have hw:=nX w pos hp;rw[ja w pos hp] at hc
  by_cases q:i<pos+(aJ w pos).2
  .by_cases hl:nL w pos<128
   .rw[L0 hl] at q hc;obtain rfl:i=pos:=by simp only at q;omega
    have:=hc _ aA;have hb:=NO w i;have e:(((nL w (i:Int)).toNat:Nat):Int)=nL w (i:Int):=cA (by omega);simp only[e] at this;constructor<;>(intro z;rw[z] at this;revert this;decide+kernel)
   obtain⟨k,rfl⟩:∃k,i=pos+k:=⟨i-pos,by omega⟩
   by_cases k0:k=0
   .subst k0;exact⟨λz=>hl (by rw[dS] at z;rw[z];decide),λz=>hl (by rw[dS] at z;rw[z];decide)⟩
   have:=(R7 hl).2 k (by omega) (by omega);exact⟨λz=>by omega,λz=>by omega⟩
  exact EN w f _ i (by omega) (by omega) h2 λx hx=>hc x (aE _ hx)
theorem BG {w:ByteArray}(h:kg w=true):∀b∈w.data.toList,([43,45]:List UInt8).contains b=false:=λb hb=>by
 obtain⟨i,hi,e⟩:=List.mem_iff_getElem.1 hb;have AJ:i<w.size:=by rw[Array.length_toList] at hi;exact hi
 obtain⟨h1,h2⟩:=EN w _ 0 i (ay _) (bu _) AJ (EL _ _ _ h);have eb:w.get! i=b:=by
  show w.data[i]! =b;rw[<-e,anw,cj,Array.getElem?_eq_getElem AJ];simp
 rw[oO,eb] at h1 h2;have a1:b≠43:=λz=>h1 (by rw[z];rfl);have a2:b≠45:=λz=>h2 (by rw[z];rfl);simp[a1,a2]
def trimB (w:ByteArray):ByteArray:=⟨(ak8 w.data.toList [43,45]).toArray⟩
theorem EO {l cs:List UInt8}(h:∀b∈l,cs.contains b=false):ak8 l cs=l:=by
 unfold Lib.trimRightS;cases hr:l.reverse with
 |nil=>rw[List.reverse_eq_nil_iff.1 hr];rfl
 |cons b r=>
  have hb:b∈l:=by rw[<-List.mem_reverse,hr];exact aA
  rw[aoO,ah (by rw[h b hb];decide),<-hr,List.reverse_reverse]
theorem Hi {l cs:List UInt8}{b:UInt8}(h:cs.contains b=true):ak8 (l++[b]) cs=ak8 l cs:=by
 unfold Lib.trimRightS;rw[List.reverse_append,List.reverse_singleton,List.singleton_append,aoO,ak h]
theorem Se {w:ByteArray}(h:kg w=true):trimB w=w:=by
 apply eE;show(ak8 w.data.toList [43,45]).toArray=w.data;rw[EO (BG h)]
theorem Sf {w:ByteArray}(h:kg w=true):trimB (w++eX)=w:=by
 apply eE;show(ak8 (w++eX:ByteArray).data.toList [43,45]).toArray=w.data;rw[cR,ald,show(#[43]:Array UInt8).toList=[43] from rfl,Hi (by decide),EO (BG h)]
theorem N2 {w:ByteArray}(h:kg w=true):trimB (w++eV)=w:=by
 apply eE;show(ak8 (w++eV:ByteArray).data.toList [43,45]).toArray=w.data;rw[cR,ald,show(#[45]:Array UInt8).toList=[45] from rfl,Hi (by decide),EO (BG h)]
def FJ (w:ByteArray):Bool:=amx w.data.toList [45]
theorem WN (l:List UInt8)(b:UInt8):amx (l++[b]) [45]=(b==45):=by
 unfold Lib.hasSuffix;rw[akT,List.isSuffixOf_iff_suffix,beq_iff_eq];constructor
 .rintro⟨t,e⟩;have:=List.append_inj_right' e rfl;exact(dW this).1.symm
 rintro rfl;exact⟨l,rfl⟩
theorem WO (w:ByteArray):FJ (w++eX)=false:=by
 unfold FJ;rw[cR,ald,show(#[43]:Array UInt8).toList=[43] from rfl,WN];decide
theorem Sg (w:ByteArray):FJ (w++eV)=true:=by
 unfold FJ;rw[cR,ald,show(#[45]:Array UInt8).toList=[45] from rfl];simp[amx]
structure RS where
 k:Int
 b:Bool
 t:Int
 W:List ByteArray
 E:List lG
 m:mh
 hv:List (Int×Unit)
 he:List (Int×Unit)
 tu:List (Int×List Int)
 S:List (List Int)
def uB (m:mh)(x:ByteArray):Int:=if x.size=(trimB x).size then(oM m (trimB x)).getD 0 else if FJ x then 2*(oM m (trimB x)).getD 0+1 else 2*(oM m (trimB x)).getD 0
structure tZ (m:mh)(vx:Bool)(x:ByteArray):Prop where
 pos:(trimB x).size≠0
 le:x.size<=(trimB x).size+1
 ge:(trimB x).size<=x.size
 WQ:x.size=(trimB x).size->vx=true
 some:∃k,oM m (trimB x)=some k/\(k<0↔x.size=(trimB x).size)
inductive qS (s:RS):List ByteArray->RS->Prop
 |kind (K:Int) (hb:s.b=false) (h0:s.k=0) (hK:K=0\/K=1):qS s [if K=0 then xM else wH] {s with k:=K,b:=true}
 |WQ (n:ByteArray) (hb:s.b=true) (ht:s.t<=0) (hn:kg n=true) (hl:oM s.m n=none):
  qS s [Av,n] {s with t:=0,W:=s.W++[n],m:=v7 s.m n (-1-(s.W.length:Int))}
 |aaX (i:Int) (n a b:ByteArray) (A B:Int) (hb:s.b=true) (ht:s.t<=1) (hi:i=0\/(i=1\/i=2)/\s.k=1) (hn:kg n=true) (hl:oM s.m n=none)
  (ha:oM s.m a=some (-1-A)) (h0:0<=A) (qh:oM s.m b=some (-1-B)) (h0':0<=B):
  qS s [kE i,n,a,b] {s with t:=1,E:=s.E++[(n,(A,(B,i)))],m:=v7 s.m n (s.E.length:Int)}
 |acQ (n:ByteArray) (j:Int) (hb:s.b=true) (hk:s.k=0) (ht:s.t<=2) (hl:oM s.m n=some j) (h0:0<=j) (h1:j<(s.E.length:Int)):
  qS s [sC,n] {s with t:=2,he:=jM s.he j (),hv:=jM (jM s.hv (s.E.getD j.toNat kO).2.1 ()) (s.E.getD j.toNat kO).2.2.1 ()}
 |acR (n:ByteArray) (v:Int) (hb:s.b=true) (hk:s.k=0) (ht:s.t<=2) (hl:oM s.m n=some (-1-v)) (h0:0<=v):
  qS s [sC,n] {s with t:=2,hv:=jM s.hv v ()}
 |WR (n:ByteArray) (v:Int) (l:List ByteArray) (hb:s.b=true) (hk:s.k=0) (ht:s.t<=3) (hl:oM s.m n=some (-1-v)) (h0:0<=v) (hv:iC s.tu v=none) (hx:∀x∈l,tZ s.m false x):
  qS s (wAr::n::l) {s with t:=3,tu:=jM s.tu v (l.map (uB s.m))}
 |region (l:List ByteArray) (hb:s.b=true) (hk:s.k=0) (ht:s.t<=4) (h2:2<=l.length) (hx:∀x∈l,tZ s.m true x):
  qS s (wRg::l) {s with t:=4,S:=s.S++[l.map (uB s.m)]}
inductive oQ:RS->List (List ByteArray)->RS->Prop
 |nil (s:RS):oQ s [] s
 |cons {s t u:RS} {ws:List ByteArray} {ls:List (List ByteArray)} (h:qS s ws t) (hr:oQ t ls u):oQ s (ws::ls) u
theorem oQ.app {s t u:RS}{A B:List (List ByteArray)}(h:oQ s A t)(h2:oQ t B u):oQ s (A++B) u:=by
 induction h with
 |nil=>exact h2
 |cons q _ ih=>exact .cons q (ih h2)
theorem oQ.one {s t:RS}{ws:List ByteArray}(h:qS s ws t):oQ s [ws] t:=.cons h (.nil _)
theorem oQ.seg {α:Type}{f:α->List (List ByteArray)}{d:α}(l:List α)(st:Nat->RS)(h:∀i,i<l.length->oQ (st i) (f (l.getD i d)) (st (i+1))):oQ (st 0) (l.flatMap f) (st l.length):=by
 have key:∀k,k<=l.length->oQ (st 0) ((l.take k).flatMap f) (st k):=by
  intro k
  induction k with
  |zero=>intro _;exact .nil _
  |succ k ih=>
   intro hk;have hg:l.getD k d=l[k]:=by rw[aH,aR (by omega)];rfl
   rw[eC (show k<l.length by omega),akI];refine(ih (by omega)).app ?_;have:=h k (by omega);rw[hg] at this;simpa using this
 have:=key l.length (ay _);rwa[bL] at this
def L4 (l:List (ByteArray×Int))(m:mh):mh:=l.foldl (λm p=>v7 m p.1 p.2) m
theorem L5 (l:List (ByteArray×Int))(m:mh)(p:ByteArray×Int):L4 (l++[p]) m=v7 (L4 l m) p.1 p.2:=by unfold L4;rw[dm];rfl
theorem I8 {x:ByteArray}:∀(l:List (ByteArray×Int)) (m:mh),x∉l.map (·.1)->oM (L4 l m) x=oM m x
 |[],_,_=>rfl
 |p::l,m,h=>by
  rw[bn,aC,not_or] at h;show oM (L4 l (v7 m p.1 p.2)) x=_;rw[I8 l _ h.2,Bu,ah (λe=>h.1 e.symm)]
theorem I9 {x:ByteArray}{v:Int}:∀(l:List (ByteArray×Int)) (m:mh),(l.map (·.1)).Nodup->(x,v)∈l->oM (L4 l m) x=some v
 |p::l,m,hn,h=>by
  rw[bn,akO] at hn;show oM (L4 l (v7 m p.1 p.2)) x=_;rcases aC.1 h with e|h
  .subst e;rw[I8 l _ hn.1,Bu,ak rfl]
  exact I9 l _ hn.2 h
def nmP (W:List ByteArray)(E:List lG)(i j:Nat):List (ByteArray×Int):=((bH i).map λk=>(W.getD k b0,-1-(k:Int)))++(bH j).map λk=>((E.getD k kO).1,(k:Int))
def Fb (W:List ByteArray)(E:List lG)(i j:Nat):mh:=L4 (nmP W E i j) []
theorem aje (W:List ByteArray)(E:List lG)(i:Nat):Fb W E (i+1) 0=v7 (Fb W E i 0) (W.getD i b0) (-1-(i:Int)):=by
 unfold Fb nmP;rw[alY,bX,List.range_zero,b9,bq,bq];exact L5 _ _ _
theorem ajf (W:List ByteArray)(E:List lG)(i j:Nat):Fb W E i (j+1)=v7 (Fb W E i j) (E.getD j kO).1 (j:Int):=by
 unfold Fb nmP;rw[alY,bX,<-bC];exact L5 _ _ _
theorem L6 {α:Type}(l:List α)(d:α){i:Nat}(h:i<=l.length):(bH i).map (λk=>l.getD k d)=l.take i:=by
 apply dZ
 .simp;omega
 intro k h1 h2;simp only[aV,ak7] at h1;simp only[akM,alq,List.getElem_take];rw[aH,aR (by omega)];rfl
theorem EP {W:List ByteArray}{E:List lG}{i j:Nat}(hi:i<=W.length)(hj:j<=E.length):(nmP W E i j).map (·.1)=W.take i++(E.take j).map (·.1):=by
 unfold nmP;rw[bX,cn,cn,<-L6 W b0 hi,<-L6 E kO hj,cn];rfl
section
variable {W:List ByteArray}{E:List lG}(hn:(W++E.map (·.1)).Nodup)
include hn
theorem PU {i j:Nat}(hi:i<=W.length)(hj:j<=E.length):((nmP W E i j).map (·.1)).Nodup:=by
 rw[EP hi hj];refine hn.sublist ((amD _ _).append ?_);rw[List.map_take];exact amD _ _
theorem AB {i j k:Nat}(hi:i<=W.length)(hj:j<=E.length)(hk:k<i):oM (Fb W E i j) (W.getD k b0)=some (-1-(k:Int)):=
 I9 _ _ (PU hn hi hj) (aS _ (aN.2 ⟨k,cg.2 hk,rfl⟩))
theorem PV {i j k:Nat}(hi:i<=W.length)(hj:j<=E.length)(hk:k<j):oM (Fb W E i j) (E.getD k kO).1=some (k:Int):=
 I9 _ _ (PU hn hi hj) (bl _ (aN.2 ⟨k,cg.2 hk,rfl⟩))
theorem aaY {i:Nat}(hi:i<W.length):oM (Fb W E i 0) (W.getD i b0)=none:=by
 refine(I8 _ _ λh=>?_).trans rfl;have:=PU hn (i:=i+1) (j:=0) hi (bu _);rw[EP hi (bu _),di,b9,bq,eC hi] at this;rw[EP (amE hi) (bu _),di,b9,bq,aH,aR hi] at h;exact(tL.1 this).2 h
theorem aaZ {j:Nat}(hj:j<E.length):oM (Fb W E W.length j) (E.getD j kO).1=none:=by
 refine(I8 _ _ λh=>?_).trans rfl;have:=PU hn (i:=W.length) (j:=j+1) (ay _) hj;rw[EP (ay _) hj,eC hj,bX,<-bC,bn,b9] at this;rw[EP (ay _) (amE hj),aH,aR hj] at h;exact(tL.1 this).2 h
end
def ER (W:List ByteArray)(E:List lG)(d:Int):Prop:= -(W.length:Int)<=d/\d<2*(E.length:Int)
theorem PW (w:ByteArray)(b:UInt8):(w++⟨#[b]⟩:ByteArray).size=w.size+1:=by rw[lB];rfl
section
variable {W:List ByteArray}{E:List lG}(hn:(W++E.map (·.1)).Nodup)(hw:∀j:Nat,j<W.length->kg (W.getD j b0)=true)(he:∀j:Nat,j<E.length->kg (E.getD j kO).1=true){d:Int}(hd:ER W E d)
include hn hw he hd
theorem PX:tZ (Fb W E W.length E.length) (decide (d<0)) (uA W E d)/\uB (Fb W E W.length E.length) (uA W E d)=d:=by
 unfold ER at hd;unfold uA
 by_cases h0:d<0
 .have hi:(-1-d).toNat<W.length:=by omega
  rw[ak h0,ak (by omega),bN h0];have ht:=Se (hw _ hi);have hl:=AB hn (ay W.length) (ay E.length) hi;have e: -1-(((-1-d).toNat:Nat):Int)=d:=by omega
  rw[e] at hl;refine⟨⟨?_,?_,?_,λ_=>rfl,⟨d,?_,?_⟩⟩,?_⟩
  .rw[ht];exact AA (hw _ hi)
  .rw[ht];omega
  .rw[ht];exact ay _
  .rw[ht];exact hl
  .rw[ht];exact⟨λ_=>rfl,λ_=>h0⟩
  unfold uB;rw[ht,ak rfl,hl];rfl
 have hi:(d/2).toNat<E.length:=by omega
 rw[ah h0,ah (by omega),bG h0];have hl:=PV hn (ay W.length) (ay E.length) hi;have e:(((d/2).toNat:Nat):Int)=d/2:=by omega
 rw[e] at hl;split
 .have ht:=Sf (he _ hi);have hs:((E.getD (d/2).toNat kO).1++eX).size=(E.getD (d/2).toNat kO).1.size+1:=PW _ 43;refine⟨⟨?_,?_,?_,?_,⟨d/2,?_,?_⟩⟩,?_⟩
  .rw[ht];exact AA (he _ hi)
  .rw[ht];omega
  .rw[ht];omega
  .rw[ht];omega
  .rw[ht];exact hl
  .rw[ht];omega
  unfold uB;rw[ht,ah (by omega),WO,ah (by decide),hl];show 2*(d/2)=d;omega
 have ht:=N2 (he _ hi);have hs:((E.getD (d/2).toNat kO).1++eV).size=(E.getD (d/2).toNat kO).1.size+1:=PW _ 45;refine⟨⟨?_,?_,?_,?_,⟨d/2,?_,?_⟩⟩,?_⟩
 .rw[ht];exact AA (he _ hi)
 .rw[ht];omega
 .rw[ht];omega
 .rw[ht];omega
 .rw[ht];exact hl
 .rw[ht];omega
 unfold uB;rw[ht,ah (by omega),Sg,ak rfl,hl];show 2*(d/2)+1=d;omega
end
def zg {α:Type}(m:List (Int×α)):Prop:=FA (m.map (·.1))
theorem PY {α:Type}(p:Int×α):∀(m:List (Int×α)),zg m->(∀q∈m,q.1≠p.1)->zg (qd (k:=.int) p m)
 |[],_,_=>amB _ _
 |q::m,h,hn=>by
  have h':FA (q.1::m.map (·.1)):=h;show zg (if Tu .int p.1 q.1 then p::q::m else q::qd (k:=.int) p m);have e:Tu .int p.1 q.1=decide (p.1<q.1):=rfl
  by_cases c:p.1<q.1
  .rw[ak (e.trans (bN c))];refine aoP (λx hx=>?_) h';rcases aC.1 hx with rfl|hx
   .exact c
   exact amA c ((akJ.1 h').1 x hx)
  rw[ah (by rw[e];exact λz=>c (aP z))];refine aoP (λx hx=>?_) (PY p m (akJ.1 h').2 λz hz=>hn z (aE _ hz));obtain⟨z,hz,rfl⟩:=aN.1 hx;rcases(zH (k:=.int)).1 hz with rfl|hz
  .have:=hn q aA;show q.1<_;omega
  exact(akJ.1 h').1 _ (aN.2 ⟨z,hz,rfl⟩)
theorem Ja {α:Type}{m:List (Int×α)}(h:zg m)(x:Int)(v:α):zg (jM m x v):=by
 refine PY _ _ ?_ λq hq=>?_
 .exact ape ((ano (l:=m)).map _) h
 have:=(cB.1 hq).2;rw[Bool.not_eq_true'] at this;exact bh this
theorem PZ {α:Type}:zg ([]:List (Int×α)):=aoJ
theorem WS {α:Type}{m:List (Int×α)}{x:Int}:(iC m x).isSome=true↔x∈m.map (·.1):=by
 constructor
 .intro h;obtain⟨v,hv⟩:=bD.1 h;exact aN.2 ⟨_,vD hv,rfl⟩
 intro h;obtain⟨p,hp,rfl⟩:=aN.1 h;cases e:iC m p.1 with
 |some v=>rfl
 |none=>exact absurd hp (uH.1 e p.2)
theorem L7 {α:Type}{m:List (Int×α)}{V:List Int}(h:zg m)(hV:FA V)(hm:∀x,(iC m x).isSome=true↔x∈V):m.map (·.1)=V:=
 O8 h hV λx=>by rw[<-WS];exact hm x
theorem oQ.aa0 {α:Type}{f:α->List (List ByteArray)}{d:α}(l:List α)(I:Nat->RS->Prop){s:RS}(h0:I 0 s)(h:∀i s,i<l.length->I i s->∃t,oQ s (f (l.getD i d)) t/\I (i+1) t):∃t,oQ s (l.flatMap f) t/\I l.length t:=by
 have key:∀k,k<=l.length->∃t,oQ s ((l.take k).flatMap f) t/\I k t:=by
  intro k
  induction k with
  |zero=>intro _;exact⟨s,.nil _,h0⟩
  |succ k ih=>
   intro hk;have hg:l.getD k d=l[k]:=by rw[aH,aR (by omega)];rfl
   obtain⟨t,r,i⟩:=ih (by omega);obtain⟨u,r2,i2⟩:=h k t (by omega) i;refine⟨u,?_,i2⟩;rw[eC (show k<l.length by omega),akI];refine r.app ?_;rw[hg] at r2;simpa using r2
 have:=key l.length (ay _);rwa[bL] at this
theorem Jb {α:Type}(l:List α)(d:α){i:Nat}(h:i<l.length):l.take (i+1)=l.take i++[l.getD i d]:=by
 rw[eC h,aH,aR h];rfl
def My:RS:=⟨0,false,0,[],[],[],[],[],[],[]⟩
theorem P0 (K:Int)(h:K=0\/K=1):oQ My (kL K) ⟨K,true,0,[],[],[],[],[],[],[]⟩:=.one (.kind (s:=My) K rfl rfl h)
section
variable {K:Int}{W:List ByteArray}{E:List lG}(hn:(W++E.map (·.1)).Nodup)(hw:∀j:Nat,j<W.length->kg (W.getD j b0)=true)(he:∀j:Nat,j<E.length->kg (E.getD j kO).1=true)
include hn hw in
theorem P3:oQ ⟨K,true,0,[],[],[],[],[],[],[]⟩ (W.flatMap fV) ⟨K,true,0,W,[],Fb W E W.length 0,[],[],[],[]⟩:=by
 have:=oQ.seg (f:=fV) (d:=b0) W (λi=>⟨K,true,0,W.take i,[],Fb W E i 0,[],[],[],[]⟩) λi hi=>by
  have q:=qS.WQ (s:=⟨K,true,0,W.take i,[],Fb W E i 0,[],[],[],[]⟩) (W.getD i b0) rfl (bM _) (hw i hi) (aaY hn hi);have e:(W.take i).length=i:=by rw[aX];omega
  refine .one ?_;show qS _ [Av,W.getD i b0] _;rw[aje,Jb W b0 hi];rwa[e] at q
 rwa[bL,di] at this
include hn he in
theorem P4 (hE:LS W E)(hk:∀j:Nat,j<E.length->(E.getD j kO).2.2.2=0\/((E.getD j kO).2.2.2=1\/(E.getD j kO).2.2.2=2)/\K=1):
  oQ ⟨K,true,0,W,[],Fb W E W.length 0,[],[],[],[]⟩ (E.flatMap (fE W)) ⟨K,true,if E.length=0 then 0 else 1,W,E,Fb W E W.length E.length,[],[],[],[]⟩:=by
 have:=oQ.seg (f:=fE W) (d:=kO) E (λj=>⟨K,true,if j=0 then 0 else 1,W,E.take j,Fb W E W.length j,[],[],[],[]⟩) λj hj=>by
  obtain⟨⟨a0,a1⟩,⟨b0_,b1⟩,_⟩:=hE j hj;have ha:=AB hn (ay W.length) (amE hj) (show(E.getD j kO).2.1.toNat<W.length by omega);have hb:=AB hn (ay W.length) (amE hj) (show(E.getD j kO).2.2.1.toNat<W.length by omega);rw[cA a0] at ha;rw[cA b0_] at hb;have q:=qS.aaX (s:=⟨K,true,if j=0 then 0 else 1,W,E.take j,Fb W E W.length j,[],[],[],[]⟩) (E.getD j kO).2.2.2 (E.getD j kO).1 _ _ _ _ rfl (by show(if j=0 then(0:Int) else 1)<=1;split<;>omega) (hk j hj) (he j hj) (aaZ hn hj) ha a0 hb b0_;have e:(E.take j).length=j:=by rw[aX];omega
  refine .one ?_;show qS _ [kE (E.getD j kO).2.2.2,(E.getD j kO).1,W.getD (E.getD j kO).2.1.toNat b0,W.getD (E.getD j kO).2.2.1.toNat b0] _;rw[ajf,Jb E kO hj,ah (Nat.succ_ne_zero j)];rwa[e] at q
 rwa[bL,di] at this
end
structure P5 (W:List ByteArray)(E:List lG)(t:Int)(A B:List Int)(T:Int->Option (List Int))(S:List (List Int))(s:RS):Prop where
 b:s.b=true
 k:s.k=0
 t:s.t<=t
 m:s.m=Fb W E W.length E.length
 hW:s.W=W
 hE:s.E=E
 hv:zg s.hv
 he:zg s.he
 mv:∀x,(iC s.hv x).isSome=true↔x∈A
 me:∀x,(iC s.he x).isSome=true↔x∈B
 tu:∀v,iC s.tu v=T v
 hS:s.S=S
theorem P6 {α:Type}{p q:Prop}[Decidable p][Decidable q](h:p↔q)(a b:α):(if p then a else b)=if q then a else b:=by
 by_cases x:p
 .rw[ak x,ak (h.1 x)]
 rw[ah x,ah (λz=>x (h.2 z))]
theorem CY {m:List (Int×Unit)}{A:List Int}(h:∀x,(iC m x).isSome=true↔x∈A)(y:Int):∀x,(iC (jM m y ()) x).isSome=true↔x∈A++[y]:=Ez y h
section
variable {W:List ByteArray}{E:List lG}{V L:List Int}{T S:List (List Int)}(hn:(W++E.map (·.1)).Nodup)(hw:∀j:Nat,j<W.length->kg (W.getD j b0)=true)(he:∀j:Nat,j<E.length->kg (E.getD j kO).1=true)
 (hV:∀v∈V,0<=v/\v<(W.length:Int)) (hL:∀e∈L,0<=e/\e<(E.length:Int))
theorem Jc {l:List Int}{i:Nat}(h:i<l.length):l.getD i 0∈l:=by
 rw[aH,aR h];exact cU h
include hn hL in
theorem aa1 {s:RS}(h:P5 W E 2 [] [] (λ_=>none) [] s):∃t,oQ s (L.flatMap (fH E)) t/\P5 W E 2 (S7 E L) L (λ_=>none) [] t:=by
 have:=oQ.aa0 (f:=fH E) (d:=0) L (λi s=>P5 W E 2 (S7 E (L.take i)) (L.take i) (λ_=>none) [] s) h λi s hi h=>by
  obtain⟨e0,e1⟩:=hL _ (Jc hi);have hl:=PV hn (ay W.length) (ay E.length) (show(L.getD i 0).toNat<E.length by omega);rw[cA e0] at hl;have q:=qS.acQ (s:=s) (E.getD (L.getD i 0).toNat kO).1 (L.getD i 0) h.b h.k h.t (by rw[h.m];exact hl) e0 (by rw[h.hE];exact e1);refine⟨_,.one q,⟨h.b,h.k,bM _,h.m,h.hW,h.hE,Ja (Ja h.hv _ _) _ _,Ja h.he _ _,?_,?_,h.tu,h.hS⟩⟩
  .intro x;refine(CY (CY h.mv _) _ x).trans ?_;rw[Jb L 0 hi,h.hE];unfold S7;rw[akI,bC];simp
  intro x;refine(CY h.me _ x).trans ?_;rw[Jb L 0 hi]
 rwa[bL] at this
include hn hV in
theorem aa2 {s:RS}{A B:List Int}{g:Int->Bool}(h:P5 W E 2 A B (λ_=>none) [] s):∃t,oQ s (V.flatMap (fW W g)) t/\P5 W E 2 (A++V.filter λv=>!g v) B (λ_=>none) [] t:=by
 have:=oQ.aa0 (f:=fW W g) (d:=0) V (λi s=>P5 W E 2 (A++(V.take i).filter λv=>!g v) B (λ_=>none) [] s) (by rw[di,anx,bq];exact h) λi s hi h=>by
  obtain⟨e0,e1⟩:=hV _ (Jc hi);rw[Jb V 0 hi,List.filter_append,<-bC];unfold fW;cases hg:g (V.getD i 0) with
  |true=>
   rw[show([V.getD i 0].filter λv=>!g v)=[] by simp only[al0,hg,anx];rfl,bq];exact⟨s,.nil _,h⟩
  |false=>
   rw[show([V.getD i 0].filter λv=>!g v)=[V.getD i 0] by simp only[al0,hg,anx];rfl];have hl:=AB hn (ay W.length) (ay E.length) (show(V.getD i 0).toNat<W.length by omega);rw[cA e0] at hl;have q:=qS.acR (s:=s) (W.getD (V.getD i 0).toNat b0) (V.getD i 0) h.b h.k h.t (by rw[h.m];exact hl) e0;exact⟨_,.one q,⟨h.b,h.k,bM _,h.m,h.hW,h.hE,Ja h.hv _ _,h.he,CY h.mv _,h.me,h.tu,h.hS⟩⟩
 rwa[bL] at this
include hn hw he hV in
theorem Sh {s:RS}{A B:List Int}{g:Int->Bool}(O7:V.Nodup)(hT:∀v∈V,∀d∈T.getD v.toNat [],0<=d/\d<2*(E.length:Int))(h:P5 W E 3 A B (λ_=>none) [] s):
  ∃t,oQ s (V.flatMap (fA W E T g)) t/\P5 W E 3 A B (λv=>if v∈V/\g v=true then some (iE (T.getD v.toNat [])) else none) [] t:=by
 have:=oQ.aa0 (f:=fA W E T g) (d:=0) V (λi s=>P5 W E 3 A B (λv=>if v∈V.take i/\g v=true then some (iE (T.getD v.toNat [])) else none) [] s)
  (by
   have e:(λv:Int=>if v∈V.take 0/\g v=true then some (iE (T.getD v.toNat [])) else none)=λ_=>none:=funext λv=>ah λz=>(by cases z.1);rw[e];exact h) λi s hi h=>by
  obtain⟨e0,e1⟩:=hV _ (Jc hi);unfold fA;cases hg:g (V.getD i 0) with
  |true=>
   have hl:=AB hn (ay W.length) (ay E.length) (show(V.getD i 0).toNat<W.length by omega);rw[cA e0] at hl;have hk:∀d∈iE (T.getD (V.getD i 0).toNat []),0<=d/\ER W E d:=λd hd=>by
    have:=hT _ (Jc hi) d (rz.1 hd);exact⟨this.1,by unfold ER;omega⟩
   have hni:V.getD i 0∉V.take i:=by
    have:(V.take (i+1)).Nodup:=O7.sublist (amD _ _);rw[Jb V 0 hi] at this;exact(tL.1 this).2
   have q:=qS.WR (s:=s) (W.getD (V.getD i 0).toNat b0) (V.getD i 0) ((iE (T.getD (V.getD i 0).toNat [])).map (uA W E)) h.b h.k h.t (by rw[h.m];exact hl) e0 (by rw[h.tu,ah λz=>hni z.1])
    (λx hx=>by
     obtain⟨d,hd,rfl⟩:=aN.1 hx;have:=(PX hn hw he (hk d hd).2).1;rw[bG (by have:=(hk d hd).1;omega)] at this;rw[h.m];exact this)
   have em:((iE (T.getD (V.getD i 0).toNat [])).map (uA W E)).map (uB s.m)=iE (T.getD (V.getD i 0).toNat []):=by
    rw[cn];refine(dg λd hd=>?_).trans (ami _);show uB s.m (uA W E d)=d;rw[h.m];exact(PX hn hw he (hk d hd).2).2
   rw[em] at q;refine⟨_,.one q,⟨h.b,h.k,bM _,h.m,h.hW,h.hE,h.hv,h.he,h.mv,h.me,λv=>?_,h.hS⟩⟩;show iC (jM s.tu _ _) v=_;rw[jI,h.tu,Jb V 0 hi]
   by_cases e:V.getD i 0=v
   .subst e;rw[ak rfl,ak ⟨bl _ (av.2 rfl),hg⟩]
   rw[ah e];have:v∈V.take i++[V.getD i 0]↔v∈V.take i:=by rw[aI,av];exact⟨λz=>z.elim id λz=>absurd z.symm e,.inl⟩
   exact P6 ⟨λz=>⟨this.2 z.1,z.2⟩,λz=>⟨this.1 z.1,z.2⟩⟩ _ _
  |false=>
   refine⟨s,.nil _,⟨h.b,h.k,h.t,h.m,h.hW,h.hE,h.hv,h.he,h.mv,h.me,λv=>?_,h.hS⟩⟩;rw[h.tu,Jb V 0 hi];have:(v∈V.take i++[V.getD i 0]/\g v=true)↔(v∈V.take i/\g v=true):=by
    rw[aI,av];exact⟨λz=>⟨z.1.elim id λy=>(by rw[y,hg] at z;cases z.2),z.2⟩,λz=>⟨.inl z.1,z.2⟩⟩
   exact P6 ⟨λz=>this.2 z,λz=>this.1 z⟩ _ _
 rwa[bL] at this
include hn hw he in
theorem Si {s:RS}{A B:List Int}{g:Int->Option (List Int)}(hS:∀l∈S,2<=l.length/\∀x∈l,ER W E x)(h:P5 W E 4 A B g [] s):∃t,oQ s (S.flatMap (fR W E)) t/\P5 W E 4 A B g S t:=by
 have:=oQ.aa0 (f:=fR W E) (d:=[]) S (λi s=>P5 W E 4 A B g (S.take i) s) h λi s hi h=>by
  have hm:S.getD i []∈S:=by rw[aH,aR hi];exact cU hi
  obtain⟨h2,hk⟩:=hS _ hm;have q:=qS.region (s:=s) ((S.getD i []).map (uA W E)) h.b h.k h.t (by rw[aV];exact h2)
   (λx hx=>by
    obtain⟨d,hd,rfl⟩:=aN.1 hx;have:=(PX hn hw he (hk d hd)).1;rw[h.m];exact⟨this.pos,this.le,this.ge,λ_=>rfl,this.some⟩)
  have em:((S.getD i []).map (uA W E)).map (uB s.m)=S.getD i []:=by
   rw[cn];refine(dg λd hd=>?_).trans (ami _);show uB s.m (uA W E d)=d;rw[h.m];exact(PX hn hw he (hk d hd)).2
  rw[em] at q;exact⟨_,.one q,⟨h.b,h.k,bM _,h.m,h.hW,h.hE,h.hv,h.he,h.mv,h.me,h.tu,by show s.S++_=_;rw[h.hS,Jb S [] hi]⟩⟩
 rwa[bL] at this
end
section
variable {K:Int}{W:List ByteArray}{E:List lG}{V L:List Int}{T S:List (List Int)}
theorem WT (h:k9 K W E V L T S=0):(W++E.map (·.1)).Nodup:=by
 unfold k9 at h;split at h
 .cases h
 split at h
 .cases h
 split at h
 .cases h
 rename_i q;exact eu.1 q
theorem Jd (h:k9 K W E V L T S=0)(j:Nat)(hj:j<W.length):kg (W.getD j b0)=true:=by
 have:=I1 h j (by simp[tM];omega);rwa[show(tM W E).getD j b0=W.getD j b0 by simp[tM,aH,cX hj]] at this
theorem Je (h:k9 K W E V L T S=0)(j:Nat)(hj:j<E.length):kg (E.getD j kO).1=true:=by
 have:=I1 h (W.length+j) (by simp[tM];omega);rwa[show(tM W E).getD (W.length+j) b0=(E.getD j kO).1 by
  simp only[tM,aH];rw[cY (by omega),show W.length+j-W.length=j by omega,cm,aR hj];rfl] at this
theorem P7 (h:k9 K W E V L T S=0)(hk:K=0)(j:Nat)(hj:j<E.length):(E.getD j kO).2.2.2=0:=by
 obtain⟨hc,_⟩:=Ay h hk;unfold jQ at hc;rw[ak hk] at hc;split at hc
 .rename_i q;exact q j (by omega)
 have q:(1:Int)=0:=aG (·.2) hc;omega
theorem WU (h:k9 K W E V L T S=0)(j:Nat)(hj:j<E.length):(E.getD j kO).2.2.2=0\/((E.getD j kO).2.2.2=1\/(E.getD j kO).2.2.2=2)/\K=1:=by
 rcases ze h with hk|hk
 .exact .inl (P7 h hk j hj)
 have:=(BD h j hj).2.2;omega
theorem P8 (h:k9 K W E V L T S=0)(hk:K=0){v:Int}(hv:v∈S7 E L):v∈V:=by
 obtain⟨hp,_,_⟩:=rD h hk;obtain⟨_,hV,hL,ho⟩:=jH hp;obtain⟨e,he,hx⟩:=cy.1 hv;have e1:=(iK.1 hL).2 e he;rw[oN] at e1;have hg:(yA E).getD e.toNat (0,0)=((E.getD e.toNat kO).2.1,(E.getD e.toNat kO).2.2.1):=by
  rw[getD_eq (by rw[oN];omega),getD_eq (by omega)];unfold yA;rw[akM]
 obtain⟨j,hj,rfl⟩:=iV (z:=(0:Int)).1 he;obtain⟨o1,o2⟩:=ho j hj;rw[hg,KP hV] at o1 o2;rcases aC.1 hx with rfl|hx
 .exact aP o1
 rw[av.1 hx];exact aP o2
theorem acS (h:k9 K W E V L T S=0)(hk:K=0):∀v∈V,∀d∈T.getD v.toNat [],0<=d/\d<2*(E.length:Int):=λv hv d hd=>by
 obtain⟨hp,_,hT⟩:=rD h hk;obtain⟨_,hV,hL,_⟩:=jH hp;have h1:=(iK.1 hV).2 v hv;have hl:=hT.len;have:=(iK.1 hL).2 _ ((hT.mem _ (by omega) d).1 hd).1;rw[oN] at this;omega
theorem WV (h:k9 K W E V L T S=0)(hk:K=0):∀l∈S,2<=l.length/\∀x∈l,ER W E x:=λl hl=>by
 obtain⟨_,E8,_⟩:=rD h hk;obtain⟨hp,_,hw⟩:=qC (rB (oE E8).1);obtain⟨_,hV,hL,_⟩:=jH hp;refine⟨?_,λx hx=>?_⟩
 .obtain⟨_,z,hz,_⟩:=oE E8;obtain⟨j,hj,rfl⟩:=iV (z:=([]:List Int)).1 hl;exact Ap hz j hj
 obtain⟨w,hm,rfl⟩:=EE E8 (amv.2 ⟨l,hl,hx⟩);unfold ER;rcases hw.key w hm with⟨_,q⟩|⟨_,q⟩
 .have:=(iK.1 hV).2 _ q;omega
 have:=(iK.1 hL).2 _ q;rw[oN] at this;omega
theorem Sj (h:k9 K W E V L T S=0)(hk:K=0):∃s,oQ My (FH K W E V L T S (hE E L)) s/\s.b=true/\s.k=0/\s.W=W/\s.E=E/\s.S=S/\s.hv.map (·.1)=V/\s.he.map (·.1)=L/\
  ∀v,iC s.tu v=if v∈V/\hE E L v=true then some (iE (T.getD v.toNat [])) else none:=by
 have hn:=WT h;have hw:=Jd h;have he:=Je h;obtain⟨hp,_,hT⟩:=rD h hk;obtain⟨_,hV,hL,_⟩:=jH hp;obtain⟨o1,o2⟩:=EJ h hk;have oV:∀v∈V,0<=v/\v<(W.length:Int):=λv hv=>⟨(o1 v hv).1,(o1 v hv).2.1⟩;obtain⟨s1,r1,i1⟩:=aa1 hn o2 (s:=⟨K,true,if E.length=0 then 0 else 1,W,E,Fb W E W.length E.length,[],[],[],[]⟩)
  ⟨rfl,hk,by show(if E.length=0 then(0:Int) else 1)<=2;split<;>omega,rfl,rfl,rfl,PZ,PZ,λx=>⟨λz=>(by cases z),λz=>(by cases z)⟩,λx=>⟨λz=>(by cases z),λz=>(by cases z)⟩,λ_=>rfl,rfl⟩
 obtain⟨s2,r2,i2⟩:=aa2 hn oV (g:=hE E L) i1;obtain⟨s3,r3,i3⟩:=Sh hn hw he oV (T:=T) (g:=hE E L) (nG (iK.1 hV).1) (acS h hk) (⟨i2.b,i2.k,anz i2.t (by decide),i2.m,i2.hW,i2.hE,i2.hv,i2.he,i2.mv,i2.me,i2.tu,i2.hS⟩:P5 W E 3 _ _ _ _ s2);obtain⟨s4,r4,i4⟩:=Si hn hw he (WV h hk) (⟨i3.b,i3.k,anz i3.t (by decide),i3.m,i3.hW,i3.hE,i3.hv,i3.he,i3.mv,i3.me,i3.tu,i3.hS⟩:P5 W E 4 _ _ _ _ s3);refine⟨s4,?_,i4.b,i4.k,i4.hW,i4.hE,i4.hS,L7 i4.hv (iK.1 hV).1 λx=>?_,L7 i4.he (iK.1 hL).1 i4.me,i4.tu⟩
 .rw[RX hk];unfold AN;refine(((P0 K (.inl hk)).app (P3 hn hw)).app (P4 hn he (BD h) (WU h))).app ?_;exact((r1.app r2).app r3).app r4
 rw[i4.mv,aI,cB];constructor
 .rintro(q|⟨q,_⟩)
  .exact P8 h hk q
  exact q
 intro q
 by_cases z:x∈S7 E L
 .exact .inl z
 exact .inr ⟨q,by unfold hE;rw[bG z];rfl⟩
theorem Sk (h:k9 K W E V L T S=0)(hk:K=1):∃s,oQ My (FH K W E V L T S (hE E L)) s/\s.b=true/\s.k=1/\s.W=W/\s.E=E:=by
 have hn:=WT h;refine⟨⟨K,true,if E.length=0 then 0 else 1,W,E,Fb W E W.length E.length,[],[],[],[]⟩,?_,rfl,hk,rfl,rfl⟩;rw[RY (by omega)];exact((P0 K (.inr hk)).app (P3 hn (Jd h))).app (P4 hn (Je h) (BD h) (WU h))
end
abbrev wJ:Type:=List (Int×ByteArray)
abbrev m8 (ws:wJ)(i:Nat):ByteArray:=(ws.getD i (0,⟨#[]⟩)).2
structure zu (wa:Int)(ws:wJ):Prop where
 a0:0<=wa
 a1:wa<=1000000
 len:(ws.length:Int)<=1000000
 pos:∀i:Nat,i<ws.length->0<=(ws.getD i (0,⟨#[]⟩)).1/\(ws.getD i (0,⟨#[]⟩)).1<=1000000/\(ws.getD i (0,⟨#[]⟩)).2.size<=1000000
theorem zu.wd {wa:Int}{ws:wJ}(h:zu wa ws){n:Int}(h0:0<=n)(h1:n<(ws.length:Int)):
  (0<=n/\n<(ws.length:Int)/\n<=1000000)/\-9223372036854775808<=wa+(ws.getD n.toNat (0,⟨#[]⟩)).1/\wa+(ws.getD n.toNat (0,⟨#[]⟩)).1<=9223372036854775807:=by
 have:=h.pos n.toNat (by omega);have:=h.a0;have:=h.a1;have:=h.len;exact⟨⟨h0,h1,by omega⟩,by omega,by omega⟩
theorem zu.sz {wa:Int}{ws:wJ}(h:zu wa ws){n:Nat}(h1:n<ws.length):(ws.getD n (0,⟨#[]⟩)).2.size<=1000000:=(h.pos n h1).2.2
abbrev vg (m:mh)(x:ByteArray):Int:=(iB (k:=.str) m x).getD 0
structure AD (m:mh)(nW nE:Nat):Prop where
 len:m.length<=nW+nE
 get:∀(x:ByteArray) (k:Int),iB (k:=.str) m x=some k->-(nW:Int)<=k/\k<(nE:Int)
theorem AD.gt {m:mh}{nW nE:Nat}(h:AD m nW nE){x:ByteArray}(hx:(iB (k:=.str) m x).isSome=true): -(nW:Int)<=vg m x/\vg m x<(nE:Int):=by
 obtain⟨k,hk⟩:=bD.1 hx;have:=h.get x k hk;show -(nW:Int)<=(iB (k:=.str) m x).getD 0/\(iB (k:=.str) m x).getD 0<_;rw[hk];exact this
theorem AD.nil:AD [] 0 0:=⟨ay _,λ_ _ h=>by cases h⟩
theorem AD.WQ {m:mh}{nW nE:Nat}(h:AD m nW nE)(n:ByteArray):AD (v7 m n (-1-(nW:Int))) (nW+1) nE:=by
 refine⟨?_,λx k hk=>?_⟩
 .have:=Ev m n (-1-(nW:Int));have:=h.len;omega
 have hk:oM (v7 m n (-1-(nW:Int))) x=some k:=hk;rw[Bu] at hk;split at hk
 .cases hk;omega
 have:=h.get x k hk;omega
theorem AD.aaX {m:mh}{nW nE:Nat}(h:AD m nW nE)(n:ByteArray):AD (v7 m n (nE:Int)) nW (nE+1):=by
 refine⟨?_,λx k hk=>?_⟩
 .have:=Ev m n (nE:Int);have:=h.len;omega
 have hk:oM (v7 m n (nE:Int)) x=some k:=hk;rw[Bu] at hk;split at hk
 .cases hk;omega
 have:=h.get x k hk;omega
def kQ (k:Int)(w:ByteArray):Int×Bool:=
 if w=Av then(0,true) else if w=Wk then(1,true) else if w=aaA then(1,decide (k=1)) else if w=aaB then(1,decide (k=1))
 else if w=sC then(2,!decide (k=1)) else if w=wAr then(3,!decide (k=1)) else if w=wRg then(4,!decide (k=1)) else(0,false)
abbrev YR (w:ByteArray):Int:=if w=aaA then 1 else if w=aaB then 2 else 0
def aei (s:RS)(ws:wJ):Prop:=ws.length=2/\kg (m8 ws 1)=true/\(iB (k:=.str) s.m (m8 ws 1)).isSome=false
def aa3 (s:RS)(ws:wJ):Prop:=ws.length=4/\kg (m8 ws 1)=true/\(iB (k:=.str) s.m (m8 ws 1)).isSome=false/\((iB (k:=.str) s.m (m8 ws 2)).isSome=true/\vg s.m (m8 ws 2)<0)/\(iB (k:=.str) s.m (m8 ws 3)).isSome=true/\vg s.m (m8 ws 3)<0
def aa4 (s:RS)(ws:wJ):Prop:=ws.length=2/\(iB (k:=.str) s.m (m8 ws 1)).isSome=true
def aej (s:RS)(ws:wJ):Prop:=2<=ws.length/\((iB (k:=.str) s.m (m8 ws 1)).isSome=true/\vg s.m (m8 ws 1)<0)/\(iC s.tu (-1-vg s.m (m8 ws 1))).isSome=false/\∀i,2<=i->i<ws.length->tZ s.m false (m8 ws i)
def aek (s:RS)(ws:wJ):Prop:=3<=ws.length/\∀i,1<=i->i<ws.length->tZ s.m true (m8 ws i)
def nxK (s:RS)(ws:wJ):RS:={s with k:=if m8 ws 0=wH then 1 else s.k,b:=true}
def nxV (s:RS)(ws:wJ):RS:={s with t:=0,W:=s.W++[m8 ws 1],m:=mj (k:=.str) s.m (m8 ws 1) (-1-(s.W.length:Int))}
def nxE (s:RS)(ws:wJ):RS:={s with t:=1,E:=s.E++[(m8 ws 1,(-1-vg s.m (m8 ws 2),(-1-vg s.m (m8 ws 3),YR (m8 ws 0))))],m:=mj (k:=.str) s.m (m8 ws 1) (s.E.length:Int)}
def Jf (ha:List (Int×Unit))(ee:List lG)(k:Int):List (Int×Unit):=if k<0 then jM ha (-1-k) () else jM (jM ha (ee.getD k.toNat kO).2.1 ()) (ee.getD k.toNat kO).2.2.1 ()
def Jg (hb:List (Int×Unit))(k:Int):List (Int×Unit):=if k<0 then hb else jM hb k ()
abbrev hlV (s:RS)(k:Int):List (Int×Unit):=Jf s.hv s.E k
abbrev hlE (s:RS)(k:Int):List (Int×Unit):=Jg s.he k
def nxH (s:RS)(ws:wJ):RS:={s with t:=2,hv:=hlV s (vg s.m (m8 ws 1)),he:=hlE s (vg s.m (m8 ws 1))}
def nxA (s:RS)(ws:wJ):RS:={s with t:=3,tu:=jM s.tu (-1-vg s.m (m8 ws 1)) ((ws.drop 2).map λp=>uB s.m p.2)}
def nxR (s:RS)(ws:wJ):RS:={s with t:=4,S:=s.S++[(ws.drop 1).map λp=>uB s.m p.2]}
def YS (g:Int)(s:RS)(ws:wJ):Prop:=if g=0 then aei s ws else if g=1 then aa3 s ws else if g=2 then aa4 s ws else if g=3 then aej s ws else aek s ws
def YT (g:Int)(s:RS)(ws:wJ):RS:=if g=0 then nxV s ws else if g=1 then nxE s ws else if g=2 then nxH s ws else if g=3 then nxA s ws else nxR s ws
def okL (s:RS)(ws:wJ):Prop:=0<ws.length/\if s.b=false then(m8 ws 0=xM\/m8 ws 0=wH)/\ws.length=1
 else(kQ s.k (m8 ws 0)).2=true/\s.t<=(kQ s.k (m8 ws 0)).1/\YS (kQ s.k (m8 ws 0)).1 s ws
def lX (s:RS)(ws:wJ):RS:=if s.b=false then nxK s ws else YT (kQ s.k (m8 ws 0)).1 s ws
theorem ael {ws:wJ}{l:List ByteArray}(h:ws.map (·.2)=l)(i:Nat):m8 ws i=l.getD i ⟨#[]⟩:=by
 subst h;show(ws.getD i (0,⟨#[]⟩)).2=_;rw[aH,aH,cm];cases ws[i]?<;>rfl
theorem ag7 {i:Int}(h:i=0\/i=1\/i=2):YR (kE i)=i:=by
 rcases h with rfl|rfl|rfl<;>rfl
theorem Ck {m:mh}{ws:wJ}{l:List ByteArray}{a:ByteArray}{n:Nat}(h:(ws.drop n).map (·.2)=l):(ws.drop n).map (λp=>uB m p.2)=l.map (uB m):=by
 rw[<-h,cn];rfl
theorem Sl {s t:RS}{ws:wJ}{l:List ByteArray}(hl:ws.map (·.2)=l)(h:qS s l t):okL s ws/\lX s ws=t:=by
 have hlen:ws.length=l.length:=by rw[<-hl,aV]
 have hw:=ael hl;cases h with
 |kind K hb h0 hK=>
  rcases hK with rfl|rfl
  .have e0:m8 ws 0=xM:=hw 0;refine⟨⟨by rw[hlen];exact aoQ,by rw[ak hb];exact⟨.inl e0,hlen⟩⟩,?_⟩;unfold lX nxK;rw[ak hb,e0,ah (by decide),h0]
  have e0:m8 ws 0=wH:=hw 0;refine⟨⟨by rw[hlen];exact aoQ,by rw[ak hb];exact⟨.inr e0,hlen⟩⟩,?_⟩;unfold lX nxK;rw[ak hb,e0,ak rfl]
 |WQ n hb ht hn hl'=>
  have e0:m8 ws 0=Av:=hw 0;have e1:m8 ws 1=n:=hw 1;have es:kQ s.k Av=(0,true):=rfl;refine⟨⟨by rw[hlen];exact anA,?_⟩,?_⟩
  .rw[ah (by rw[hb];decide),e0,es];refine⟨rfl,ht,?_⟩;unfold YS aei;rw[ak rfl,e1];exact⟨hlen,hn,by rw[show iB (k:=.str) s.m n=none from hl'];rfl⟩
  unfold lX YT;rw[ah (by rw[hb];decide),e0,es,ak rfl];unfold nxV;rw[e1];rfl
 |aaX i n a b A B hb ht hi hn hl' ha h0 qh h0'=>
  have e0:m8 ws 0=kE i:=hw 0;have e1:m8 ws 1=n:=hw 1;have e2:m8 ws 2=a:=hw 2;have e3:m8 ws 3=b:=hw 3;have es:kQ s.k (kE i)=(1,true):=by
   rcases hi with rfl|⟨rfl|rfl,hk⟩
   .rfl
   .show(1,decide (s.k=1))=_;rw[hk];rfl
   show(1,decide (s.k=1))=_;rw[hk];rfl
  have ea:iB (k:=.str) s.m a=some (-1-A):=ha;have eb:iB (k:=.str) s.m b=some (-1-B):=qh;have ga:vg s.m a= -1-A:=by show(iB (k:=.str) s.m a).getD 0=_;rw[ea];rfl
  have gb:vg s.m b= -1-B:=by show(iB (k:=.str) s.m b).getD 0=_;rw[eb];rfl
  refine⟨⟨by rw[hlen];exact al1 _,?_⟩,?_⟩
  .rw[ah (by rw[hb];decide),e0,es];refine⟨rfl,ht,?_⟩;unfold YS aa3;rw[ah (by decide),ak rfl,e1,e2,e3,ga,gb,ea,eb];exact⟨hlen,hn,by rw[show iB (k:=.str) s.m n=none from hl'];rfl,⟨rfl,by omega⟩,rfl,by omega⟩
  unfold lX YT;rw[ah (by rw[hb];decide),e0,es,ah (by decide),ak rfl];unfold nxE;rw[e0,e1,e2,e3,ga,gb,ag7 (hi.imp id λq=>q.1),show -1-(-1-A)=A by omega,show -1-(-1-B)=B by omega];rfl
 |acQ n j hb hk ht hl' h0 h1=>
  have e0:m8 ws 0=sC:=hw 0;have e1:m8 ws 1=n:=hw 1;have es:kQ s.k sC=(2,true):=by show(2,!decide (s.k=1))=_;rw[hk];rfl
  have el:iB (k:=.str) s.m n=some j:=hl';have gl:vg s.m n=j:=by show(iB (k:=.str) s.m n).getD 0=_;rw[el];rfl
  refine⟨⟨by rw[hlen];exact anA,?_⟩,?_⟩
  .rw[ah (by rw[hb];decide),e0,es];refine⟨rfl,ht,?_⟩;unfold YS aa4;rw[ah (by decide),ah (by decide),ak rfl,e1,el];exact⟨hlen,rfl⟩
  unfold lX YT;rw[ah (by rw[hb];decide),e0,es,ah (by decide),ah (by decide),ak rfl];unfold nxH;rw[e1,gl,show hlV s j=jM (jM s.hv (s.E.getD j.toNat kO).2.1 ()) (s.E.getD j.toNat kO).2.2.1 () from ah (by omega),show hlE s j=jM s.he j () from ah (by omega)]
 |acR n v hb hk ht hl' h0=>
  have e0:m8 ws 0=sC:=hw 0;have e1:m8 ws 1=n:=hw 1;have es:kQ s.k sC=(2,true):=by show(2,!decide (s.k=1))=_;rw[hk];rfl
  have el:iB (k:=.str) s.m n=some (-1-v):=hl';have gl:vg s.m n= -1-v:=by show(iB (k:=.str) s.m n).getD 0=_;rw[el];rfl
  refine⟨⟨by rw[hlen];exact anA,?_⟩,?_⟩
  .rw[ah (by rw[hb];decide),e0,es];refine⟨rfl,ht,?_⟩;unfold YS aa4;rw[ah (by decide),ah (by decide),ak rfl,e1,el];exact⟨hlen,rfl⟩
  unfold lX YT;rw[ah (by rw[hb];decide),e0,es,ah (by decide),ah (by decide),ak rfl];unfold nxH;rw[e1,gl,show hlV s (-1-v)=jM s.hv (-1-(-1-v)) () from ak (by omega),show hlE s (-1-v)=s.he from ak (by omega),show -1-(-1-v)=v by omega]
 |WR n v l hb hk ht hl' h0 hv hx=>
  have e0:m8 ws 0=wAr:=hw 0;have e1:m8 ws 1=n:=hw 1;have es:kQ s.k wAr=(3,true):=by show(3,!decide (s.k=1))=_;rw[hk];rfl
  have el:iB (k:=.str) s.m n=some (-1-v):=hl';have gl:vg s.m n= -1-v:=by show(iB (k:=.str) s.m n).getD 0=_;rw[el];rfl
  have ed:(ws.drop 2).map (·.2)=l:=by rw[alA,hl];rfl
  refine⟨⟨by rw[hlen];exact al1 _,?_⟩,?_⟩
  .rw[ah (by rw[hb];decide),e0,es];refine⟨rfl,ht,?_⟩;unfold YS aej;rw[ah (by decide),ah (by decide),ah (by decide),ak rfl,e1,gl,el,show -1-(-1-v)=v by omega,hv];refine⟨by rw[hlen];exact Nat.le_add_left 2 _,⟨rfl,by omega⟩,rfl,λi h2 hi=>?_⟩;rw[hw i];obtain⟨j,rfl⟩:∃j,i=j+2:=⟨i-2,by omega⟩;have hj:j<l.length:=by rw[hlen] at hi;simpa using hi
   show tZ s.m false (l.getD j _);rw[aH,aR hj];exact hx _ (cU hj)
  unfold lX YT;rw[ah (by rw[hb];decide),e0,es,ah (by decide),ah (by decide),ah (by decide),ak rfl];unfold nxA;rw[e1,gl,show -1-(-1-v)=v by omega,Ck (a:=n) ed]
 |region l hb hk ht h2 hx=>
  have e0:m8 ws 0=wRg:=hw 0;have es:kQ s.k wRg=(4,true):=by show(4,!decide (s.k=1))=_;rw[hk];rfl
  have ed:(ws.drop 1).map (·.2)=l:=by rw[alA,hl];rfl
  refine⟨⟨by rw[hlen];exact al1 _,?_⟩,?_⟩
  .rw[ah (by rw[hb];decide),e0,es];refine⟨rfl,ht,?_⟩;unfold YS aek;rw[ah (by decide),ah (by decide),ah (by decide),ah (by decide)];refine⟨by rw[hlen,bA];omega,λi h1 hi=>?_⟩;rw[hw i];obtain⟨j,rfl⟩:∃j,i=j+1:=⟨i-1,by omega⟩;have hj:j<l.length:=by rw[hlen] at hi;simpa using hi
   show tZ s.m true (l.getD j _);rw[aH,aR hj];exact hx _ (cU hj)
  unfold lX YT;rw[ah (by rw[hb];decide),e0,es,ah (by decide),ah (by decide),ah (by decide),ah (by decide)];unfold nxR;rw[Ck (a:=wRg) ed]
def MD (m:mh)(ws:wJ)(k:Nat)(n:Int):List Int:=((ws.take n.toNat).drop k).map λp=>uB m p.2
theorem P9 (m:mh)(ws:wJ)(k:Nat)(n:Int):(MD m ws k n).length<=ws.length:=by unfold MD;rw[aV,bw,aX];omega
theorem Qa (m:mh)(ws:wJ)(k:Nat):MD m ws k (ws.length:Int)=(ws.drop k).map λp=>uB m p.2:=by unfold MD;rw[cH,bL]
theorem L8 {m:mh}{ws:wJ}{k:Nat}{n:Int}(h0:(k:Int)<=n)(h1:n<(ws.length:Int)):MD m ws k n++[uB m (ws.getD n.toNat (0,⟨#[]⟩)).2]=MD m ws k (n+1):=by
 have e:(n+1).toNat=n.toNat+1:=by omega
 have hn:n.toNat<ws.length:=by omega
 unfold MD;rw[e,eC hn,List.drop_append_of_le_length (by rw[aX];omega),bX,aH,aR hn];rfl
theorem aa5 {m:mh}{ws:wJ}(h:3<=ws.length):MD m ws 1 3=[uB m (ws.getD 1 (0,⟨#[]⟩)).2,uB m (ws.getD 2 (0,⟨#[]⟩)).2]:=by
 match ws,h with
 |a::b::c::l,_=>rfl
theorem Qb {k:Kc}{α:Type}(p:jw k×α):∀l:List (jw k×α),ox (qd p l) p.1=ox l p.1
 |[]=>by
  show List.filter _ [p]=[];rw[amw (by simp)];rfl
 |q::l=>by
  have ih:=Qb p l;unfold ox at ih ⊢;show(if Tu k p.1 q.1 then p::q::l else q::qd p l).filter _=_;split
  .rw[amw (by simp)]
  rw[al0,al0,ih]
theorem WW {k:Kc}{α:Type}(m:List (jw k×α))(x:jw k)(a b:α):mj (mj m x a) x b=mj m x b:=by
 show qd (x,b) (ox (qd (x,a) (ox m x)) x)=qd (x,b) (ox m x);rw[show ox (qd (x,a) (ox m x)) x=ox (ox m x) x from Qb (x,a) _]
 congr 1
 unfold ox;rw[List.filter_filter];exact List.filter_congr λy _=>by simp
theorem aem {α:Type}(m:List (Int×α))(x:Int)(a b:α):jM (jM m x a) x b=jM m x b:=WW (k:=.int) m x a b
theorem WX {α:Type}{m:List (Int×List α)}{x:Int}{l:List α}:(iC (jM m x l) x).getD []=l:=by rw[jI,ak rfl];rfl
theorem aa6 {m:mh}{tu:List (Int×List Int)}{ws:wJ}{v n:Int}(h0:(2:Int)<=n)(h1:n<(ws.length:Int)):jM (jM tu v (MD m ws 2 n)) v ((iC (jM tu v (MD m ws 2 n)) v).getD []++[uB m (ws.getD n.toNat (0,⟨#[]⟩)).2])=jM tu v (MD m ws 2 (n+1)):=by
 rw[aem,WX,L8 h0 h1]
theorem ag8 {m:mh}{x:ByteArray}(h:x.size=(trimB x).size):uB m x=vg m (trimB x):=ak h
theorem ag9 {m:mh}{x:ByteArray}(h:x.size≠(trimB x).size)(q:FJ x=true):uB m x=2*vg m (trimB x)+1:=(ah h).trans (ak q)
theorem aha {m:mh}{x:ByteArray}(h:x.size≠(trimB x).size)(q:FJ x=false):uB m x=2*vg m (trimB x):=(ah h).trans (ah (by rw[q];decide))
theorem aen {m:mh}{vx:Bool}{x:ByteArray}(h:tZ m vx x):(((¬(trimB x=(⟨#[]⟩:ByteArray)))/\(¬((1:Int)<(x.size:Int)-((trimB x).size:Int))))/\((¬((x.size:Int)-((trimB x).size:Int)=0))\/(vx=true)))/\
  (((iB (k:=.str) m (trimB x)).isSome=true)/\(((decide ((iB (k:=.str) m (trimB x)).getD 0<0))==(decide ((x.size:Int)-((trimB x).size:Int)=0)))=true)):=by
 have⟨h1,h2,h3,h4,k,h5,h6⟩:=h;have h5:iB (k:=.str) m (trimB x)=some k:=h5;refine⟨⟨⟨λe=>h1 (by rw[e];rfl),by omega⟩,?_⟩,by rw[h5];rfl,?_⟩
 .by_cases q:x.size=(trimB x).size
  .exact .inr (h4 q)
  exact .inl (by omega)
 rw[h5];show(decide (k<0)==decide ((x.size:Int)-((trimB x).size:Int)=0))=true
 by_cases q:x.size=(trimB x).size
 .rw[bN (h6.2 q),bN (by omega)];rfl
 rw[bG (λz=>q (h6.1 z)),bG (by omega)];rfl
def ES (ee:List lG):Prop:=∀j:Nat,j<ee.length->0<=(ee.getD j kO).2.1/\(ee.getD j kO).2.1<=1000000/\0<=(ee.getD j kO).2.2.1/\(ee.getD j kO).2.2.1<=1000000
theorem ES.snoc {ee:List lG}(h:ES ee){n:ByteArray}{a b i:Int}(ha:0<=a/\a<=1000000)(hb:0<=b/\b<=1000000):ES (ee++[(n,(a,(b,i)))]):=λj hj=>by
 by_cases q:j<ee.length
 .rw[aH,cX q,<-aH];exact h j q
 have:j=ee.length:=by rw[aO] at hj;simp at hj;omega
 subst this;rw[aH,cY (ay _),cZ];exact⟨ha.1,ha.2,hb.1,hb.2⟩
structure ME (s:RS)(n:Nat):Prop where
 nm:AD s.m s.W.length s.E.length
 sz:s.W.length+s.E.length<=n
 hv:s.hv.length<=2*n
 he:s.he.length<=n
 tu:s.tu.length<=n
 S:s.S.length<=n
 ed:ES s.E
theorem tP {α:Type}(m:List (Int×α))(x:Int)(v:α):(jM m x v).length<=m.length+1:=sU (k:=.int) m x v
theorem ME.next {s:RS}{ws:wJ}{n:Nat}(h:ME s n)(hn:n<=1000000)(hk:okL s ws):ME (lX s ws) (n+1):=by
 have hm:=h.nm;have h1:=h.sz;have h2:=h.hv;have h3:=h.he;have h4:=h.tu;have h5:=h.S;have h6:=h.ed;have hk:=hk.2;unfold lX
 by_cases hb:s.b=false
 .rw[ak hb];exact⟨hm,by show s.W.length+s.E.length<=_;omega,by show s.hv.length<=_;omega,by show s.he.length<=_;omega,by show s.tu.length<=_;omega,by show s.S.length<=_;omega,h6⟩
 rw[ah hb] at hk ⊢;have⟨_,_,hk⟩:=hk
 by_cases g1:(kQ s.k (m8 ws 0)).1=1
 .unfold YS aa3 at hk;unfold YT;rw[g1,ah (by decide),ak rfl] at hk ⊢;have⟨_,_,_,⟨k1,k2⟩,k3,k4⟩:=hk;have q1:=hm.gt k1;have q2:=hm.gt k3;refine⟨?_,?_,by show s.hv.length<=_;omega,by show s.he.length<=_;omega,by show s.tu.length<=_;omega,by show s.S.length<=_;omega,h6.snoc ⟨by omega,by omega⟩ ⟨by omega,by omega⟩⟩
  .show AD _ _ (s.E++[_]).length;rw[aO];exact hm.aaX _
  show s.W.length+(s.E++[_]).length<=_;rw[aO];show _+(s.E.length+1)<=_;omega
 unfold YT;split
 .refine⟨?_,?_,by show s.hv.length<=_;omega,by show s.he.length<=_;omega,by show s.tu.length<=_;omega,by show s.S.length<=_;omega,h6⟩
  .show AD _ (s.W++[_]).length _;rw[aO];exact hm.WQ _
  show(s.W++[_]).length+s.E.length<=_;rw[aO];show s.W.length+1+_<=_;omega
 split
 .refine⟨hm,by show s.W.length+s.E.length<=_;omega,?_,?_,by show s.tu.length<=_;omega,by show s.S.length<=_;omega,h6⟩
  .show(Jf s.hv s.E (vg s.m (m8 ws 1))).length<=_;unfold Jf;split
   .have:=tP s.hv (-1-vg s.m (m8 ws 1)) ();omega
   have:=tP s.hv (s.E.getD (vg s.m (m8 ws 1)).toNat kO).2.1 ();have:=tP (jM s.hv (s.E.getD (vg s.m (m8 ws 1)).toNat kO).2.1 ()) (s.E.getD (vg s.m (m8 ws 1)).toNat kO).2.2.1 ();omega
  show(Jg s.he (vg s.m (m8 ws 1))).length<=_;unfold Jg;split
  .omega
  have:=tP s.he (vg s.m (m8 ws 1)) ();omega
 split
 .refine⟨hm,by show s.W.length+s.E.length<=_;omega,by show s.hv.length<=_;omega,by show s.he.length<=_;omega,?_,by show s.S.length<=_;omega,h6⟩;have:=tP s.tu (-1-vg s.m (m8 ws 1)) ((ws.drop 2).map λp=>uB s.m p.2);show(jM s.tu _ _).length<=_;omega
 refine⟨hm,by show s.W.length+s.E.length<=_;omega,by show s.hv.length<=_;omega,by show s.he.length<=_;omega,by show s.tu.length<=_;omega,?_,h6⟩;show(s.S++[_]).length<=_;rw[aO];show s.S.length+1<=_;omega
theorem ahb {s:RS}{ws:wJ}(h:okL s ws)(hb:s.b=false):(m8 ws 0=xM\/m8 ws 0=wH)/\ws.length=1:=by have:=h.2;rwa[ak hb] at this
theorem ahc {s:RS}{ws:wJ}(h:okL s ws)(hb:s.b=true):(kQ s.k (m8 ws 0)).2=true/\s.t<=(kQ s.k (m8 ws 0)).1/\YS (kQ s.k (m8 ws 0)).1 s ws:=by have:=h.2;rwa[ah (by rw[hb];decide)] at this
section
variable {s:RS}{ws:wJ}{g:Int}(h:YS g s ws)
include h
theorem ahd (e:g=0):aei s ws:=by subst e;exact h
theorem ahe (e:g=1):aa3 s ws:=by subst e;exact h
theorem ahf (e:g=2):aa4 s ws:=by subst e;exact h
theorem ahg (e:g=3):aej s ws:=by subst e;exact h
theorem ahh (e:g=4):aek s ws:=by subst e;exact h
end
theorem aa7 (k:Int)(w:ByteArray):0<=(kQ k w).1/\(kQ k w).1<=4:=by
 unfold kQ
 repeat' split
 all_goals simp
theorem aa8 {s:RS}{ws:wJ}(hb:s.b=false)(h:m8 ws 0=xM):lX s ws={s with b:=true}:=by
 unfold lX nxK;rw[ak hb,h,ah (by decide)]
theorem aa9 {s:RS}{ws:wJ}(hb:s.b=false)(h:m8 ws 0=wH):lX s ws={s with k:=1,b:=true}:=by
 unfold lX nxK;rw[ak hb,h,ak rfl]
theorem AE {s:RS}{ws:wJ}{g:Int}(hb:s.b=true)(h:(kQ s.k (m8 ws 0)).1=g):lX s ws=YT g s ws:=by
 unfold lX;rw[ah (by rw[hb];decide),h]
theorem WY {s:RS}{N k:Nat}{vx:Bool}{ws:wJ}(hR:ME s N)(hN:N<=1000000)(h:∀i,k<=i->i<ws.length->tZ s.m vx (m8 ws i)):
  ∀i,k<=i->i<ws.length->tZ s.m vx (m8 ws i)/\(-1000000<=vg s.m (trimB (m8 ws i))/\vg s.m (trimB (m8 ws i))<=1000000):=λi h1 h2=>by
 obtain⟨k,hk,_⟩:=(h i h1 h2).some;have hk:iB (k:=.str) s.m (trimB (m8 ws i))=some k:=hk;have:=hR.nm.gt (x:=trimB (m8 ws i)) (by rw[hk];rfl);have:=hR.sz;exact⟨h i h1 h2,by omega,by omega⟩
theorem ME.zero:ME My 0:=⟨AD.nil,ay _,ay _,ay _,ay _,ay _,λj hj=>by cases hj⟩
theorem zh {l:List Int}:∀ {k:Nat},k<=l.length->∀j,j<k->l.getD (nh l k).toNat 0<=l.getD j 0
 |k+1,hk,j,hj=>by
  unfold nh;split
  .rename_i q;rw[cH]
   by_cases e:j=k
   .subst e;exact bM _
   have:=zh (l:=l) (k:=k) (by omega) j (by omega);omega
  rename_i q
  by_cases e:j=k
  .subst e;omega
  exact zh (l:=l) (by omega) j (by omega)
theorem L9 {l:List Int}(h:∀x∈l,l.getD 0 0<=x):∀k,k<=l.length->nh l k=0
 |0,_=>rfl
 |k+1,hk=>by
  unfold nh;rw[L9 h k (by omega),ah];have:=h (l.getD k 0) (iL (by omega));show ¬_<l.getD (0:Int).toNat 0;exact Int.not_lt.2 this
theorem wg (l:List Int):iE (iE l)=iE l:=by
 by_cases q:l.length=0
 .rw[bV q];rfl
 have hb:=qy l l.length;have e:=L9 (l:=iE l) (λx hx=>by
  obtain⟨j,hj,rfl⟩:=iV (z:=(0:Int)).1 (rz.1 hx);have hm:=zh (l:=l) (ay _) j hj;show(rX l (nh l l.length)).getD 0 0<=_;rw[Ak hb.1 (by omega) (by omega),Nat.zero_add,Nat.mod_eq_of_lt (by omega)];exact hm) (iE l).length (ay _)
 show rX (iE l) (nh (iE l) (iE l).length)=_;rw[e];unfold rX;simp
section
variable {n:Int}{E:List (Int×Int)}{V L:List Int}{T S:List (List Int)}
theorem CZ (T:List (List Int))(v:Nat):(T.map iE).getD v []=iE (T.getD v []):=by
 by_cases h:v<T.length
 .exact aeb h
 rw[aH,cN (by rw[aV];omega),aH,cN (by omega)];rfl
theorem aeo (h:nS n E L T):nS n E L (T.map iE) where
 len:=by rw[aV];exact h.len
 nd v hv:=by rw[aV] at hv;rw[CZ];exact Ce (h.nd v hv)
 mem v hv d:=by rw[aV] at hv;rw[CZ,rz];exact h.mem v hv d
theorem WZ (T:List (List Int)):(T.map iE).map iE=T.map iE:=by
 rw[cn];exact dg λl _=>wg l
theorem ahi (T:List (List Int)):∀k,rY (T.map iE) k=rY T k
 |0=>rfl
 |k+1=>by unfold rY;rw[ahi T k,CZ,wg]
theorem adx (hp:jr n E V L=0)(h:nS n E L T):mF n E V L (T.map iE)=mF n E V L T:=by
 have a:=Ee hp h;have b:=Ee hp (aeo h);have a1:=(y7 a).2.2;have b1:=(y7 b).2.2;rw[WZ,aV,ahi] at b1;exact alX (b1.trans a1.symm) (b.trans a.symm)
theorem lnM (V:List Int)(T:List (List Int)):∀k,Cf V (T.map iE) k=Cf V T k
 |0=>rfl
 |k+1=>by unfold Cf;rw[lnM V T k,CZ,kM]
theorem N3 (hp:jr n E V L=0)(h:nS n E L T):iA n E V L (T.map iE)=iA n E V L T:=by
 unfold iA;rw[adx hp h,lnM]
theorem ahj (hp:jr n E V L=0)(h:nS n E L T):r5 n E V L (T.map iE) S=r5 n E V L T S:=by
 unfold r5 qD lM;rw[N3 hp h]
theorem ahk (hp:jr n E V L=0)(h:nS n E L T):vb n E V L (T.map iE) S=vb n E V L T S:=by
 unfold vb;rw[ahj hp h]
end
theorem ajg {K:Int}{W:List ByteArray}{E:List lG}{V L:List Int}{T S:List (List Int)}(h:k9 K W E V L T S=0):k9 K W E V L (T.map iE) S=0:=by
 rcases ze h with hk|hk
 .obtain⟨hc,hh⟩:=Ay h hk;obtain⟨hp,_,hT⟩:=rD h hk;have yy:jQ K W E V L (T.map iE) S=((((W.length:Int),yA E),((V,L),(T.map iE,S))),0):=by
   unfold jQ at hc ⊢;rw[ak hk] at hc ⊢;split at hc
   .rename_i q;rw[ak q]
   have q:(1:Int)=0:=aG (·.2) hc;omega
  have hh':=(ahk (S:=S) hp hT).trans hh;unfold k9 at h ⊢;split at h
  .cases h
  rename_i q1;rw[ah q1];split at h
  .cases h
  rename_i q2;rw[ah q2];split at h
  .cases h
  rename_i q3;rw[ah q3,ah (by omega),yy,ah (by simp)];exact hh'
 have ht:T.length=0:=by
  have hp:=(xP h hk).1;unfold jN at hp;rw[ak hk] at hp;split at hp
  .cases hp
  rename_i q;omega
 rw[bV ht] at h ⊢;exact h
theorem BH {f:Int->Int}{ds:List Int}{N:Nat}{w:Int×List Int}:∀ {k:Nat},k<=ds.length->(w∈S9 f ds N k↔∃j,j<k/\xO f (ds.getD j 0) (p6 f (ds.getD j 0) N)=true/\w=(ds.getD j 0,xN f (ds.getD j 0) (p6 f (ds.getD j 0) N)))
 |0,_=>⟨λh=>(by cases h),λ⟨j,h,_⟩=>(by omega)⟩
 |k+1,hk=>by
  have ih:=BH (f:=f) (ds:=ds) (N:=N) (w:=w) (k:=k) (by omega);unfold S9
  by_cases q:xO f (ds.getD k 0) (p6 f (ds.getD k 0) N)=true
  .rw[ak q,aI,ih,av];constructor
   .rintro(⟨j,h1,h2⟩|e)
    .exact⟨j,by omega,h2⟩
    exact⟨k,cQ _,q,e⟩
   rintro⟨j,h1,h2,h3⟩;rcases dw.1 h1 with z|z
   .exact .inl ⟨j,z,h2,h3⟩
   subst z;exact .inr h3
  rw[ah q,ih];constructor
  .rintro⟨j,h1,h2⟩;exact⟨j,by omega,h2⟩
  rintro⟨j,h1,h2,h3⟩;rcases dw.1 h1 with z|z
  .exact⟨j,z,h2,h3⟩
  subst z;exact absurd h2 q
def OnW (w:Int×List Int)(d:Int):Prop:=d∈w.2\/(w.2.length=0/\w.1=d)
section
variable {f:Int->Int}{D:List Int}
theorem ahl (hc:∀x∈D,f x∈D)(hi:∀x∈D,∀y∈D,f x=f y->x=y){w u:Int×List Int}{d:Int}(hw:w∈S9 f D D.length D.length)(hu:u∈S9 f D D.length D.length)(h1:d∈w.2)(h2:d∈u.2):w=u:=by
 obtain⟨i,i1,i2,rfl⟩:=(BH (ay _)).1 hw;obtain⟨j,j1,j2,rfl⟩:=(BH (ay _)).1 hu;have W4:D.getD i 0∈D:=iL i1;have hxj:D.getD j 0∈D:=iL j1;generalize D.getD i 0=x at*
 generalize D.getD j 0=y at*
 have h1:=(qG hc hi W4).1 h1;have h2:=(qG hc hi hxj).1 h2;have key:∀x y,x∈D->y∈D->tY f x y->xO f x (p6 f x D.length)=true->x<=y:=λx y hx hy ho hl=>by
  have:=(qG hc hi hx).2 ho;unfold xN at this;obtain⟨k,hk,e⟩:=aN.1 this;have hk:=cg.1 hk
  by_cases z:k=0
  .subst z;exact Int.le_of_eq e
  have:=yt.1 hl k (by omega) hk;rw[e] at this;omega
 have a:=key x y W4 hxj (h1.trans (h2.symm hc hi hxj)) i2;have b:=key y x hxj W4 (h2.trans (h1.symm hc hi W4)) j2;rw[show x=y by omega]
theorem ahm (ha:FA D)(hc:∀x∈D,f x∈D)(hi:∀x∈D,∀y∈D,f x=f y->x=y){d:Int}(hd:d∈D):∃w∈S9 f D D.length D.length,d∈w.2:=by
 classical
 obtain⟨k,hk,e⟩:=iV (z:=(0:Int)).1 hd;obtain⟨i,_,hik,hp⟩:=PD (N:=D.length) (p:=λi=>decide (tY f (D.getD i 0) d)) hk (bN (by rw[e];exact tY.refl d));rename_i hfi;have hp:=aP hp;have W4:D.getD i 0∈D:=iL (by omega);obtain⟨p0,p1,p2,p3⟩:=BA hc hi W4;refine⟨_,(BH (ay _)).2 ⟨i,by omega,yt.2 λj j0 j1=>?_,rfl⟩,(qG hc hi W4).2 hp⟩;have hm:=tN hc W4 j;obtain⟨q,hq,eq⟩:=iV (z:=(0:Int)).1 hm;have ho:tY f (D.getD q 0) d:=by rw[eq];exact(tY.symm hc hi W4 ⟨j,rfl⟩).trans hp
 have hle:i<=q:=by
  obtain⟨i',e',hq',_⟩:=PD (N:=D.length) (p:=λi=>decide (tY f (D.getD i 0) d)) hq (bN ho);have:(i:Int)=(i':Int):=hfi.symm.trans e';omega
 have mc:q≠i:=λz=>p3 j j0 j1 (by rw[<-eq,z]);rw[<-eq];rw[getD_eq (show i<D.length by omega),getD_eq (show q<D.length by omega)];exact akB.1 ha _ _ (by omega) (by omega) (by omega)
end
section
variable {n:Int}{E:List (Int×Int)}{V L:List Int}{T S:List (List Int)}
theorem Jh {V:List Int}{T:List (List Int)}:∀ {k j:Nat},j<k->(T.getD (V.getD (V.length-1-j) 0).toNat []).length=0->(-1-V.getD (V.length-1-j) 0,[])∈Cf V T k
 |k+1,j,hj,h=>by
  unfold Cf;rcases dw.1 hj with z|z
  .split
   .exact aS _ (Jh z h)
   exact Jh z h
  subst z;rw[ak h];exact bl _ (av.2 rfl)
structure WkU (L V:List Int)(T:List (List Int))(W:List (Int×List Int)):Prop where
 ex:∀d,jy L d->∃w∈W,d∈w.2
 lone:∀v∈V,(T.getD v.toNat []).length=0->(-1-v,[])∈W
 uq:∀w∈W,∀u∈W,∀d,OnW w d->OnW u d->w=u
 hd:∀w∈W,∀d,w.1=d\/d∈w.2->OnW w d
theorem ahn (h:(iA n E V L T).2=0):WkU L V T (iA n E V L T).1/\∀w∈(iA n E V L T).1,∀d∈w.2,FI E T d∈w.2:=by
 have hk:=Wv h;have h0:=h;rw[sH] at h;obtain⟨hp,hT,_⟩:=y7 h;obtain⟨_,hV,hL,_⟩:=jH hp;have hD:∀x∈m7 L L.length,jy L x:=λx hx=>(mH x).1 hx;have hc:∀x∈m7 L L.length,FI E T x∈m7 L L.length:=λx hx=>by
  rw[za hp hT (hD x hx)];exact(mH _).2 (uZ hp hT (hD x hx)).1
 have hi:∀x∈m7 L L.length,∀y∈m7 L L.length,FI E T x=FI E T y->x=y:=λx hx y hy e=>by
  rw[za hp hT (hD x hx),za hp hT (hD y hy)] at e;exact Li hp hT (hD x hx) (hD y hy) e
 have ha:=NW (iK.1 hL).1 (ay _);rw[R5 h] at hk ⊢;have JJ:∀w∈Cf V T V.length,w.2.length=0/\w.1<0:=λw hw=>by
  have:=Ao (ay _) w hw;have:=(iK.1 hV).2 _ this.2;exact⟨by omega,by omega⟩
 have hrw:∀w∈S9 (FI E T) (m7 L L.length) (m7 L L.length).length (m7 L L.length).length,w.1∈w.2/\∀d∈w.2,0<=d:=λw hw=>by
  obtain⟨i,i1,i2,rfl⟩:=(BH (ay _)).1 hw;have hx:(m7 L L.length).getD i 0∈m7 L L.length:=iL i1;refine⟨(qG hc hi hx).2 (tY.refl _),λd hd=>?_⟩;obtain⟨k,e⟩:=(qG hc hi hx).1 hd;have:=tN hc hx k;rw[e] at this;exact(u6 hp (hD _ this)).2.1
 refine⟨⟨λd hd=>?_,λv hv hT0=>?_,λw hw u hu d h1 h2=>?_,λw hw d hwd=>?_⟩,λw hw d hd=>?_⟩
 .obtain⟨w,hw,hx⟩:=ahm ha hc hi ((mH d).2 hd);exact⟨w,bl _ hw,hx⟩
 .obtain⟨j,hj,e⟩:=iV (z:=(0:Int)).1 hv;have:=Jh (V:=V) (T:=T) (k:=V.length) (j:=V.length-1-j) (by omega);rw[show V.length-1-(V.length-1-j)=j by omega,e] at this;exact aS _ (this hT0)
 .rcases aI.1 hw with a|a<;>rcases aI.1 hu with b|b
  .have Fw:=(JJ w a).1;have YK:=(JJ u b).1;have e1:w.1=d:=h1.elim (λz=>by rw[bV Fw] at z;cases z) amF;have e2:u.1=d:=h2.elim (λz=>by rw[bV YK] at z;cases z) amF;exact alX (e1.trans e2.symm) ((bV Fw).trans (bV YK).symm)
  .exfalso;have Fw:=JJ w a;have e1:w.1=d:=h1.elim (λz=>by rw[bV Fw.1] at z;cases z) amF;have:=(hrw u b);have:=h2.elim (λz=>this.2 d z) λz=>by rw[bV z.1] at this;cases this.1
   omega
  .exfalso;have Fw:=JJ u b;have e1:u.1=d:=h2.elim (λz=>by rw[bV Fw.1] at z;cases z) amF;have:=(hrw w a);have:=h1.elim (λz=>this.2 d z) λz=>by rw[bV z.1] at this;cases this.1
   omega
  have e1:d∈w.2:=h1.elim id λz=>by have:=(hrw w a).1;rw[bV z.1] at this;cases this
  have e2:d∈u.2:=h2.elim id λz=>by have:=(hrw u b).1;rw[bV z.1] at this;cases this
  exact ahl hc hi a b e1 e2
 .rcases hwd with z|z
  .rcases aI.1 hw with a|a
   .exact .inr ⟨(JJ w a).1,z⟩
   exact .inl (z▸(hrw w a).1)
  exact .inl z
 rcases aI.1 hw with a|a
 .rw[bV (JJ w a).1] at hd;cases hd
 obtain⟨i,i1,i2,rfl⟩:=(BH (ay _)).1 a;have hx:(m7 L L.length).getD i 0∈m7 L L.length:=iL i1;exact(qG hc hi hx).2 (((qG hc hi hx).1 hd).trans ⟨1,rfl⟩)
end
def Ji (n:Nat)(tu:List (Int×List Int)):List (List Int):=(bH n).map λ(v:Nat)=>match iC tu (v:Int) with|some l=>iE l|none=>[]
def Sm (l:List (Int×List Int))(m:List (Int×Int)):List (Int×Int):=l.foldl (λm w=>w.2.foldl (λm d=>jM m d w.1) m) m
theorem acT (k:Int):∀(l:List Int) (m:List (Int×Int)) {x c:Int},iC (l.foldl (λm d=>jM m d k) m) x=some c->(x∈l/\c=k)\/iC m x=some c
 |[],m,x,c,h=>.inr h
 |d::l,m,x,c,h=>by
  rcases acT k l _ h with⟨a,b⟩|q
  .exact .inl ⟨aE _ a,b⟩
  rw[jI] at q;split at q
  .rename_i e;subst e;exact .inl ⟨aA,(bz q).symm⟩
  exact .inr q
theorem W5:∀(l:List (Int×List Int)) (m:List (Int×Int)) {x c:Int},iC (Sm l m) x=some c->(∃w∈l,x∈w.2/\c=w.1)\/iC m x=some c
 |[],m,x,c,h=>.inr h
 |w::l,m,x,c,h=>by
  rcases W5 l _ h with⟨u,a,b⟩|q
  .exact .inl ⟨u,aE _ a,b⟩
  rcases acT _ _ _ q with⟨a,b⟩|q
  .exact .inl ⟨w,aA,a,b⟩
  exact .inr q
section
variable {K:Int}{W:List ByteArray}{E:List lG}{V L:List Int}{T S:List (List Int)}
theorem aho (h:k9 K W E V L T S=0)(hk:K=0){tu:List (Int×List Int)}(ht:∀v,iC tu v=if v∈V/\hE E L v=true then some (iE (T.getD v.toNat [])) else none):Ji W.length tu=T.map iE:=by
 obtain⟨hp,_,hT⟩:=rD h hk;obtain⟨_,hV,hL,_⟩:=jH hp;have hl:=hT.len;refine dZ (by unfold Ji;simp;omega) λv h1 h2=>?_;unfold Ji at h1 ⊢;rw[aV] at h2;rw[akM,akM,alq];have e:T[v]=T.getD v []:=(getD_eq h2 []).symm;rw[e,ht]
 by_cases q:(v:Int)∈V/\hE E L (v:Int)=true
 .rw[ak q,cH];exact wg _
 rw[ah q];have:T.getD v []=[]:=by
  refine List.eq_nil_iff_forall_not_mem.2 λd hd=>q ?_;have hv:(v:Int)∈S7 E L:=by
   obtain⟨d1,d2⟩:=(hT.mem _ h2 d).1 hd;have he:d/2∈L:=d1;have e1:=(iK.1 hL).2 _ he;rw[oN] at e1;have hg:(yA E).getD (d/2).toNat (0,0)=((E.getD (d/2).toNat kO).2.1,(E.getD (d/2).toNat kO).2.2.1):=by
    rw[getD_eq (by rw[oN];omega),getD_eq (by omega)];unfold yA;rw[akM]
   refine cy.2 ⟨d/2,he,?_⟩;unfold iO at d2;rw[hg] at d2;split at d2
   .exact aC.2 (.inl d2.symm)
   exact aC.2 (.inr (av.2 d2.symm))
  exact⟨P8 h hk hv,bN hv⟩
 rw[this];rfl
theorem aba (h:k9 K W E V L T S=0)(hk:K=0):∀j,j<S.length->FA (S.getD j []):=λj hj=>by
 obtain⟨_,E8,_⟩:=rD h hk;obtain⟨_,z,hz,_⟩:=oE E8;exact PF (BC hz j hj)
theorem Sn (h:k9 K W E V L T S=0)(hk:K=0):∀j,0<j->j<S.length->(S.getD (j-1) []).getD 0 0<(S.getD j []).getD 0 0:=λj h0 hj=>by
 obtain⟨_,E8,_⟩:=rD h hk;obtain⟨_,z,hz,_⟩:=oE E8;exact EA hz j h0 hj
theorem W6 (h:k9 K W E V L T S=0)(hk:K=0){x c:Int}(hx:x∈S.flatten)(hc:iC (Sm (iA (W.length:Int) (yA E) V L (T.map iE)).1 []) x=some c):c=x:=by
 obtain⟨hp,E8,hT⟩:=rD h hk;rw[N3 hp hT] at hc;obtain⟨w,hm,e⟩:=EE E8 hx;obtain⟨hu,_⟩:=ahn (rB (oE E8).1);rcases W5 _ _ hc with⟨u,a,b,r⟩|q
 .rw[hu.uq w hm u a x (hu.hd w hm x (.inl e)) (hu.hd u a x (.inr b))] at e;rw[r,e]
 cases q
end
structure ua (l:List (List Int)):Prop where
 len:(l.length:Int)<=1000000
 ne:∀i:Nat,i<l.length->0<(l.getD i []).length
 bd:∀i:Nat,i<l.length->-10000000<=(l.getD i []).getD 0 0/\(l.getD i []).getD 0 0<=10000000
 asc:∀i:Nat,0<i->i<l.length->(l.getD (i-1) []).getD 0 0<(l.getD i []).getD 0 0
theorem ua.lt {l:List (List Int)}(h:ua l):∀(k i:Nat),i+k+1<l.length->(l.getD i []).getD 0 0<(l.getD (i+k+1) []).getD 0 0
 |0,i,hi=>h.asc (i+1) (al1 _) hi
 |k+1,i,hi=>amA (h.lt k i (by omega)) (h.asc (i+(k+1)+1) (al1 _) hi)
theorem ua.two {l:List (List Int)}(h:ua l){i j:Int}(h0:0<=i)(h1:i<j)(h2:j<(l.length:Int)):(l.getD i.toNat []).getD (0:Int).toNat 0<(l.getD j.toNat []).getD (0:Int).toNat 0:=by
 have:=h.lt (j.toNat-i.toNat-1) i.toNat (by omega);rwa[show i.toNat+(j.toNat-i.toNat-1)+1=j.toNat by omega] at this
theorem ua.YU {l:List (List Int)}(h:ua l){i:Int}(h0:0<=i)(h2:i<(l.length:Int)):0<((l.getD i.toNat []).length:Int)/\-10000000<=(l.getD i.toNat []).getD (0:Int).toNat 0/\(l.getD i.toNat []).getD (0:Int).toNat 0<=10000000:=by
 have a:=h.ne i.toNat (by omega);exact⟨by omega,h.bd i.toNat (by omega)⟩
def Tb (n:Nat)(tu:List (Int×List Int))(lf:Int->Bool):List (List Int):=(bH n).map λ(v:Nat)=>match iC tu (v:Int) with
 |some l=>if lf (v:Int) then[] else iE l
 |none=>[]
theorem Jj (n:Nat)(tu:List (Int×List Int))(lf:Int->Bool):(Tb n tu lf).length=n:=by unfold Tb;rw[aV,ak7]
theorem Sq (n:Nat)(tu:List (Int×List Int)):cO n []=Tb n tu λz=>(iC tu z).isSome:=by
 unfold Tb;apply dZ (by simp);intro i h1 h2;simp only[List.getElem_replicate,akM,alq];cases iC tu (i:Int)<;>rfl
theorem abb {n:Nat}{tu:List (Int×List Int)}{lf:Int->Bool}(h:∀x,lf x=false):Tb n tu lf=Ji n tu:=by
 unfold Tb Ji;refine dg λi _=>?_;cases iC tu (i:Int) with
 |none=>rfl
 |some l=>show(if lf (i:Int) then _ else _)=_;rw[h];rfl
def tuV (tu:List (Int×List Int))(lf:Int->Bool)(i:Int):List Int:=match iC tu i with
 |some l=>if lf i then[] else iE l
 |none=>[]
theorem W7 {n:Nat}{tu:List (Int×List Int)}{lf:Int->Bool}{i:Nat}(h:i<(Tb n tu lf).length):(Tb n tu lf)[i]'h=tuV tu lf (i:Int):=by
 simp[Tb,tuV]
theorem W8 {n:Nat}{tu:List (Int×List Int)}{lf:Int->Bool}{k:Int}{l:List Int}(h0:0<=k)(h1:k<(n:Int))(hl:iC tu k=some l):(Tb n tu lf).set k.toNat (iE l)=Tb n tu λz=>lf z && !decide (z=k):=by
 apply dZ (by rw[List.length_set,Jj,Jj]);intro i h2 h3;rw[alc,W7,W7];unfold tuV;split
 .rename_i e;have e:(i:Int)=k:=by omega
  simp only[e,hl];simp
 rename_i e;have e:¬(i:Int)=k:=by omega
 simp[e]
structure TuI (n:Nat)(tu:List (Int×List Int))(lf:Int->Bool)(tv:List (List Int)):Prop where
 eq:tv=Tb n tu lf
 key:∀x,lf x=true->(iC tu x).isSome=true
theorem TuI.start (n:Nat)(tu:List (Int×List Int)):TuI n tu (λz=>(iC tu z).isSome) (cO n []):=⟨Sq n tu,λ_ h=>h⟩
theorem TuI.step {n:Nat}{tu:List (Int×List Int)}{lf:Int->Bool}{tv:List (List Int)}(h:TuI n tu lf tv){k:Int}{l:List Int}(h0:0<=k)(h1:k<(n:Int))(hl:iC tu k=some l):TuI n tu (λz=>lf z && !decide (z=k)) (tv.set k.toNat (iE l)):=
 ⟨by rw[h.eq];exact W8 h0 h1 hl,λx hx=>h.key x (by rw[aQ] at hx;exact hx.1)⟩
theorem TuI.fin {n:Nat}{tu:List (Int×List Int)}{lf:Int->Bool}{tv:List (List Int)}(h:TuI n tu lf tv)(hl:∀x,lf x=false):tv=Ji n tu:=h.eq.trans (abb hl)
theorem W9 {W:List (Int×List Int)}{i:Int}(h0:0<=i)(h1:i<(W.length:Int)):Sm (W.take (i+1).toNat) []=(W.getD i.toNat (0,[])).2.foldl (λm d=>jM m d (W.getD i.toNat (0,[])).1) (Sm (W.take i.toNat) []):=by
 have e:(i+1).toNat=i.toNat+1:=by omega
 have hn:i.toNat<W.length:=by omega
 rw[e,eC hn];unfold Sm;rw[dm,aH,aR hn];rfl
def kyD (k:Int)(m:List (Int×Int))(l:List Int)(j:Int):List (Int×Int):=(l.take j.toNat).foldl (λm d=>jM m d k) m
theorem Xa {k:Int}{m:List (Int×Int)}{l:List Int}{j:Int}(h0:0<=j)(h1:j<(l.length:Int)):kyD k m l (j+1)=jM (kyD k m l j) (l.getD j.toNat 0) k:=by
 have e:(j+1).toNat=j.toNat+1:=by omega
 have hn:j.toNat<l.length:=by omega
 unfold kyD;rw[e,eC hn,dm,aH,aR hn];rfl
theorem abc {k:Int}{m:List (Int×Int)}{l:List Int}{j:Int}(h:¬j<(l.length:Int))(h1:j<=(l.length:Int)):kyD k m l j=l.foldl (λm d=>jM m d k) m:=by
 unfold kyD;rw[cM (by omega)]
theorem ET {k:Int}:∀(l:List Int) (m:List (Int×Int)),(l.foldl (λm d=>jM m d k) m).length<=m.length+l.length
 |[],m=>ay _
 |d::l,m=>by
  have h1:=ET (k:=k) l (jM m d k);have h2:=mY m d k;show(l.foldl (λm d=>jM m d k) (jM m d k)).length<=m.length+(l.length+1);omega
theorem abd {k:Int}{m:List (Int×Int)}{l:List Int}{j:Int}:(kyD k m l j).length<=m.length+l.length:=by
 have h1:=ET (k:=k) (l.take j.toNat) m;have h2:(l.take j.toNat).length<=l.length:=by rw[aX];omega
 unfold kyD;omega
theorem Xb {l:List Int}{i:Nat}{x:Int}(h:l.getD i 0=x):l.set i x=l:=by
 apply dZ (by simp);intro j h1 h2;rw[alc];split
 .rename_i e;subst e;rw[aH,aR h2] at h;exact h.symm
 rfl
theorem Sr {l:List (List Int)}{i:Nat}{x:List Int}(h:l.getD i []=x):l.set i x=l:=by
 apply dZ (by simp);intro j h1 h2;rw[alc];split
 .rename_i e;subst e;rw[aH,aR h2] at h;exact h.symm
 rfl
theorem ajh:jg aq 10 [(true,DS)] [DS] (λx=>(N_ x.1.2.2.1).length<=1000000) (λx=>(((I_ x.1.1),((B_ x.1.2.1),((N_ x.1.2.2.1),(((J_ x.1.2.2.2.1.1),(J_ x.1.2.2.2.1.2)),((K_ x.1.2.2.2.2.1),(K_ x.1.2.2.2.2.2)))))),())):=by
 refine jl f10 52 [] func10 λo x hd _ _ h=>?_;obtain⟨⟨(K:Int),⟨(W:List ByteArray),⟨(E:List lG),⟨⟨(V:List Int),(L:List Int)⟩,⟨(T:List (List Int)),(S:List (List Int))⟩⟩⟩⟩⟩,_⟩:=x;have r6:=E7 h 0 W;have qg:=Gw h 1 E;have pV:=mU h 2 V;have wK:=mU h 3 L;have Jk:=rG h 4 T;have N4:=rG h 5 S;change E.length<=1000000 at hd;have hE:=hd;refine tR [] h ?_;refine mR (List (ByteArray×Int×Int×Int)) E (λi oo=>⟨[(1,ep 0),(2,ep 1),(3,ep 2),(4,en i)],[(0,some (.box 31 [.v (.int .i64 K),.own 3,.own 4,.own 5,.own 6,.own 7,.own 8])),(1,some (.box 39 [.v (.int .i64 0),.v (.slice none 0 0),.v (.slice none 0 0),.v (.slice none 0 0),.v (.slice none 0 0),.v (.slice none 0 0),.v (.slice none 0 0)])),(2,some (.box 39 [.v (.int .i64 K),.own 3,.own 9,.own 5,.own 6,.own 7,.own 8])),(3,some (.ro .str W)),(4,some (.ro uT E)),(5,some (.ro .int V)),(6,some (.ro .int L)),(7,some (.ro (.list .int) T)),(8,some (.ro (.list .int) S)),(9,some (.row 84 uT oo))],10⟩) (λi oo=>oo=E.take i.toNat) [] [(0,some 6),(1,some 4102),(2,some 45062),(3,some 0),(4,some 1),(5,some 2),(6,some 3),(7,some 4),(8,some 5),(9,none)] rfl λi oo _ kU h0 h1 h2=>?_;refine jc ?_;refine iY (p:=i<(E.length:Int)) (λq1=>?_) λq1=>?_
 .have JK:oo.length<=E.length:=by rw[h2,aX];omega
  refine jk (pr:=(jz i E.length)/\(jz i E.length)/\(jz i E.length)/\(jz i E.length)/\(oo.length+([(E.getD i.toNat eH)]:List lG).length<=2147483647)/\(jm .i64 (i+1))) ⟨bx,bx,bx,bx,ln,jK⟩ ?_;exact mQ (kU (oo++([(E.getD i.toNat eH)]:List lG)) (rk [0,1,2,3,4,5,6,7,8,135178]) (by rw[qE (d:=kO) h0 (by omega),h2]))
 refine jc ?_;exact jb (((K,(W,(oo,((V,L),(T,S))))):Int×(List ByteArray)×(List lG)×((List Int)×List Int)×(List (List Int))×List (List Int)),()) (by rw[h2,tH q1]<;>rfl)
def aji:kG aq:=plain ajh
theorem abe:jg aq 49 [(false,(.list (.list .int)))] [(.list (.list .int))] (λx=>jo (K_ x.1)) (λx=>((K_ x.1),())):=by
 refine jl f49 23 [Px] func49 λo x hd _ _ h=>?_;obtain⟨(l:List (List Int)),_⟩:=x;have r6:=rG h 0 l;change jo l at hd;have m9:=hd;have abf:=m9.1;refine go (pr:=(0<=(l.length:Int)/\(l.length:Int)<=(l.length:Int)/\(l.length:Int)<=2147483647)) [] h (⟨by omega,by omega,by omega⟩) ?_;refine mR (List (List Int)) l (λi oo=>⟨[(3,eo 0),(9,eo 1),(10,en (l.length:Int)),(11,en i)],[(0,some (.row 24 (.list .int) oo)),(1,some (.ar (.list .int) l))],2⟩) (λi oo=>oo=FE l i.toNat) (cO (l.length:Int).toNat []) (rk [12289,0]) (adW l) λi oo _ kU h0 h1 h2=>?_;refine jc ?_;refine iY (p:=i<(l.length:Int)) (λq1=>?_) λq1=>?_
 .have JJ:=m9.2 _ (iL (l:=l) (i:=i.toNat) (d:=([]:List Int)) (by omega));have JK:oo.length=l.length:=by rw[h2];exact V3 h0 (by omega)
  refine jk (pr:=(jz i l.length)/\((l.getD i.toNat []).length<=1000000)/\(jz i oo.length)/\(jz i oo.length)/\(jm .i64 (i+1))) ⟨bx,by omega,bx,bx,jK⟩ ?_;exact mQ (kU (oo.set i.toNat (l.getD i.toNat [])) (ir 2) (by rw[h2];exact V4 h0 (by omega)))
 refine jc ?_;exact jb ((oo:List (List Int)),()) (by rw[h2,V5 q1])
def abg:kG aq:=plain abe
theorem Xc:jg aq 20 [(false,DS)] [(.pair AL (.pair zq plT)),.int] (λx=>(N_ x.1.2.2.1).length<=1000000/\(J_ x.1.2.2.2.1.1).length<=1000000/\(J_ x.1.2.2.2.1.2).length<=1000000/\jo (K_ x.1.2.2.2.2.1)/\jo (K_ x.1.2.2.2.2.2)) (λx=>((jQ (I_ x.1.1) (B_ x.1.2.1) (N_ x.1.2.2.1) (J_ x.1.2.2.2.1.1) (J_ x.1.2.2.2.1.2) (K_ x.1.2.2.2.2.1) (K_ x.1.2.2.2.2.2)).1,(jQ (I_ x.1.1) (B_ x.1.2.1) (N_ x.1.2.2.1) (J_ x.1.2.2.2.1.1) (J_ x.1.2.2.2.1.2) (K_ x.1.2.2.2.2.1) (K_ x.1.2.2.2.2.2)).2,())):=by
 refine jl f20 61 [Px,abg] func20 λo x hd _ _ h=>?_;obtain⟨⟨(K:Int),⟨(W:List ByteArray),⟨(E:List lG),⟨⟨(V:List Int),(L:List Int)⟩,⟨(T:List (List Int)),(S:List (List Int))⟩⟩⟩⟩⟩,_⟩:=x;have r6:=E7 h 0 W;have qg:=Gw h 1 E;have pV:=mU h 2 V;have wK:=mU h 3 L;have Jk:=rG h 4 T;have N4:=rG h 5 S;change E.length<=1000000/\V.length<=1000000/\L.length<=1000000/\jo T/\jo S at hd;have⟨hE,hV,hL,hT,hS⟩:=hd;refine tR [] h ?_;refine oq (p:=K=0) (λq1=>?_) λq1=>?_
 .refine jc ?_;exact jb (((((0:Int),[]),(([],[]),([],[]))):(Int×List (Int×Int))×((List Int)×List Int)×(List (List Int))×List (List Int)),((16:Int):Int),()) (by rw[Er q1]<;>rfl)
 refine jc ?_;refine mR (List (Int×Int)) E (λi ge=>⟨[(1,ep 0),(2,ep 1),(4,ep 2),(17,eo 3),(18,en (E.length:Int)),(19,en i)],[(0,some (.box 39 [.v (.int .i64 K),.own 4,.own 3,.own 5,.own 6,.own 7,.own 8])),(1,some (.box 57 [.v (.int .i64 0),.v (.slice none 0 0),.v (.slice none 0 0),.v (.slice none 0 0),.v (.slice none 0 0),.v (.slice none 0 0)])),(2,some (.box 57 [.v (.int .i64 (W.length:Int)),.own 9,.v (.slice none 0 0),.v (.slice none 0 0),.v (.slice none 0 0),.v (.slice none 0 0)])),(3,some (.ar uT E)),(4,some (.ar .str W)),(5,some (.ar .int V)),(6,some (.ar .int L)),(7,some (.ar (.list .int) T)),(8,some (.ar (.list .int) S)),(9,some (.row 70 Be ge))],10⟩) (λi ge=>ge=yA (E.take i.toNat)/\∀j:Nat,(j:Int)<i->(E.getD j kO).2.2.2=0) [] [(0,some 6),(1,some 4102),(2,some 45062),(3,some 1),(4,some 0),(5,some 2),(6,some 3),(7,some 4),(8,some 5),(9,none)] (⟨rfl,λj hj=>by omega⟩) λi ge _ kU h0 h1 hI=>?_;have⟨h2,h3⟩:=hI;refine jc ?_;refine iY (p:=i<(E.length:Int)) (λq2=>?_) λq2=>?_
 .have JK:ge.length<=E.length:=by rw[h2];unfold yA;rw[aV,aX];omega
  refine jk (pr:=(jz i E.length)) bx ?_;refine oq (p:=(((E.getD i.toNat eH).2).2).2=0) (λq3=>?_) λq3=>?_
  .refine jc ?_;exact jb (((((0:Int),[]),(([],[]),([],[]))):(Int×List (Int×Int))×((List Int)×List Int)×(List (List Int))×List (List Int)),((1:Int):Int),()) (by rw[Lx q1 h0 q2 q3]<;>rfl)
  refine jk (pr:=(ge.length+([(((E.getD i.toNat eH).2).1,(((E.getD i.toNat eH).2).2).1)]:List (Int×Int)).length<=2147483647)/\(jm .i64 (i+1))) ⟨ln,jK⟩ ?_;exact mQ (kU (ge++([(((E.getD i.toNat eH).2).1,(((E.getD i.toNat eH).2).2).1)]:List (Int×Int))) (rk [0,1,2,3,4,5,6,7,8,69642]) ⟨by rw[Lw h0 (by omega),h2],λj hj=>if z:(j:Int)<i then h3 j z else by rw[show j=i.toNat by omega];exact q3⟩)
 refine jk (pr:=(V.length<=1000000)/\(L.length<=1000000)/\(jo T)/\(jo S)) ⟨by omega,by omega,by assumption,by assumption⟩ ?_;exact jb (((((W.length:Int),ge),((V,L),(T,S))):(Int×List (Int×Int))×((List Int)×List Int)×(List (List Int))×List (List Int)),((0:Int):Int),()) (by rw[Lz q1 q2 h3,h2,tH q2]<;>rfl)
noncomputable def aep:kG aq:=plain Xc
theorem abh:jg aq 21 [(true,DS)] [(.pair AL (.pair zq plT)),.int] (λx=>(N_ x.1.2.2.1).length<=1000000/\(J_ x.1.2.2.2.1.1).length<=1000000/\(J_ x.1.2.2.2.1.2).length<=1000000/\jo (K_ x.1.2.2.2.2.1)/\jo (K_ x.1.2.2.2.2.2)) (λx=>((jQ (I_ x.1.1) (B_ x.1.2.1) (N_ x.1.2.2.1) (J_ x.1.2.2.2.1.1) (J_ x.1.2.2.2.1.2) (K_ x.1.2.2.2.2.1) (K_ x.1.2.2.2.2.2)).1,(jQ (I_ x.1.1) (B_ x.1.2.1) (N_ x.1.2.2.1) (J_ x.1.2.2.2.1.1) (J_ x.1.2.2.2.1.2) (K_ x.1.2.2.2.2.1) (K_ x.1.2.2.2.2.2)).2,())):=by
 refine jl f21 55 [] func21 λo x hd _ _ h=>?_;obtain⟨⟨(K:Int),⟨(W:List ByteArray),⟨(E:List lG),⟨⟨(V:List Int),(L:List Int)⟩,⟨(T:List (List Int)),(S:List (List Int))⟩⟩⟩⟩⟩,_⟩:=x;have r6:=E7 h 0 W;have qg:=Gw h 1 E;have pV:=mU h 2 V;have wK:=mU h 3 L;have Jk:=rG h 4 T;have N4:=rG h 5 S;change E.length<=1000000/\V.length<=1000000/\L.length<=1000000/\jo T/\jo S at hd;have⟨hE,hV,hL,hT,hS⟩:=hd;refine tR [] h ?_;refine oq (p:=K=0) (λq1=>?_) λq1=>?_
 .refine jc ?_;exact jb (((((0:Int),[]),(([],[]),([],[]))):(Int×List (Int×Int))×((List Int)×List Int)×(List (List Int))×List (List Int)),((16:Int):Int),()) (by rw[Er q1]<;>rfl)
 refine jc ?_;refine mR (List (Int×Int)) E (λi ge=>⟨[(1,ep 0),(2,ep 1),(4,ep 2),(5,en i)],[(0,some (.box 31 [.v (.int .i64 K),.own 3,.own 4,.own 5,.own 6,.own 7,.own 8])),(1,some (.box 57 [.v (.int .i64 0),.v (.slice none 0 0),.v (.slice none 0 0),.v (.slice none 0 0),.v (.slice none 0 0),.v (.slice none 0 0)])),(2,some (.box 57 [.v (.int .i64 (W.length:Int)),.own 9,.own 5,.own 6,.own 7,.own 8])),(3,some (.ro .str W)),(4,some (.ro uT E)),(5,some (.ro .int V)),(6,some (.ro .int L)),(7,some (.ro (.list .int) T)),(8,some (.ro (.list .int) S)),(9,some (.row 70 Be ge))],10⟩) (λi ge=>ge=yA (E.take i.toNat)/\∀j:Nat,(j:Int)<i->(E.getD j kO).2.2.2=0) [] [(0,some 6),(1,some 4102),(2,some 49158),(3,some 0),(4,some 1),(5,some 2),(6,some 3),(7,some 4),(8,some 5),(9,none)] (⟨rfl,λj hj=>by omega⟩) λi ge _ kU h0 h1 hI=>?_;have⟨h2,h3⟩:=hI;refine jc ?_;refine iY (p:=i<(E.length:Int)) (λq2=>?_) λq2=>?_
 .have JK:ge.length<=E.length:=by rw[h2];unfold yA;rw[aV,aX];omega
  refine jk (pr:=(jz i E.length)) bx ?_;refine oq (p:=(((E.getD i.toNat eH).2).2).2=0) (λq3=>?_) λq3=>?_
  .refine jc ?_;exact jb (((((0:Int),[]),(([],[]),([],[]))):(Int×List (Int×Int))×((List Int)×List Int)×(List (List Int))×List (List Int)),((1:Int):Int),()) (by rw[Lx q1 h0 q2 q3]<;>rfl)
  refine jk (pr:=(jz i E.length)/\(jz i E.length)/\(ge.length+([(((E.getD i.toNat eH).2).1,(((E.getD i.toNat eH).2).2).1)]:List (Int×Int)).length<=2147483647)/\(jm .i64 (i+1))) ⟨bx,bx,ln,jK⟩ ?_;exact mQ (kU (ge++([(((E.getD i.toNat eH).2).1,(((E.getD i.toNat eH).2).2).1)]:List (Int×Int))) (rk [0,1,2,3,4,5,6,7,8,118794]) ⟨by rw[Lw h0 (by omega),h2],λj hj=>if z:(j:Int)<i then h3 j z else by rw[show j=i.toNat by omega];exact q3⟩)
 refine jc ?_;exact jb (((((W.length:Int),ge),((V,L),(T,S))):(Int×List (Int×Int))×((List Int)×List Int)×(List (List Int))×List (List Int)),((0:Int):Int),()) (by rw[Lz q1 q2 h3,h2,tH q2]<;>rfl)
noncomputable def aiv:kG aq:=plain abh
theorem aeq:jg aq 22 [(false,DS)] [(.pair AL (.pair AL (.list .int))),.int] (λx=>(N_ x.1.2.2.1).length<=1000000/\(J_ x.1.2.2.2.1.1).length<=1000000/\(J_ x.1.2.2.2.1.2).length<=1000000/\jo (K_ x.1.2.2.2.2.1)/\jo (K_ x.1.2.2.2.2.2)) (λx=>((jN (I_ x.1.1) (B_ x.1.2.1) (N_ x.1.2.2.1) (J_ x.1.2.2.2.1.1) (J_ x.1.2.2.2.1.2) (K_ x.1.2.2.2.2.1) (K_ x.1.2.2.2.2.2)).1,(jN (I_ x.1.1) (B_ x.1.2.1) (N_ x.1.2.2.1) (J_ x.1.2.2.2.1.1) (J_ x.1.2.2.2.1.2) (K_ x.1.2.2.2.2.1) (K_ x.1.2.2.2.2.2)).2,())):=by
 refine jl f22 111 [] func22 λo x hd _ _ h=>?_;obtain⟨⟨(K:Int),⟨(W:List ByteArray),⟨(E:List lG),⟨⟨(V:List Int),(L:List Int)⟩,⟨(T:List (List Int)),(S:List (List Int))⟩⟩⟩⟩⟩,_⟩:=x;have r6:=E7 h 0 W;have qg:=Gw h 1 E;have pV:=mU h 2 V;have wK:=mU h 3 L;have Jk:=rG h 4 T;have N4:=rG h 5 S;change E.length<=1000000/\V.length<=1000000/\L.length<=1000000/\jo T/\jo S at hd;have⟨hE,hV,hL,hT,hS⟩:=hd;have hT1:=hT.1;have hS1:=hS.1;refine tR [] h ?_;refine oq (p:=K=1) (λq1=>?_) λq1=>?_
 .refine jc ?_;exact jb (((((0:Int),[]),(((0:Int),[]),[])):(Int×List (Int×Int))×(Int×List (Int×Int))×List Int),((16:Int):Int),()) (by rw[Es q1]<;>rfl)
 refine jk (pr:=(jm .i64 ((V.length:Int)+(L.length:Int)))/\(jm .i64 (((V.length:Int)+(L.length:Int))+(T.length:Int)))/\(jm .i64 ((((V.length:Int)+(L.length:Int))+(T.length:Int))+(S.length:Int)))) ⟨jK,jK,jK⟩ ?_;refine iY (p:=(0:Int)<(((V.length:Int)+(L.length:Int))+(T.length:Int))+(S.length:Int)) (λq2=>?_) λq2=>?_
 .refine jc ?_;exact jb (((((0:Int),[]),(((0:Int),[]),[])):(Int×List (Int×Int))×(Int×List (Int×Int))×List Int),((1:Int):Int),()) (by rw[Et q1 q2]<;>rfl)
 refine jc ?_;refine acr (List (Int×Int)) (List (Int×Int)) (List Int) E (λi pa pb ps=>⟨[(2,ep 0),(4,ep 1),(43,eo 2),(44,en (E.length:Int)),(45,en i)],[(0,some (.box 63 [.v (.int .i64 0),.v (.slice none 0 0),.v (.int .i64 0),.v (.slice none 0 0),.v (.slice none 0 0)])),(1,some (.box 63 [.v (.int .i64 (W.length:Int)),.own 3,.v (.int .i64 (W.length:Int)),.own 4,.own 5])),(2,some (.ar uT E)),(3,some (.row 70 Be pa)),(4,some (.row 70 Be pb)),(5,some (.row 3 .int ps))],6⟩) (λi pa pb ps=>pa=(Ar (E.take i.toNat)).1/\pb=(Ar (E.take i.toNat)).2.1/\ps=(Ar (E.take i.toNat)).2.2/\∀j:Nat,(j:Int)<i->V0 (E.getD j kO).2.2.2) [] [] [] [(0,some 4102),(1,some 143366),(2,some 1),(3,none),(4,none),(5,none)] (⟨rfl,rfl,rfl,λj hj=>by omega⟩) λi pa pb ps _ kU h0 h1 hI=>?_;have⟨h2,h3,h4,h5⟩:=hI;refine jc ?_;refine iY (p:=i<(E.length:Int)) (λq3=>?_) λq3=>?_
 .have JK:=LA E i;rw[<-h2,<-h3,<-h4] at JK;have⟨hoa,hob,hos⟩:=JK;refine jk (pr:=(jz i E.length)) bx ?_;refine iY (p:=(((E.getD i.toNat eH).2).2).2=0) (λq4=>?_) λq4=>?_
  .refine jk (pr:=(pa.length+([(((E.getD i.toNat eH).2).1,(((E.getD i.toNat eH).2).2).1)]:List (Int×Int)).length<=2147483647)/\(ps.length+([(pb.length:Int)]:List Int).length<=2147483647)/\(pb.length+([(((E.getD i.toNat eH).2).1,(((E.getD i.toNat eH).2).2).1)]:List (Int×Int)).length<=2147483647)/\(jm .i64 (i+1))) ⟨ln,ln,ln,jK⟩ ?_;exact mQ (kU (pa++([(((E.getD i.toNat eH).2).1,(((E.getD i.toNat eH).2).2).1)]:List (Int×Int))) (pb++([(((E.getD i.toNat eH).2).1,(((E.getD i.toNat eH).2).2).1)]:List (Int×Int))) (ps++([(pb.length:Int)]:List Int)) (rk [0,1,2,86022,163846,131078]) ⟨by rw[lW h0 (by omega),yo q4,h2],by rw[lW h0 (by omega),yo q4,h3],by rw[lW h0 (by omega),yo q4,h4,h3],λj hj=>if z:(j:Int)<i then h5 j z else by rw[show j=i.toNat by omega];exact⟨by rw[q4];decide,by rw[q4];decide⟩⟩)
  refine jc ?_;refine iY (p:=(((E.getD i.toNat eH).2).2).2=1) (λq5=>?_) λq5=>?_
  .refine jk (pr:=(pa.length+([(((E.getD i.toNat eH).2).1,(((E.getD i.toNat eH).2).2).1)]:List (Int×Int)).length<=2147483647)/\(ps.length+([(-1:Int)]:List Int).length<=2147483647)/\(jm .i64 (i+1))) ⟨ln,ln,jK⟩ ?_;exact mQ (kU (pa++([(((E.getD i.toNat eH).2).1,(((E.getD i.toNat eH).2).2).1)]:List (Int×Int))) pb (ps++([(-1:Int)]:List Int)) (rk [0,1,2,94214,4,122886]) ⟨by rw[lW h0 (by omega),yp q5,h2],by rw[lW h0 (by omega),yp q5,h3],by rw[lW h0 (by omega),yp q5,h4],λj hj=>if z:(j:Int)<i then h5 j z else by rw[show j=i.toNat by omega];exact⟨by rw[q5];decide,by rw[q5];decide⟩⟩)
  refine jc ?_;refine iY (p:=(((E.getD i.toNat eH).2).2).2=2) (λq6=>?_) λq6=>?_
  .refine jk (pr:=(pb.length+([(((E.getD i.toNat eH).2).1,(((E.getD i.toNat eH).2).2).1)]:List (Int×Int)).length<=2147483647)/\(jm .i64 (i+1))) ⟨ln,jK⟩ ?_;exact mQ (kU pa (pb++([(((E.getD i.toNat eH).2).1,(((E.getD i.toNat eH).2).2).1)]:List (Int×Int))) ps (rk [0,1,2,3,102406,5]) ⟨by rw[lW h0 (by omega),yq q4 q5,h2],by rw[lW h0 (by omega),yq q4 q5,h3],by rw[lW h0 (by omega),yq q4 q5,h4],λj hj=>if z:(j:Int)<i then h5 j z else by rw[show j=i.toNat by omega];exact⟨by rw[q6];decide,by rw[q6];decide⟩⟩)
  refine jc ?_;exact jb (((((0:Int),[]),(((0:Int),[]),[])):(Int×List (Int×Int))×(Int×List (Int×Int))×List Int),((1:Int):Int),()) (by rw[LB q1 h0 q3 (λz=>by have z1:0<=(E.getD i.toNat eH).2.2.2/\(E.getD i.toNat eH).2.2.2<=2:=z;omega)]<;>rfl)
 refine jc ?_;exact jb (((((W.length:Int),pa),(((W.length:Int),pb),ps)):(Int×List (Int×Int))×(Int×List (Int×Int))×List Int),((0:Int):Int),()) (by rw[LC q1 q2 q3 h5,h2,h3,h4,tH q3]<;>rfl)
noncomputable def aer:kG aq:=plain aeq
theorem EU {P:az}{f:bB}{kR:List (Bool×Ty)}{rs:List Ty}{wA Xd:pW kR->Prop}{fx fx':pW kR->oh rs}(ok:jg P f kR rs wA fx)(h:∀x,Xd x->wA x/\fx x=fx' x):jg P f kR rs Xd fx':=λo vs x hx hd=>by
 have:=ok o vs x hx (h x hd).1;rw[(h x hd).2] at this;exact this
theorem abi:jg aq 20 [(false,DS)] [(.pair AL (.pair zq plT)),.int]
  (λx=>(I_ x.1.1=0/\Ep (N_ x.1.2.2.1))/\(N_ x.1.2.2.1).length<=1000000/\(J_ x.1.2.2.2.1.1).length<=1000000/\(J_ x.1.2.2.2.1.2).length<=1000000/\jo (K_ x.1.2.2.2.2.1)/\jo (K_ x.1.2.2.2.2.2))
  (λx=>(((((B_ x.1.2.1).length:Int),yA (N_ x.1.2.2.1)),(((J_ x.1.2.2.2.1.1),(J_ x.1.2.2.2.1.2)),((K_ x.1.2.2.2.2.1),(K_ x.1.2.2.2.2.2)))),((0:Int),()))):=
 EU Xc λx hd=>⟨hd.2,by
  have e:jQ (I_ x.1.1) (B_ x.1.2.1) (N_ x.1.2.2.1) (J_ x.1.2.2.2.1.1) (J_ x.1.2.2.2.1.2) (K_ x.1.2.2.2.2.1) (K_ x.1.2.2.2.2.2)=(((((B_ x.1.2.1).length:Int),yA (N_ x.1.2.2.1)),(((J_ x.1.2.2.2.1.1),(J_ x.1.2.2.2.1.2)),((K_ x.1.2.2.2.2.1),(K_ x.1.2.2.2.2.2)))),0):=by
   unfold jQ;rw[ak hd.1.1,ak hd.1.2]
  rw[e];rfl⟩
def abj:kG aq:=plain abi
abbrev k1 (m:List (Int×Unit)):List Int:=m.map (·.1)
noncomputable abbrev AO (vv:List ByteArray) (ee:List lG) (ha hb:List (Int×Unit)) (tu:List (Int×List Int)):List (Int×List Int):=(iA (vv.length:Int) (yA ee) (k1 ha) (k1 hb) (Ji vv.length tu)).1
structure sK (vv:List ByteArray)(ee:List lG)(ha hb:List (Int×Unit))(tu:List (Int×List Int))(xr:List (List Int)):Prop where
 W:vv.length<=10000
 E:ee.length<=1000000
 V:ha.length<=1000000
 L:hb.length<=1000000
 rV:zg ha
 rL:zg hb
 cs:Ep ee
 tu1:∀k l,iC tu k=some l->(0<=k/\k<(vv.length:Int))/\l.length<=1000000
 sT:jo (Ji vv.length tu)
 iT:kC (Ji vv.length tu)
 S:jo xr
 srt:ua xr
 asc:∀j,j<xr.length->FA (xr.getD j [])
 iS:kC xr
 wN:(AO vv ee ha hb tu).length<=1000000
 wz:((AO vv ee ha hb tu).flatMap (·.2)).length<=1000000
 wI:∀w∈(AO vv ee ha hb tu),∀d∈w.2,-9223372036854775808<=d/\d<=9223372036854775807
 key:∀x c,x∈xr.flatten->iC (Sm (AO vv ee ha hb tu) []) x=some c->c=x
def wU (k:Int)(hv:List Int)(ha:List (Int×Unit)):List Int:=if k=1 then hv else ha.map (·.1)
def FK (k:Int)(tt:List (List Int))(n:Nat)(tu:List (Int×List Int)):List (List Int):=if k=1 then tt else Ji n tu
def FL (k:Int)(ss xr:List (List Int)):List (List Int):=if k=1 then ss else xr
theorem Qc:∀(l:List (Int×List Int)) (m:List (Int×Int)),(Sm l m).length<=m.length+(l.flatMap (·.2)).length
 |[],m=>ay _
 |w::l,m=>by
  have a:=Qc l (w.2.foldl (λm d=>jM m d w.1) m);have b:=ET (k:=w.1) w.2 m;have c:((w::l).flatMap (·.2)).length=w.2.length+(l.flatMap (·.2)).length:=by rw[cx,aO]
  have e:Sm (w::l) m=Sm l (w.2.foldl (λm d=>jM m d w.1) m):=rfl;rw[e];omega
theorem Ma:∀ {l:List (Int×List Int)} {w:Int×List Int},w∈l->w.2.length<=(l.flatMap (·.2)).length
 |[],_,h=>by cases h
 |v::l,w,h=>by
  rw[cx,aO];rcases aC.1 h with rfl|h
  .omega
  have:=Ma h;omega
theorem Xe {l:List (Int×List Int)}{i:Nat}{d:Int×List Int}(h:i<l.length):((l.take i).flatMap (·.2)).length+(l.getD i d).2.length<=(l.flatMap (·.2)).length:=by
 have e:l=l.take i++l.drop i:=(dO i l).symm;have e2:l.drop i=l.getD i d::l.drop (i+1):=by
  rw[akE h,aH,aR h];rfl
 have e3:(l.flatMap (·.2)).length=((l.take i).flatMap (·.2)).length+((l.getD i d).2.length+((l.drop (i+1)).flatMap (·.2)).length):=by
  rw[<-aO,<-cx,<-e2,<-aO,<-akI,<-e]
 omega
section
variable {vv:List ByteArray}{ee:List lG}{ha hb:List (Int×Unit)}{tu:List (Int×List Int)}{xr:List (List Int)}
theorem sK.ky (h:sK vv ee ha hb tu xr){m:List (Int×Int)}(hm:m=Sm (AO vv ee ha hb tu) []){i j:Int}(h0:0<=i)(h1:i<(xr.length:Int))(h2:0<=j)(h3:j<((xr.getD i.toNat []).length:Int))(q:(iC m ((xr.getD i.toNat []).getD j.toNat 0)).isSome=true):
  (iC m ((xr.getD i.toNat []).getD j.toNat 0)).getD 0=(xr.getD i.toNat []).getD j.toNat 0:=by
 obtain⟨c,hc⟩:=bD.1 q;rw[hc];subst hm;exact h.key _ _ (amv.2 ⟨_,iL (by omega),iL (by omega)⟩) hc
theorem sK.ln (h:sK vv ee ha hb tu xr){i:Int}(h0:0<=i)(h1:i<(xr.length:Int)):(xr.getD i.toNat []).length<=10000:=h.S.2 _ (iL (by omega))
theorem sK.Vl (h:sK vv ee ha hb tu xr):(ha.map (·.1)).length<=1000000:=by rw[aV];exact h.V
theorem sK.Ll (h:sK vv ee ha hb tu xr):(hb.map (·.1)).length<=1000000:=by rw[aV];exact h.L
theorem sK.sb (h:sK vv ee ha hb tu xr){i j:Int}(h0:0<=i)(h1:i<(xr.length:Int))(h2:0<=j)(h3:j<((xr.getD i.toNat []).length:Int)): -9223372036854775808<=(xr.getD i.toNat []).getD j.toNat 0/\(xr.getD i.toNat []).getD j.toNat 0<=9223372036854775807:=
 h.iS _ (iL (by omega)) _ (iL (by omega))
theorem sK.wd (h:sK vv ee ha hb tu xr){i:Int}(h0:0<=i)(h1:i<((AO vv ee ha hb tu).length:Int)):((AO vv ee ha hb tu).getD i.toNat (0,[])).2.length<=1000000:=aU (Ma (iL (by omega))) h.wz
theorem sK.wb (h:sK vv ee ha hb tu xr){i j:Int}(h0:0<=i)(h1:i<((AO vv ee ha hb tu).length:Int))(h2:0<=j)(h3:j<(((AO vv ee ha hb tu).getD i.toNat (0,[])).2.length:Int)): -9223372036854775808<=((AO vv ee ha hb tu).getD i.toNat (0,[])).2.getD j.toNat 0/\((AO vv ee ha hb tu).getD i.toNat (0,[])).2.getD j.toNat 0<=9223372036854775807:=
 h.wI _ (iL (by omega)) _ (iL (by omega))
theorem sK.wl (h:sK vv ee ha hb tu xr){i j k:Int}{m l:List (Int×Int)}(h0:0<=i)(h1:i<((AO vv ee ha hb tu).length:Int))(hm:m=Sm ((AO vv ee ha hb tu).take i.toNat) [])(hl:l=kyD k m ((AO vv ee ha hb tu).getD i.toNat (0,[])).2 j):l.length<=1000000:=by
 have a:=Qc ((AO vv ee ha hb tu).take i.toNat) [];have b:=abd (k:=k) (m:=m) (l:=((AO vv ee ha hb tu).getD i.toNat (0,[])).2) (j:=j);rw[<-hl] at b;rw[<-hm] at a;have c:=Xe (l:=(AO vv ee ha hb tu)) (i:=i.toNat) (d:=(0,[])) (by omega);have e:=h.wz;have f:([]:List (Int×Int)).length=0:=rfl;omega
end
theorem Tryz.ahp:Fe aq 104 135 (Data.size (Int×ByteArray)) 24:=Y0 (z:=.agg #[.int .i64 0,.string ⟨#[]⟩]) Tryz.underlying104 (by kernel_rfl) rfl (by decide)
theorem N5 (r:Int)(w:aa):
 Calls aq 83 [.int .i32 r].toArray w (SU (.bool (IV r)) w):=by
 refine enter f83 44 func83 λa hA=>?_;replace hA:=mu [(0,.int .i32 r)] hA;have H:=Fr.start (tT w);refine iG λK1 kU=>?_;refine jf [(0,.int .i32 r)] hA H λa w2 hA H hG=>?_;refine kU _ _ ?_;refine iG λK3 vh=>?_;refine ov 0 ?_;refine iG λK4 Hj=>?_;refine iG λK5 YV=>?_;refine jf [(0,.int .i32 r),(3,.bool ((decide ((97:Int)<=r)) && (decide (r<=122))))] hA H λa w6 hA H hG=>?_;refine YV _ _ ?_;refine jC hA (.tmp 3) ((decide ((97:Int)<=r)) && (decide (r<=122))) (λhb7=>?_) (λhb7=>?_)
 .have ajj:=(⟨aP ((aT hb7).1),aP ((aT hb7).2)⟩:_/\_);refine go_skip ?_;refine Hj _ _ ?_;refine jC hA (.tmp 3) ((decide ((97:Int)<=r)) && (decide (r<=122))) (λ_=>?_) (λh=>absurd (h.symm.trans hb7) (by decide));refine iG λK9 hK9=>?_;refine jf [(2,.bool true)] hA H λa w10 hA H hG=>?_;refine hK9 _ _ ?_;refine kW ?_;refine lU 2 (.bool true) hA ?_;exact um (by rw[akT,tJ];unfold vZ;simp<;>omega) H.below
 have ajj:=(aF hb7).imp (λh=>bh h) (λh=>bh h);refine jf [(0,.int .i32 r),(3,.bool ((decide ((65:Int)<=r)) && (decide (r<=90))))] hA H λa w11 hA H hG=>?_;refine Hj _ _ ?_;refine jC hA (.tmp 3) ((decide ((65:Int)<=r)) && (decide (r<=90))) (λabk=>?_) (λabk=>?_)
 .have ahq:=(⟨aP ((aT abk).1),aP ((aT abk).2)⟩:_/\_);refine iG λK13 ajk=>?_;refine jf [(2,.bool true)] hA H λa w14 hA H hG=>?_;refine ajk _ _ ?_;refine kW ?_;refine lU 2 (.bool true) hA ?_;exact um (by rw[akT,tJ];unfold vZ;simp<;>omega) H.below
 have ahq:=(aF abk).imp (λh=>bh h) (λh=>bh h);refine iG λK15 aes=>?_;refine jf [(0,.int .i32 r),(16,.bool ((decide ((192:Int)<=r)) && (decide (r<=591))))] hA H λa w16 hA H hG=>?_;refine aes _ _ ?_;refine jC hA (.tmp 16) ((decide ((192:Int)<=r)) && (decide (r<=591))) (λJl=>?_) (λJl=>?_)
 .have Xf:=(⟨aP ((aT Jl).1),aP ((aT Jl).2)⟩:_/\_);refine iG λK18 Jm=>?_;refine jf [(2,.bool ((!decide (r=215)) && (!decide (r=247))))] hA H λa w19 hA H hG=>?_;refine Jm _ _ ?_;refine kW ?_;refine lU 2 (.bool ((!decide (r=215)) && (!decide (r=247)))) hA ?_;exact um (by rw[akT,tJ];unfold vZ;simp<;>omega) H.below
 have Xf:=(aF Jl).imp (λh=>bh h) (λh=>bh h);refine iG λK20 Xg=>?_;refine jf [(0,.int .i32 r),(29,.bool ((decide ((913:Int)<=r)) && (decide (r<=969))))] hA H λa w21 hA H hG=>?_;refine Xg _ _ ?_;refine jC hA (.tmp 29) ((decide ((913:Int)<=r)) && (decide (r<=969))) (λJn=>?_) (λJn=>?_)
 .have Xh:=(⟨aP ((aT Jn).1),aP ((aT Jn).2)⟩:_/\_);refine iG λK23 Mb=>?_;refine jf [(2,.bool (!decide (r=930)))] hA H λa w24 hA H hG=>?_;refine Mb _ _ ?_;refine kW ?_;refine lU 2 (.bool (!decide (r=930))) hA ?_;exact um (by rw[akT,tJ];unfold vZ;simp<;>omega) H.below
 have Xh:=(aF Jn).imp (λh=>bh h) (λh=>bh h);refine go_skip ?_;refine vh _ _ ?_;refine iG λK25 N6=>?_;refine jf [(2,.bool ((decide ((1040:Int)<=r)) && (decide (r<=1103))))] hA H λa w26 hA H hG=>?_;refine N6 _ _ ?_;refine kW ?_;refine lU 2 (.bool ((decide ((1040:Int)<=r)) && (decide (r<=1103)))) hA ?_;exact um (by rw[akT,tJ];unfold vZ;simp<;>omega) H.below
theorem Xi (r:Int)(w:aa):
 Calls aq 56 [.int .i32 r].toArray w (SU (.bool (wF r)) w):=by
 refine enter f56 21 func56 λa hA=>?_;replace hA:=mu [(0,.int .i32 r)] hA;have H:=Fr.start (tT w);refine iG λK1 kU=>?_;refine jf [(0,.int .i32 r)] hA H λa w2 hA H hG=>?_;refine kU _ _ ?_;refine iG λK3 vh=>?_;refine jf [(2,.bool ((((decide (r=10))||((decide ((43:Int)<=r)) && (decide (r<=47))))||(decide (r=58)))||(decide (r=124))))] hA H λa w4 hA H hG=>?_;refine vh _ _ ?_;refine kW ?_;refine lU 2 (.bool ((((decide (r=10))||((decide ((43:Int)<=r)) && (decide (r<=47))))||(decide (r=58)))||(decide (r=124)))) hA ?_;exact um (by unfold wF;rw[akT];simp<;>omega) H.below
theorem BI (r:Int)(w:aa):
 Calls aq 55 [.int .i32 r].toArray w (SU (.int .i64 (cls r)) w):=by
 refine enter f55 25 func55 λa hA=>?_;replace hA:=mu [(0,.int .i32 r)] hA;have H:=Fr.start (tT w);refine iG λK1 kU=>?_;refine jf [(0,.int .i32 r)] hA H λa w2 hA H hG=>?_;refine kU _ _ ?_;refine iG λK3 vh=>?_;refine ov 0 ?_;refine iG λK4 Hj=>?_;refine jf [(0,.int .i32 r),(3,.bool (decide (r=32)))] hA H λa w5 hA H hG=>?_;refine Hj _ _ ?_;refine jC hA (.tmp 3) (decide (r=32)) (λhb6=>?_) (λhb6=>?_)
 .have ajl:=aP hb6;refine iG λK7 hK7=>?_;refine jf [(2,iv 4)] hA H λa w8 hA H hG=>?_;refine hK7 _ _ ?_;refine kW ?_;refine lU 2 (.int .i64 4) hA ?_;exact G3 (by unfold cls vZ;(repeat' split)<;>omega) H.below
 have ajl:=bh hb6;refine iG λK9 hK9=>?_;refine jf [(0,.int .i32 r),(6,.bool ((decide ((48:Int)<=r)) && (decide (r<=57))))] hA H λa w10 hA H hG=>?_;refine hK9 _ _ ?_;refine jC hA (.tmp 6) ((decide ((48:Int)<=r)) && (decide (r<=57))) (λabl=>?_) (λabl=>?_)
 .have ahr:=(⟨aP ((aT abl).1),aP ((aT abl).2)⟩:_/\_);refine iG λK12 abm=>?_;refine jf [(2,iv 2)] hA H λa w13 hA H hG=>?_;refine abm _ _ ?_;refine kW ?_;refine lU 2 (.int .i64 2) hA ?_;exact G3 (by unfold cls vZ;(repeat' split)<;>omega) H.below
 have ahr:=(aF abl).imp (λh=>bh h) (λh=>bh h);refine iG λK14 Jo=>?_;refine iG λK15 aes=>?_;refine jf [(0,.int .i32 r),(13,.bool (decide (r=95)))] hA H λa w16 hA H hG=>?_;refine aes _ _ ?_;refine jC hA (.tmp 13) (decide (r=95)) (λJl=>?_) (λJl=>?_)
 .have Xf:=aP Jl;refine go_skip ?_;refine Jo _ _ ?_;refine jC hA (.tmp 13) (decide (r=95)) (λ_=>?_) (λh=>absurd (h.symm.trans Jl) (by decide));refine iG λK19 aet=>?_;refine jf [(2,iv 3)] hA H λa w20 hA H hG=>?_;refine aet _ _ ?_;refine kW ?_;refine lU 2 (.int .i64 3) hA ?_;exact G3 (by unfold cls vZ;(repeat' split)<;>omega) H.below
 have Xf:=bh Jl;refine jf [(0,.int .i32 r),(13,.bool ((decide ((8242:Int)<=r)) && (decide (r<=8244))))] hA H λa w21 hA H hG=>?_;refine Jo _ _ ?_;refine jC hA (.tmp 13) ((decide ((8242:Int)<=r)) && (decide (r<=8244))) (λJn=>?_) (λJn=>?_)
 .have Xh:=(⟨aP ((aT Jn).1),aP ((aT Jn).2)⟩:_/\_);refine iG λK23 Mb=>?_;refine jf [(2,iv 3)] hA H λa w24 hA H hG=>?_;refine Mb _ _ ?_;refine kW ?_;refine lU 2 (.int .i64 3) hA ?_;exact G3 (by unfold cls vZ;(repeat' split)<;>omega) H.below
 have Xh:=(aF Jn).imp (λh=>bh h) (λh=>bh h);refine iG λK25 N6=>?_;refine q_reg [(24,.bool (IV r))] [(22,.bool (IV r))] ((sR aq 83/\yL aq (On w21) 83 [.int .i32 r].toArray (.bool (IV r)))/\True) hA H ⟨⟨rK,uG λw hw=>by exact N5 r w⟩,tv⟩ λa w26 hA H hG=>?_;refine N6 _ _ ?_;refine jC hA (.tmp 22) (IV r) (λBJ=>?_) (λBJ=>?_)
 .have nN:=BJ;refine iG λK28 Xj=>?_;refine jf [(2,iv 1)] hA H λa w29 hA H hG=>?_;refine Xj _ _ ?_;refine kW ?_;refine lU 2 (.int .i64 1) hA ?_;exact G3 (by simp only[tJ,G2] at nN;unfold vZ at nN;unfold cls vZ;(repeat' split)<;>omega) H.below
 have nN:=BJ;refine go_skip ?_;refine vh _ _ ?_;refine iG λK30 ajm=>?_;refine jf [(2,iv 0)] hA H λa w31 hA H hG=>?_;refine ajm _ _ ?_;refine kW ?_;refine lU 2 (.int .i64 0) hA ?_;exact G3 (by simp only[tJ,G2] at nN;unfold vZ at nN;unfold cls vZ;(repeat' split)<;>omega) H.below
theorem Xk (s:ByteArray)(w:aa):
 Calls aq 40 [.string s].toArray w (SU (.bool (kg s)) w):=by
 refine enter f40 42 func40 λa hA=>?_;replace hA:=mu [(0,.string s)] hA;have H:=Fr.start (tT w);refine iG λK1 kU=>?_;refine jf [(0,.string s)] hA H λa w2 hA H hG=>?_;refine kU _ _ ?_;refine iG λK3 vh=>?_;refine jf [(0,.string s),(3,iv 0),(4,iv 0)] hA H λa w4 hA H hG=>?_;refine vh _ _ ?_;refine iG λK5 YV=>?_;refine iG λK6 hK6=>?_;refine mg ?_;refine oY 0 1 [] [(3,iv 0),(4,iv 0),(7,.string s)] (True) hA H tv λa w7 hA H hG=>?_;refine pS 1 ?_;refine CB 1 8 9 (.tmp 7) s [(3,iv 0),(4,iv 0)] hA H Tryz.underlying9 λb8 a w9 H hA hG aeu=>?_;clear aeu;refine mN ?_;refine hK6 _ _ ?_;refine ov 0 ?_;refine zA (Nat×Int×Int) (λx_ a W=>(λ(pos:Nat) (n:Int) (k:Int)=>jR 42 a (kV [(3,iv n),(4,iv k),(8,pv b8)])/\(∃S,Fr (tT w) W S [.iter b8 s pos])/\0<=n/\n<=16/\0<=k/\k<=3/\lz (jY s pos) n k=kg s) x_.1 x_.2.1 x_.2.2) (λx_=>(λ(pos:Nat) (n:Int) (k:Int)=>s.size-pos) x_.1 x_.2.1 x_.2.2) (0,0,0) ?_ (λx_ a w11 hI=>?_)
 ·(try dsimp only);exact⟨mu _ hA,⟨_,H⟩,by omega,by omega,by omega,by omega,rfl⟩
 obtain⟨pos,n,k⟩:=x_;have⟨hA,⟨S,H⟩,h1,h2,h3,h4,hi⟩:=hI
 try dsimp only at h1 h2 h3 h4 hi
 replace H:Fr _ _ _ [.iter b8 s pos]:=H;refine iG λK12 abm=>?_;refine mg ?_;refine pS 0 ?_;refine HF 0 9 (.tmp 8) 0 b8 s pos [(3,iv n),(4,iv k),(8,pv b8)] hA H rfl (λqH a w14 H hA hG=>?_) (λqH a hA=>?_)
 .replace H:Fr _ _ _ [.iter b8 s (pos+(aJ s pos).2)]:=H;have hwd:=nX s pos qH;refine oY 1 1 [] [(3,iv n),(4,iv k),(8,pv b8),(9,.tuple #[.bool true,.int .i64 (pos:Int),.int .i32 ((aJ s pos).1:Int)]),(10,.bool true)] (TT/\True) hA H ⟨tv,tv⟩ λa w15 hA H hG=>?_;refine mN ?_;refine abm _ _ ?_;refine iG λK16 Xl=>?_;refine jC hA (.tmp 10) true (λ_=>?_) (λh=>by cases h);refine go_skip ?_;refine Xl _ _ ?_;refine ov 1 ?_;refine iG λK18 Jm=>?_;refine q_reg [] [(3,iv n),(4,iv k),(6,.int .i32 ((aJ s pos).1:Int)),(8,pv b8)] (TT/\True) hA H ⟨tv,tv⟩ λa w19 hA H hG=>?_;refine Jm _ _ ?_;refine iG λK20 Xg=>?_;refine q_reg [] [(3,iv (n+1)),(4,iv k),(6,.int .i32 ((aJ s pos).1:Int)),(8,pv b8)] ((jm .i64 (n+1))/\True) hA H ⟨⟨by omega,by omega⟩,tv⟩ λa w21 hA H hG=>?_;refine Xg _ _ ?_;refine iG λK22 N7=>?_;refine iG λK23 Mb=>?_;refine q_reg [(15,iv (cls ((aJ s pos).1:Int)))] [(3,iv (n+1)),(4,iv k),(8,pv b8),(15,iv (cls ((aJ s pos).1:Int)))] ((sR aq 55/\yL aq (On w21) 55 [.int .i32 ((aJ s pos).1:Int)].toArray (.int .i64 (cls ((aJ s pos).1:Int))))/\True) hA H ⟨⟨rK,uG λw hw=>by exact BI ((aJ s pos).1:Int) w⟩,tv⟩ λa w24 hA H hG=>?_;refine Mb _ _ ?_;refine ov 2 ?_;refine iG λK25 N6=>?_;refine jf [(3,iv (n+1)),(4,iv k),(8,pv b8),(15,iv (cls ((aJ s pos).1:Int))),(16,.bool (decide (cls ((aJ s pos).1:Int)=1)))] hA H λa w26 hA H hG=>?_;refine N6 _ _ ?_;refine jC hA (.tmp 16) (decide (cls ((aJ s pos).1:Int)=1)) (λBJ=>?_) (λBJ=>?_)
  .have nN:=aP BJ;refine iG λK28 Xj=>?_;refine jf [(3,iv (n+1)),(4,iv k),(8,pv b8),(19,.bool (decide ((0:Int)<k)))] hA H λa w29 hA H hG=>?_;refine Xj _ _ ?_;refine jC hA (.tmp 19) (decide ((0:Int)<k)) (λaev=>?_) (λaev=>?_)
   .have Hl:=aP aev;refine iG λK31 ajn=>?_;refine jf [(2,.bool false)] hA H λa w32 hA H hG=>?_;refine ajn _ _ ?_;refine kW ?_;refine lU 2 (.bool false) hA ?_;exact um (by rw[<-hi];first|(rw[ja s pos qH];simp only[lz];simp[nN,Hl];done)|(rw[ja s pos qH];simp only[lz];simp[nN,Hl];intros;omega)|(rw[j9 s pos qH];rfl)) H.below
   have Hl:=bh aev;refine go_skip ?_;refine N7 _ _ ?_;refine iG λK33 ahs=>?_;refine jf [(3,iv (n+1)),(4,iv k),(8,pv b8),(39,.bool ((decide ((16:Int)<n+1))||(decide ((3:Int)<k))))] hA H λa w34 hA H hG=>?_;refine ahs _ _ ?_;refine jC hA (.tmp 39) ((decide ((16:Int)<n+1))||(decide ((3:Int)<k))) (λabn=>?_) (λabn=>?_)
   .have Qd:=(oT abn).imp (λh=>aP h) (λh=>aP h);refine iG λK36 aew=>?_;refine jf [(2,.bool false)] hA H λa w37 hA H hG=>?_;refine aew _ _ ?_;refine kW ?_;refine lU 2 (.bool false) hA ?_;exact um (by rw[<-hi];first|(rw[ja s pos qH];simp only[lz];simp[nN,Hl,Qd];done)|(rw[ja s pos qH];simp only[lz];simp[nN,Hl,Qd];intros;omega)|(rw[j9 s pos qH];rfl)) H.below
   have Qd:=(⟨bh ((oF abn).1),bh ((oF abn).2)⟩:_/\_);refine go_skip ?_;refine⟨(pos+(aJ s pos).2,n+1,k),⟨mu _ hA,⟨_,H⟩,?_⟩,?_⟩
   ·(try dsimp only);exact⟨by omega,by omega,by omega,by omega,by have qm:=hi;rw[ja s pos qH] at qm;simp only[lz] at qm;simp[nN,Hl,Qd] at qm;exact qm⟩
   (try dsimp only);omega
  have nN:=bh BJ;refine iG λK38 ajo=>?_;refine jf [(3,iv (n+1)),(4,iv k),(8,pv b8),(15,iv (cls ((aJ s pos).1:Int))),(20,.bool (decide (cls ((aJ s pos).1:Int)=2)))] hA H λa w39 hA H hG=>?_;refine ajo _ _ ?_;refine jC hA (.tmp 20) (decide (cls ((aJ s pos).1:Int)=2)) (λaex=>?_) (λaex=>?_)
  .have vj:=aP aex;refine iG λK41 ajp=>?_;refine jf [(3,iv (n+1)),(4,iv k),(8,pv b8),(27,.bool ((decide (n+1=1))||(decide ((0:Int)<k))))] hA H λa w42 hA H hG=>?_;refine ajp _ _ ?_;refine jC hA (.tmp 27) ((decide (n+1=1))||(decide ((0:Int)<k))) (λabo=>?_) (λabo=>?_)
   .have Ho:=(oT abo).imp (λh=>aP h) (λh=>aP h);refine iG λK44 aht=>?_;refine jf [(2,.bool false)] hA H λa w45 hA H hG=>?_;refine aht _ _ ?_;refine kW ?_;refine lU 2 (.bool false) hA ?_;exact um (by rw[<-hi];first|(rw[ja s pos qH];simp only[lz];simp[nN,vj,Ho];done)|(rw[ja s pos qH];simp only[lz];simp[nN,vj,Ho];intros;omega)|(rw[j9 s pos qH];rfl)) H.below
   have Ho:=(⟨bh ((oF abo).1),bh ((oF abo).2)⟩:_/\_);refine go_skip ?_;refine N7 _ _ ?_;refine iG λK46 abp=>?_;refine jf [(3,iv (n+1)),(4,iv k),(8,pv b8),(39,.bool ((decide ((16:Int)<n+1))||(decide ((3:Int)<k))))] hA H λa w47 hA H hG=>?_;refine abp _ _ ?_;refine jC hA (.tmp 39) ((decide ((16:Int)<n+1))||(decide ((3:Int)<k))) (λabq=>?_) (λabq=>?_)
   .have Qe:=(oT abq).imp (λh=>aP h) (λh=>aP h);refine iG λK49 ajq=>?_;refine jf [(2,.bool false)] hA H λa w50 hA H hG=>?_;refine ajq _ _ ?_;refine kW ?_;refine lU 2 (.bool false) hA ?_;exact um (by rw[<-hi];first|(rw[ja s pos qH];simp only[lz];simp[nN,vj,Ho,Qe];done)|(rw[ja s pos qH];simp only[lz];simp[nN,vj,Ho,Qe];intros;omega)|(rw[j9 s pos qH];rfl)) H.below
   have Qe:=(⟨bh ((oF abq).1),bh ((oF abq).2)⟩:_/\_);refine go_skip ?_;refine⟨(pos+(aJ s pos).2,n+1,k),⟨mu _ hA,⟨_,H⟩,?_⟩,?_⟩
   ·(try dsimp only);exact⟨by omega,by omega,by omega,by omega,by have qm:=hi;rw[ja s pos qH] at qm;simp only[lz] at qm;simp[nN,vj,Ho,Qe] at qm;exact qm⟩
   (try dsimp only);omega
  have vj:=bh aex;refine iG λK51 ajr=>?_;refine jf [(3,iv (n+1)),(4,iv k),(8,pv b8),(28,.bool (decide (cls ((aJ s pos).1:Int)=3)))] hA H λa w52 hA H hG=>?_;refine ajr _ _ ?_;refine jC hA (.tmp 28) (decide (cls ((aJ s pos).1:Int)=3)) (λaey=>?_) (λaey=>?_)
  .have Cl:=aP aey;refine iG λK54 ajs=>?_;refine iG λK55 ajt=>?_;refine jf [(3,iv (n+1)),(4,iv k),(8,pv b8),(31,.bool (decide (n+1=1)))] hA H λa w56 hA H hG=>?_;refine ajt _ _ ?_;refine jC hA (.tmp 31) (decide (n+1=1)) (λaez=>?_) (λaez=>?_)
   .have Hp:=aP aez;refine iG λK58 aeA=>?_;refine jf [(2,.bool false)] hA H λa w59 hA H hG=>?_;refine aeA _ _ ?_;refine kW ?_;refine lU 2 (.bool false) hA ?_;exact um (by rw[<-hi];first|(rw[ja s pos qH];simp only[lz];simp[nN,vj,Cl,Hp];done)|(rw[ja s pos qH];simp only[lz];simp[nN,vj,Cl,Hp];intros;omega)|(rw[j9 s pos qH];rfl)) H.below
   have Hp:=bh aez;refine go_skip ?_;refine ajs _ _ ?_;refine q_reg [] [(3,iv (n+1)),(4,iv (k+1)),(8,pv b8)] ((jm .i64 (k+1))/\True) hA H ⟨⟨by omega,by omega⟩,tv⟩ λa w60 hA H hG=>?_;refine N7 _ _ ?_;refine iG λK61 aju=>?_;refine jf [(3,iv (n+1)),(4,iv (k+1)),(8,pv b8),(39,.bool ((decide ((16:Int)<n+1))||(decide ((3:Int)<k+1))))] hA H λa w62 hA H hG=>?_;refine aju _ _ ?_;refine jC hA (.tmp 39) ((decide ((16:Int)<n+1))||(decide ((3:Int)<k+1))) (λabr=>?_) (λabr=>?_)
   .have Qf:=(oT abr).imp (λh=>aP h) (λh=>aP h);refine iG λK64 ajv=>?_;refine jf [(2,.bool false)] hA H λa w65 hA H hG=>?_;refine ajv _ _ ?_;refine kW ?_;refine lU 2 (.bool false) hA ?_;exact um (by rw[<-hi];first|(rw[ja s pos qH];simp only[lz];simp[nN,vj,Cl,Hp,Qf];done)|(rw[ja s pos qH];simp only[lz];simp[nN,vj,Cl,Hp,Qf];intros;omega)|(rw[j9 s pos qH];rfl)) H.below
   have Qf:=(⟨bh ((oF abr).1),bh ((oF abr).2)⟩:_/\_);refine go_skip ?_;refine⟨(pos+(aJ s pos).2,n+1,k+1),⟨mu _ hA,⟨_,H⟩,?_⟩,?_⟩
   ·(try dsimp only);exact⟨by omega,by omega,by omega,by omega,by have qm:=hi;rw[ja s pos qH] at qm;simp only[lz] at qm;simp[nN,vj,Cl,Hp,Qf] at qm;exact qm⟩
   (try dsimp only);omega
  have Cl:=bh aey;refine iG λK66 ajw=>?_;refine jf [(2,.bool false)] hA H λa w67 hA H hG=>?_;refine ajw _ _ ?_;refine kW ?_;refine lU 2 (.bool false) hA ?_;exact um (by rw[<-hi];first|(rw[ja s pos qH];simp only[lz];simp[nN,vj,Cl];done)|(rw[ja s pos qH];simp only[lz];simp[nN,vj,Cl];intros;omega)|(rw[j9 s pos qH];rfl)) H.below
 skip
 refine oY 1 1 [] [(3,iv n),(4,iv k),(8,pv b8),(9,.tuple #[.bool false]),(10,.bool false)] (TT/\True) hA H ⟨tv,tv⟩ λa w68 hA H hG=>?_;refine mN ?_;refine abm _ _ ?_;refine iG λK69 akp=>?_;refine jC hA (.tmp 10) false (λh=>by cases h) (λ_=>?_);refine zz 0 ?_;refine YV _ _ ?_;refine iG λK71 ajx=>?_;refine jf [(2,.bool (decide ((0:Int)<n)))] hA H λa w72 hA H hG=>?_;refine ajx _ _ ?_;refine kW ?_;refine lU 2 (.bool (decide ((0:Int)<n))) hA ?_;exact um (by rw[<-hi];first|(rw[ja s pos qH];simp only[lz];simp[];done)|(rw[ja s pos qH];simp only[lz];simp[];intros;omega)|(rw[j9 s pos qH];rfl)) H.below
theorem abt (s:ByteArray)(w:aa):
 Calls aq 33 [.string s].toArray w (SU (.tuple #[.int .i64 (IW s).1,.bool (IW s).2]) w):=by
 refine enter f33 21 func33 λa hA=>?_;replace hA:=mu [(0,.string s)] hA;have H:=Fr.start (tT w);refine iG λK1 kU=>?_;refine jf [(0,.string s)] hA H λa w2 hA H hG=>?_;refine kU _ _ ?_;refine iG λK3 vh=>?_;refine iG λK4 Hj=>?_;refine mg ?_;refine oY 0 1 [] [(6,.string s)] (True) hA H tv λa w5 hA H hG=>?_;refine pS 1 ?_;refine CB 1 7 9 (.tmp 6) s [] hA H Tryz.underlying9 λb6 a w7 H hA hG EV=>?_;clear EV;refine mN ?_;refine Hj _ _ ?_;refine ov 0 ?_;refine zA (Nat) (λx_ a W=>(λ(pos:Nat)=>jR 21 a (kV [(7,pv b6)])/\(∃S,Fr (tT w) W S [.iter b6 s pos])/\Eu (jY s pos)=IW s) x_) (λx_=>(λ(pos:Nat)=>s.size-pos) x_) (0) ?_ (λpos a w9 hI=>?_)
 ·(try dsimp only);exact⟨mu _ hA,⟨_,H⟩,rfl⟩
 have⟨hA,⟨S,H⟩,hi⟩:=hI
 try dsimp only at hi
 refine iG λK10 Xm=>?_;refine mg ?_;refine pS 0 ?_;refine HF 0 8 (.tmp 7) 0 b6 s pos [(7,pv b6)] hA H rfl (λzk a w12 H hA hG=>?_) (λzk a hA=>?_)
 .replace H:Fr _ _ _ [.iter b6 s (pos+(aJ s pos).2)]:=H;have hwd:=nX s pos zk;refine oY 1 1 [] [(7,pv b6),(8,.tuple #[.bool true,.int .i64 (pos:Int),.int .i32 ((aJ s pos).1:Int)]),(9,.bool true)] (TT/\True) hA H ⟨tv,tv⟩ λa w13 hA H hG=>?_;refine mN ?_;refine Xm _ _ ?_;refine iG λK14 Jo=>?_;refine jC hA (.tmp 9) true (λ_=>?_) (λh=>by cases h);refine go_skip ?_;refine Jo _ _ ?_;refine ov 1 ?_;refine iG λK16 Xl=>?_;refine q_reg [] [(4,iv (pos:Int)),(5,.int .i32 ((aJ s pos).1:Int)),(7,pv b6)] (TT/\TT/\True) hA H ⟨tv,tv,tv⟩ λa w17 hA H hG=>?_;refine Xl _ _ ?_;refine iG λK18 Jm=>?_;refine q_reg [(13,iv (cls ((aJ s pos).1:Int))),(17,.bool (wF ((aJ s pos).1:Int)))] [(4,iv (pos:Int)),(7,pv b6),(19,.bool ((decide (cls ((aJ s pos).1:Int)=0)) && (!(wF ((aJ s pos).1:Int)))))] ((sR aq 55/\yL aq (On w17) 55 [.int .i32 ((aJ s pos).1:Int)].toArray (.int .i64 (cls ((aJ s pos).1:Int))))/\((decide (cls ((aJ s pos).1:Int)=0))=true->sR aq 56/\yL aq (On w17) 56 [.int .i32 ((aJ s pos).1:Int)].toArray (.bool (wF ((aJ s pos).1:Int))))/\True) hA H ⟨⟨rK,uG λw hw=>by exact BI ((aJ s pos).1:Int) w⟩,λ_=>⟨rK,uG λw hw=>by exact Xi ((aJ s pos).1:Int) w⟩,tv⟩ λa w19 hA H hG=>?_;refine Jm _ _ ?_;refine jC hA (.tmp 19) ((decide (cls ((aJ s pos).1:Int)=0)) && (!(wF ((aJ s pos).1:Int)))) (λabu=>?_) (λabu=>?_)
  .have Qg:=(⟨aP ((aT abu).1),(nT ((aT abu).2))⟩:_/\_);refine iG λK21 ajy=>?_;refine jf [(2,iv (pos:Int)),(3,.bool true)] hA H λa w22 hA H hG=>?_;refine ajy _ _ ?_;refine kW ?_;refine Ov 2 3 (.int .i64 (pos:Int)) (.bool true) hA ?_;exact Wa (by rw[<-hi,ja s pos zk];simp only[Eu];rw[ak ⟨Qg.1,Qg.2⟩];exact⟨rfl,rfl⟩) H.below
  have Qg:=(aF abu).imp (λh=>bh h) (λh=>(nF h));refine go_skip ?_;refine⟨(pos+(aJ s pos).2),⟨mu _ hA,⟨_,H⟩,?_⟩,?_⟩
  ·(try dsimp only);exact by have qm:=hi;rw[ja s pos zk] at qm;simp only[Eu] at qm;rw[ah (by intro hh;have h:=Qg;simp_all)] at qm;exact qm
  (try dsimp only);omega
 skip
 refine oY 1 1 [] [(7,pv b6),(8,.tuple #[.bool false]),(9,.bool false)] (TT/\True) hA H ⟨tv,tv⟩ λa w23 hA H hG=>?_;refine mN ?_;refine Xm _ _ ?_;refine iG λK24 aeB=>?_;refine jC hA (.tmp 9) false (λh=>by cases h) (λ_=>?_);refine zz 0 ?_;refine vh _ _ ?_;refine iG λK26 ajz=>?_;refine jf [(2,iv 0),(3,.bool false)] hA H λa w27 hA H hG=>?_;refine ajz _ _ ?_;refine kW ?_;refine Ov 2 3 (.int .i64 0) (.bool false) hA ?_;exact Wa (by rw[<-hi,j9 s pos zk];exact⟨rfl,rfl⟩) H.below
theorem Ss (s:ByteArray)(o:Orig)(hs:s.size<=1000000000):
 Calls aq 36 [.string s].toArray o.w (FW o (λS v w'=>Rd S w' v (mX s))):=by
 refine enter f36 49 func36 λa hA=>?_;replace hA:=mu [(0,.string s)] hA;have H:=Fr.start o;refine iG λK1 kU=>?_;refine jf [(0,.string s)] hA H λa w2 hA H hG=>?_;refine kU _ _ ?_;refine iG λK3 vh=>?_;refine jf [(0,.string s),(3,(.slice none 0 0))] hA H λa w4 hA H hG=>?_;refine vh _ _ ?_;refine iG λK5 YV=>?_;refine jf [(0,.string s),(3,(.slice none 0 0)),(4,iv (-1))] hA H λa w6 hA H hG=>?_;refine YV _ _ ?_;refine iG λK7 hK7=>?_;refine iG λK8 hK8=>?_;refine mg ?_;refine oY 0 1 [] [(0,.string s),(3,(.slice none 0 0)),(4,iv (-1)),(8,.string s)] (True) hA H tv λa w9 hA H hG=>?_;refine pS 1 ?_;refine CB 1 9 9 (.tmp 8) s [(0,.string s),(3,(.slice none 0 0)),(4,iv (-1))] hA H Tryz.underlying9 λFc a w11 H hA hG abv=>?_;clear abv;refine mN ?_;refine hK8 _ _ ?_;refine ov 0 ?_;replace H:=H.newRow (α:=Int×ByteArray) 135;replace H:Fr _ _ _ [.iter Fc s 0,.row 135 (.slice none 0 0) ([]:List (Int×ByteArray))]:=H.swap;refine zA (Nat×af×Int×List (Int×ByteArray)) (λx_ a W=>(λ(pos:Nat) (v:af) (b:Int) (l:List (Int×ByteArray))=>jR 49 a (kV [(0,.string s),(3,v),(4,iv b),(9,pv Fc)])/\(∃S,Fr o W S [.iter Fc s pos,.row 135 v l])/\-1<=b/\b<=(pos:Int)/\b<=(s.size:Int)/\(l.length<=pos/\l.length<=s.size)/\su s (jY s pos) b l=mX s) x_.1 x_.2.1 x_.2.2.1 x_.2.2.2) (λx_=>(λ(pos:Nat) (v:af) (b:Int) (l:List (Int×ByteArray))=>s.size-pos) x_.1 x_.2.1 x_.2.2.1 x_.2.2.2) (0,.slice none 0 0,-1,[]) ?_ (λx_ a w13 hI=>?_)
 ·(try dsimp only);exact⟨mu _ hA,⟨_,H⟩,by omega,by omega,by omega,by simp,rfl⟩
 obtain⟨pos,v,b,l⟩:=x_;have⟨hA,⟨S,H⟩,h1,h2,h3,h4,hi⟩:=hI
 try dsimp only at h1 h2 h3 h4 hi
 replace H:Fr _ _ _ [.iter Fc s pos,.row 135 v l]:=H;refine iG λK14 Jo=>?_;refine mg ?_;refine pS 0 ?_;refine HF 0 10 (.tmp 9) 0 Fc s pos [(0,.string s),(3,v),(4,iv b),(9,pv Fc)] hA H rfl (λN8 a w16 H hA hG=>?_) (λN8 a hA=>?_)
 .replace H:Fr _ _ _ [.iter Fc s (pos+(aJ s pos).2),.row 135 v l]:=H;have hwd:=nX s pos N8;refine oY 1 1 [] [(0,.string s),(3,v),(4,iv b),(9,pv Fc),(10,.tuple #[.bool true,.int .i64 (pos:Int),.int .i32 ((aJ s pos).1:Int)]),(11,.bool true)] (TT/\True) hA H ⟨tv,tv⟩ λa w17 hA H hG=>?_;refine mN ?_;refine Jo _ _ ?_;refine iG λK18 Jm=>?_;refine jC hA (.tmp 11) true (λ_=>?_) (λh=>by cases h);refine go_skip ?_;refine Jm _ _ ?_;refine ov 1 ?_;refine iG λK20 Xg=>?_;refine q_reg [] [(0,.string s),(3,v),(4,iv b),(5,iv (pos:Int)),(6,.int .i32 ((aJ s pos).1:Int)),(9,pv Fc)] (TT/\TT/\True) hA H ⟨tv,tv,tv⟩ λa w21 hA H hG=>?_;refine Xg _ _ ?_;refine iG λK22 N7=>?_;refine q_reg [(15,iv (cls ((aJ s pos).1:Int)))] [(0,.string s),(3,v),(4,iv b),(5,iv (pos:Int)),(7,.bool (decide (cls ((aJ s pos).1:Int)=4))),(9,pv Fc)] ((sR aq 55/\yL aq (On w21) 55 [.int .i32 ((aJ s pos).1:Int)].toArray (.int .i64 (cls ((aJ s pos).1:Int))))/\True) hA H ⟨⟨rK,uG λw hw=>by exact BI ((aJ s pos).1:Int) w⟩,tv⟩ λa w23 hA H hG=>?_;refine N7 _ _ ?_;refine iG λK24 aeB=>?_;refine iG λK25 N6=>?_;refine jf [(0,.string s),(3,v),(4,iv b),(5,iv (pos:Int)),(7,.bool (decide (cls ((aJ s pos).1:Int)=4))),(9,pv Fc),(21,.bool ((decide (cls ((aJ s pos).1:Int)=4)) && (decide ((0:Int)<=b))))] hA H λa w26 hA H hG=>?_;refine N6 _ _ ?_;refine jC hA (.tmp 21) ((decide (cls ((aJ s pos).1:Int)=4)) && (decide ((0:Int)<=b))) (λBJ=>?_) (λBJ=>?_)
  .have nN:=(⟨aP ((aT BJ).1),aP ((aT BJ).2)⟩:_/\_);refine iG λK28 Xj=>?_;refine mg ?_;refine oY 0 7 [(27,.string (s.extract (b).toNat ((pos:Int)).toNat)),(28,.agg #[.int .i64 b,.string (s.extract (b).toNat ((pos:Int)).toNat)])] [(0,.string s),(5,iv (pos:Int)),(7,.bool (decide (cls ((aJ s pos).1:Int)=4))),(9,pv Fc),(22,v),(28,.agg #[.int .i64 b,.string (s.extract (b).toNat ((pos:Int)).toNat)])] ((∀w,(cF 9 (.string s) (some (.int .i64 b)) (some (.int .i64 (pos:Int))) none).run aq w= .ok (.string (s.extract (b).toNat ((pos:Int)).toNat)) w)/\(∀w,(al3 135 #[(0,iv b),(1,.string (s.extract (b).toNat ((pos:Int)).toNat))]).run aq w= .ok (.agg #[.int .i64 b,.string (s.extract (b).toNat ((pos:Int)).toNat)]) w)/\True) hA H ⟨λw=>zD Tryz.underlying9 w (by omega) (by omega) (by omega),λw=>by kernel_rfl,tv⟩ λa w29 hA H hG=>?_;refine pS 7 ?_;refine acd 7 29 104 1 #[(0,.tmp 28)] 135 [(0,.agg #[.int .i64 b,.string (s.extract (b).toNat ((pos:Int)).toNat)])] [.int .i64 b,.string (s.extract (b).toNat ((pos:Int)).toNat)] [(0,.string s),(5,iv (pos:Int)),(7,.bool (decide (cls ((aJ s pos).1:Int)=4))),(9,pv Fc),(22,v)] hA H λb30 a w31 H hA hG abw=>?_;clear abw;refine pS 8 ?_;refine Ts 8 30 (.tmp 22) (.tmp 29) 2 0 b30 1 1 v l [(b,s.extract (b).toNat ((pos:Int)).toNat)] [.int .i64 b,.string (s.extract (b).toNat ((pos:Int)).toNat)] [(0,.string s),(5,iv (pos:Int)),(7,.bool (decide (cls ((aJ s pos).1:Int)=4))),(9,pv Fc)] hA H Tryz.ahp rfl rfl (by exact(jP.single (α:=Int×ByteArray) ⟨[_],_,rfl,rfl,rfl⟩)) rfl (by simp only[bA,cq,aO];omega) (by decide) λv32 a w33 H hA hG=>?_;replace H:Fr _ _ _ [.iter Fc s (pos+(aJ s pos).2),.row 135 v32 (l++[(b,s.extract (b).toNat ((pos:Int)).toNat)])]:=H.drop 0;refine oY 9 1 [] [(0,.string s),(3,v32),(5,iv (pos:Int)),(7,.bool (decide (cls ((aJ s pos).1:Int)=4))),(9,pv Fc)] (True) hA H tv λa w34 hA H hG=>?_;refine mN ?_;refine Xj _ _ ?_;refine jf [(0,.string s),(3,v32),(4,iv (-1)),(5,iv (pos:Int)),(7,.bool (decide (cls ((aJ s pos).1:Int)=4))),(9,pv Fc)] hA H λa w35 hA H hG=>?_;refine aeB _ _ ?_;refine iG λK36 aew=>?_;refine jf [(0,.string s),(3,v32),(4,iv (-1)),(5,iv (pos:Int)),(9,pv Fc),(36,.bool ((!(decide (cls ((aJ s pos).1:Int)=4))) && (decide ((-1:Int)<0))))] hA H λa w37 hA H hG=>?_;refine aew _ _ ?_;refine jC hA (.tmp 36) ((!(decide (cls ((aJ s pos).1:Int)=4))) && (decide ((-1:Int)<0))) (λh=>by simp[(aT BJ).1] at h) (λ_=>?_);refine go_skip ?_;refine⟨(pos+(aJ s pos).2,v32,-1,l++[(b,s.extract (b).toNat ((pos:Int)).toNat)]),⟨mu _ hA,⟨_,H⟩,?_⟩,?_⟩
   ·(try dsimp only);exact⟨by omega,by omega,by omega,by first|omega|(rw[aO];simp only[bA,cq];omega),by have qm:=hi;rw[ja s pos N8] at qm;simp only[su] at qm;(repeat' split at qm)<;>first|exact qm|(exfalso;omega)⟩
   (try dsimp only);omega
  have nN:=(aF BJ).imp (λh=>bh h) (λh=>bh h);refine go_skip ?_;refine aeB _ _ ?_;refine iG λK39 ajA=>?_;refine jf [(0,.string s),(3,v),(4,iv b),(5,iv (pos:Int)),(9,pv Fc),(36,.bool ((!(decide (cls ((aJ s pos).1:Int)=4))) && (decide (b<0))))] hA H λa w40 hA H hG=>?_;refine ajA _ _ ?_;refine jC hA (.tmp 36) ((!(decide (cls ((aJ s pos).1:Int)=4))) && (decide (b<0))) (λabx=>?_) (λabx=>?_)
  .have ahu:=(⟨bh (nT ((aT abx).1)),aP ((aT abx).2)⟩:_/\_);refine jf [(0,.string s),(3,v),(4,iv (pos:Int)),(9,pv Fc)] hA H λa w42 hA H hG=>?_;refine⟨(pos+(aJ s pos).2,v,(pos:Int),l),⟨mu _ hA,⟨_,H⟩,?_⟩,?_⟩
   ·(try dsimp only);exact⟨by omega,by omega,by omega,by first|omega|(rw[aO];simp only[bA,cq];omega),by have qm:=hi;rw[ja s pos N8] at qm;simp only[su] at qm;(repeat' split at qm)<;>first|exact qm|(exfalso;omega)⟩
   (try dsimp only);omega
  have ahu:=(aF abx).imp (λh=>aP (nF h)) (λh=>bh h);refine go_skip ?_;refine⟨(pos+(aJ s pos).2,v,b,l),⟨mu _ hA,⟨_,H⟩,?_⟩,?_⟩
  ·(try dsimp only);exact⟨by omega,by omega,by omega,by first|omega|(rw[aO];simp only[bA,cq];omega),by have qm:=hi;rw[ja s pos N8] at qm;simp only[su] at qm;(repeat' split at qm)<;>first|exact qm|(exfalso;omega)⟩
  (try dsimp only);omega
 skip
 refine oY 1 1 [] [(0,.string s),(3,v),(4,iv b),(9,pv Fc),(10,.tuple #[.bool false]),(11,.bool false)] (TT/\True) hA H ⟨tv,tv⟩ λa w43 hA H hG=>?_;refine mN ?_;refine Jo _ _ ?_;refine iG λK44 aht=>?_;refine jC hA (.tmp 11) false (λh=>by cases h) (λ_=>?_);refine zz 0 ?_;refine hK7 _ _ ?_;refine iG λK46 abp=>?_;refine iG λK47 ajB=>?_;refine jf [(0,.string s),(3,v),(4,iv b),(39,.bool (decide ((0:Int)<=b)))] hA H λa w48 hA H hG=>?_;refine ajB _ _ ?_;refine jC hA (.tmp 39) (decide ((0:Int)<=b)) (λaeC=>?_) (λaeC=>?_)
 .have Xn:=aP aeC;refine mg ?_;refine oY 0 6 [(44,.string (s.extract (b).toNat s.size)),(45,.agg #[.int .i64 b,.string (s.extract (b).toNat s.size)])] [(40,v),(45,.agg #[.int .i64 b,.string (s.extract (b).toNat s.size)])] ((∀w,(cF 9 (.string s) (some (.int .i64 b)) none none).run aq w= .ok (.string (s.extract (b).toNat s.size)) w)/\(∀w,(al3 135 #[(0,iv b),(1,.string (s.extract (b).toNat s.size))]).run aq w= .ok (.agg #[.int .i64 b,.string (s.extract (b).toNat s.size)]) w)/\True) hA H ⟨λw=>BQ Tryz.underlying9 w (by omega) (by omega),λw=>by kernel_rfl,tv⟩ λa w50 hA H hG=>?_;refine pS 6 ?_;refine acd 6 46 104 1 #[(0,.tmp 45)] 135 [(0,.agg #[.int .i64 b,.string (s.extract (b).toNat s.size)])] [.int .i64 b,.string (s.extract (b).toNat s.size)] [(40,v)] hA H λb51 a w52 H hA hG aby=>?_;clear aby;refine pS 7 ?_;refine Ts 7 47 (.tmp 40) (.tmp 46) 2 0 b51 1 1 v l [(b,s.extract (b).toNat s.size)] [.int .i64 b,.string (s.extract (b).toNat s.size)] [] hA H Tryz.ahp rfl rfl (by exact(jP.single (α:=Int×ByteArray) ⟨[_],_,rfl,rfl,rfl⟩)) rfl (by simp only[bA,cq,aO];omega) (by decide) λv53 a w54 H hA hG=>?_;replace H:Fr _ _ _ [.iter Fc s pos,.row 135 v53 (l++[(b,s.extract (b).toNat s.size)])]:=H.drop 0;refine oY 8 1 [] [(3,v53)] (True) hA H tv λa w55 hA H hG=>?_;refine mN ?_;refine abp _ _ ?_;refine iG λK56 ajC=>?_;refine jf [(2,v53)] hA H λa w57 hA H hG=>?_;refine ajC _ _ ?_;refine kW ?_;refine lU 2 v53 hA ?_;have ho:=H.ac9 1 rfl;rw[j9 s pos N8] at hi;simp only[su] at hi;simp only[Xn,if_true,if_false] at hi;rw[hi] at ho;exact⟨_,rfl,ho,H.below⟩
 have Xn:=bh aeC;refine go_skip ?_;refine abp _ _ ?_;refine iG λK58 aeA=>?_;refine jf [(2,v)] hA H λa w59 hA H hG=>?_;refine aeA _ _ ?_;refine kW ?_;refine lU 2 v hA ?_;have ho:=H.ac9 1 rfl;rw[j9 s pos N8] at hi;simp only[su] at hi;simp only[Xn,if_true,if_false] at hi;rw[hi] at ho;exact⟨_,rfl,ho,H.below⟩
def acU (ops:Array Oper):Bool:=ops.toList.all λo=>match o.op with| .defer _=>false|_=>true
theorem abz {ops:Array Oper}(h:acU ops=true){o:Oper}(ho:o∈ops.toList):∀c,o.op≠.defer c:=by
 intro c e;have:=aY.1 h o ho;rw[e] at this;cases this
abbrev Rnd (l:Nat):Fence:=aW.inRound l
section
variable {P:az}{ops:Array Oper}{Q:Exit->Act->aa->Prop}{a:Act}{w:aa}
theorem ahv {G:Fence}{n:Nat}(Zi:∀f,G.fn f)(hd:G.depth=none)(wY:∀f args w R,Calls P f args w R->CallsIn G (n-1) P f args w R)(oe:∀row args w R,Rows P row args w R->RowsIn G (n-1) P row args w R)(hQ:¬LetsOut Q){o:Oper}{K:Act->aa->Prop}(hdf:∀c,o.op≠.defer c)
  (h:o.wp P a w K Q\/(o.asks P a w/\LetsOut Q)):o.wpIn G n P a w K Q:=by
 rcases h with h|⟨_,h⟩
 .refine⟨λf _=>Zi f,?_⟩;rw[Oper.semAt_eq _ _ _ hdf];unfold Oper.wp at h;generalize (execOp a.eval o).run P w=r at*
  cases r with
  |ok x w'=>
   cases x<;>simp only[ak4,ak5] at h ⊢ <;>first
    |exact⟨λe=>(by rw[hd] at e;cases e),wY _ _ _ _ h⟩
    |exact⟨λe=>(by rw[hd] at e;cases e),oe _ _ _ _ h⟩
    |exact h
    |exact(h:False).elim
  |halt x w'=>cases x<;>simp only[ak4,ak5] at h ⊢ <;>exact h
 exact(hQ h).elim
theorem Qh {G:Fence}{n:Nat}(Zi:∀f,G.fn f)(hd:G.depth=none)(wY:∀f args w R,Calls P f args w R->CallsIn G (n-1) P f args w R)(oe:∀row args w R,Rows P row args w R->RowsIn G (n-1) P row args w R)(hQ:¬LetsOut Q):
  ∀(l:List Oper) (a:Act) (w:aa),(∀o∈l,∀c,o.op≠.defer c)->wpList P ops Q l a w->wpListIn G n P ops Q l a w
 |[],a,w,_,h=>h
 |o::l,a,w,hl,h=>by
  simp only[wpList] at h;simp only[wpListIn];have ih:=λa w=>Qh Zi hd wY oe hQ l a w (λo' Jz=>hl o' (aE _ Jz))
  by_cases hw:cV o (yielded ops a.tmps)=true
  .rw[ak hw] at h ⊢;exact aoS ih (ahv Zi hd wY oe hQ (hl o aA) h)
  rw[ah hw] at h ⊢;exact⟨λf _=>Zi f,ih _ _ h⟩
end
section
variable {P:az}{B:Code}{p:List Nat}{Q:oa}{a:Act}{w:aa}{l n:Nat}
theorem aiw (row:String)(args:Array af)(w:aa)(R:af->aa->Prop)(h:Rows P row args w R):RowsIn (Rnd l) n P row args w R:=
 λc cs _=>let⟨v,w',r,s⟩:=h c cs;⟨v,w',r,stepsIn_wide.2 s⟩
end
section
variable {P:az}{ops:Array Oper}{Q:Exit->Act->aa->Prop}{n:Nat}
theorem Xo {k:Nat}(row:String)(args:Array af)(w:aa)(R:af->aa->Prop)(h:Rows P row args w R):RowsIn aW k P row args w R:=
 λc cs _=>let⟨v,w',r,s⟩:=h c cs;⟨v,w',r,stepsIn_wide.2 s⟩
theorem uC {F:Fence}{rest:List Oper}:∀(l:List Oper) (a:Act) (w:aa),wpListIn F n P ops (Exit.then (wpListIn F n P ops Q rest) Q) l a w->wpListIn F n P ops Q (l++rest) a w
 |[],a,w,h=>h
 |o::l,a,w,h=>by
  simp only[wpListIn,dN] at h ⊢
  by_cases hw:cV o (yielded ops a.tmps)=true
  .rw[ak hw] at h ⊢;refine aoS (uC l) ⟨h.1,?_⟩;have h2:=h.2;generalize (o.semAt F.round a.eval).run P w=r at*
   cases r with
   |ok x w'=>cases x<;>exact h2
   |halt x w'=>cases x<;>exact h2
  rw[ah hw] at h ⊢;exact⟨h.1,uC l _ _ h.2⟩
variable {B:Code}{p:List Nat}{a:Act}{w:aa}
theorem Hq (n:Nat)(k:wpListIn aW n P (opsOf (sub B p)) Q ((opsOf (sub B p)).toList.drop 0) a w)(hd:AR (sub B p)=some false:=by kernel_rfl):(sub B p).wp P Q a w:=by
 cases yy:sub B p<;>rw[yy] at hd<;>first|(cases hd;done)|skip
 rename_i id ops d;simp only[AR,bQ] at hd;subst hd;rw[yy] at k;exact wpIn_wide.1 (wpIn_region_list k)
theorem C0 {m:Nat}{env:Env}{w0:Orig}{S:iF}{rs:List o9}(i k:Nat)(mJ:List (Nat×af))(keep:List (Nat×af))(pr:Prop)(ha:jR m a env)(H:Fr w0 w S rs)(hp:pr)(hQ:¬LetsOut Q)
  (kk:∀a' w',jR m a' (kV keep)->Fr w0 w' S rs->Below w.heap.size w w'->wpListIn aW n P ops Q (ops.toList.drop (i+k)) a' w')
  (h:zB P (On w) m ops mJ ((ops.toList.drop i).take k) env keep pr:=by delta zB;kernel_rfl) (hc:acU ops=true:=by kernel_rfl):wpListIn aW n P ops Q (ops.toList.drop i) a w:=by
 obtain⟨uF,h1,hk⟩:=Df h;have h2:=sG (P:=P) (ops:=ops) (Q:=Exit.then (wpListIn aW n P ops Q (ops.toList.drop (i+k))) Q) (rest:=[]) (K:=λa'=>jR m a' (kV keep)) ((ops.toList.drop i).take k) a w (On.self w)
  (Db ha h1 hp λa' Y1=>HC keep Y1 hk) (λa' w' zm Y1=>kk a' w' Y1 (H.on zm) zm)
 rw[bq] at h2;have h3:=Qh (G:=aW) (n:=n) (Q:=Exit.then (wpListIn aW n P ops Q (ops.toList.drop (i+k))) Q) (λ_=>trivial) rfl (λf args w R h=>callsIn_wide.2 h) (λrow args w R h=>Xo row args w R h) (λ⟨a,w,h⟩=>hQ ⟨a,w,h⟩) _ a w
  (λo ho=>abz hc (List.mem_of_mem_drop (dh ho))) h2
 have h4:=uC _ a w h3;rw[<-List.drop_drop,dO] at h4;exact h4
theorem yw {i:Nat}(k:Q .normal a w)(h:decide (ops.size<=i)=true:=by kernel_rfl):wpListIn aW n P ops Q (ops.toList.drop i) a w:=by
 rw[alk (by simpa using aP h)];exact k
theorem Qi {m:Nat}{env:Env}(i d l:Nat)(x:aL)(args:Array aL)(ats:Array TypeId)(us:List af){R:Ending->aa->Prop}(keep:List (Nat×af))(ha:jR m a env)
  (hy:YieldAt aW (n-1) P l us.toArray w R)
  (k:∀e w',R e w'->∃v,e= .returned v/\∀a',jR m a' (kV ((d,v)::keep))->wpListIn aW n P ops Q (ops.toList.drop (i+1)) a' w')
  (h:QF ops i=some (.call {callee:=.value x,args:=args,argTypes:=ats},some d,none):=by kernel_rfl) (hx:getOp env [] x=some (.func (.yield l) #[] #[]):=by kernel_rfl) (lC:(args.toList.map (getOp env [])).mapM id=some us:=by kernel_rfl)
  (hk:sS m d env keep:=by delta sS;kernel_rfl):wpListIn aW n P ops Q (ops.toList.drop i) a w:=by
 obtain⟨o,ho,he⟩:=Option.map_eq_some_iff.1 h;simp only[Prod.mk.injEq] at he;have⟨h1,h2,h3⟩:=he;obtain⟨AJ,Jz⟩:=b7.1 ho;rw[akE AJ,Jz];refine wpListIn_plain h3 λK hK=>⟨λf _=>trivial,?_⟩;have wM:nt a []:=λl hl=>by simp at hl
 have M4:=uE (ρ:=a.eval) (λx u hx=>mB ha wM x u hx) args us lC;have⟨fn,tmps,assign,body,hy1,hy2⟩:=hy;have e:(o.semAt (aW).round a.eval).run P w= .ok (.round l fn tmps assign body) w:=by
  show(execOp a.eval o).run P w=_;have ajD:=hy1;simp[execOp,h1,resolve,M4,mB ha wM _ _ hx,amQ,invoke,ajD]
 rw[e];refine⟨λe=>(by cases e),hy2.mono λe w' hR=>?_⟩;obtain⟨v,rfl,hv⟩:=k e w' hR;exact hK _ _ (hv _ (zC (o:=o) keep ha h2 hk))
end
abbrev ahw (w:aa):Orig:=⟨{w with heap:= #[]},λ_=>False,λ_ h=>h.elim⟩
theorem aeD {w:aa}{b:Nat}{t:TypeId}{vs:List af}(hb:w.heap[b]?=some (.cells vs.toArray t (0,0))):Fr (ahw w) w (λ_=>False) [.box b t vs] where
 below:=⟨rfl,rfl,rfl,bu _,λk hk=>absurd hk (amG k)⟩
 src _ h:=h.elim
 nO _ h:=h.elim
 ok r hr:=by rw[av.1 hr];exact hb
 own r hr b' qh:=by
  rw[av.1 hr] at qh;cases qh;exact⟨bu _,(cI.1 hb).1,λh=>h⟩
 nodup:=by show List.Nodup [b];simp
structure KpB (b:Nat)(A C:aa):Prop where
 os:C.os=A.os
 tape:C.tape=A.tape
 output:C.output=A.output
 box:C.heap[b]?=A.heap[b]?
 size:A.heap.size<=C.heap.size
 walks:∀(r:Nat) (s:ByteArray) (p:Nat),A.heap[r]?=some (dH s p)->C.heap[r]?=some (dH s p)
def AbS {β:Type}(B:Nat)(J:β->aa->Prop):Prop:=
 ∀(x:β) (W W':aa) (row:Option Nat),J x W->W.grownBy W' row->(∀r,row=some r->B<=r/\∃s p,W.heap[r]?=some (dH s p))->J x W'
theorem Qj {o:Orig}{w w':aa}{S:iF}{b bi pos:Nat}{s:ByteArray}{t:TypeId}{vs:List af}(ho:o.w.heap.size=0)(H:Fr o w S [.iter bi s pos,.box b t vs])(hk:KpB b w w'):Fr o w' (λ_=>False) [.iter bi s pos,.box b t vs] where
 below:=⟨hk.os.trans H.below.os,hk.tape.trans H.below.tape,hk.output.trans H.below.output,by rw[ho];exact bu _,λk hk=>by rw[ho] at hk;exact absurd hk (amG k)⟩
 src _ h:=h.elim
 nO _ h:=h.elim
 ok r hr:=by
  have:=H.ok r hr;simp only[aC,ak6,or_false] at hr;rcases hr with rfl|rfl
  .exact hk.walks _ _ _ this
  exact hk.box.trans this
 own r hr k hk':=by
  obtain⟨h1,h2,h3⟩:=H.own r hr k hk';exact⟨h1,bf h2 hk.size,λh=>h⟩
 nodup:=H.nodup
abbrev Has {β:Type}(J:β->aa->Prop)(B:Nat)(x:β)(w:aa):Prop:=J x w/\B<=w.heap.size
theorem Has.on {β:Type}{J:β->aa->Prop}{B:Nat}{x:β}{w w':aa}(hJ:AbS B J)(h:Has J B x w)(hb:Below w.heap.size w w'):Has J B x w':=
 ⟨hJ x w w' none h.1 ⟨hb.os,hb.tape,hb.output,hb.size,λk hk _=>hb.block k hk⟩ (λr e=>by cases e),aU h.2 hb.size⟩
theorem Has.next {β:Type}{J:β->aa->Prop}{B b pos:Nat}{s:ByteArray}{x:β}{w w':aa}(hJ:AbS B J)(h:Has J B x w)(hb:B<=b)(hi:w.heap[b]?=some (dH s pos))(hg:w.grownBy w' (some b)):Has J B x w':=
 ⟨hJ x w w' (some b) h.1 hg (λr e=>by cases e;exact⟨hb,_,_,hi⟩),aU h.2 hg.size⟩
theorem jon {β:Type}{J:β->aa->Prop}{B:Nat}{x:β}{w w':aa}(hJ:AbS B J)(h:J x w)(hb:Below w.heap.size w w'):J x w':=
 hJ x w w' none h ⟨hb.os,hb.tape,hb.output,hb.size,λk hk _=>hb.block k hk⟩ (λr e=>by cases e)
theorem Has.kp {β:Type}{J:β->aa->Prop}{B b:Nat}{x:β}{w w':aa}(h:J x w')(hB:B<=w.heap.size)(hk:KpB b w w'):Has J B x w':=⟨h,aU hB hk.size⟩
theorem N9 (l b:Nat)(s:ByteArray)(J Jx:List (Int×ByteArray)->aa->Prop)(w:aa)(hs:s.size<=1000000000)(hb:w.heap[b]?=some (.cells #[.string s] 9 (0,0)))(hJ:AbS w.heap.size J)(hJx:AbS w.heap.size Jx)(hY:∀(pre:List (Int×ByteArray)) (x:Int×ByteArray) (W1:aa),J pre W1->(∃rest,pre++x::rest=oH s)->YieldAt aW 0 aq l #[.int .i64 x.1,.string x.2] W1 λe W'=>(e= .returned (.bool true)/\J (pre++[x]) W'/\KpB b W1 W')\/(e= .returned (.bool false)/\Jx (pre++[x]) W'))(h0:J [] w):
 Calls aq 57 [.func (.yield l) #[] #[],.pointer (some ⟨b,0,none⟩)].toArray w (λe W'=>(∃v,e= .returned v)/\((∃xs,xs=oH s/\J xs W')\/(∃pre,WG s pre/\Jx pre W'))):=by
 refine enter f57 34 func57 λa hA=>?_;replace hA:=mu [(0,.func (.yield l) #[] #[]),(1,pv b)] hA;have H:=aeD hb;have hj:Has J w.heap.size [] w:=⟨h0,ay _⟩;refine iG λK1 kU=>?_;refine jf [(0,.func (.yield l) #[] #[]),(1,pv b),(3,iv 0)] hA H λa w2 hA H hG=>?_;replace hj:=hj.on hJ hG;refine kU _ _ ?_;refine iG λK3 vh=>?_;refine iG λK4 Hj=>?_;refine mg ?_;refine oY 0 1 [(6,.string s)] [(0,.func (.yield l) #[] #[]),(1,pv b),(3,iv 0),(6,.string s)] ((vz (On w2) b (0) (.string s))/\True) hA H ⟨by exact zF H 0 rfl 0,tv⟩ λa w5 hA H hG=>?_;replace hj:=hj.on hJ hG;refine pS 1 ?_;refine CB 1 7 9 (.tmp 6) s [(0,.func (.yield l) #[] #[]),(1,pv b),(3,iv 0)] hA H Tryz.underlying9 λb6 a w7 H hA hG EV=>?_;replace EV:=aU hj.2 EV;replace hj:=hj.on hJ hG;refine mN ?_;refine Hj _ _ ?_;refine ov 0 ?_;refine zA (Nat×Int×List (Int×ByteArray)) (λx_ a W=>(λ(pos:Nat) (start:Int) (pre:List (Int×ByteArray))=>jR 34 a (kV [(0,.func (.yield l) #[] #[]),(1,pv b),(3,iv start),(7,pv b6)])/\(∃S,Fr (ahw w) W S [.iter b6 s pos,.box b 9 [.string s]])/\pos<=s.size/\0<=start/\start<=(pos:Int)/\(pre.length:Int)<=start/\pre++(JI s (s.size-pos) pos start).map (I3 s)=oH s/\Has J w.heap.size pre W) x_.1 x_.2.1 x_.2.2) (λx_=>(λ(pos:Nat) (start:Int) (pre:List (Int×ByteArray))=>s.size-pos) x_.1 x_.2.1 x_.2.2) (0,0,[]) ?_ (λx_ a w9 hI=>?_)
 ·(try dsimp only);exact⟨mu _ hA,⟨_,H⟩,by omega,by omega,by omega,by simp,rfl,hj⟩
 obtain⟨pos,start,pre⟩:=x_;have⟨hA,⟨S,H⟩,h1,h2,h3,h4,hi,hj⟩:=hI
 try dsimp only at h1 h2 h3 h4 hi hj
 replace H:Fr _ _ _ [.iter b6 s pos,.box b 9 [.string s]]:=H;refine iG λK10 Xm=>?_;refine mg ?_;have hit:=H.Om 0 rfl;refine pS 0 ?_;refine HF 0 8 (.tmp 7) 0 b6 s pos [(0,.func (.yield l) #[] #[]),(1,pv b),(3,iv start),(7,pv b6)] hA H rfl (λzk a w12 H hA hG=>?_) (λzk a hA=>?_)
 .replace H:Fr _ _ _ [.iter b6 s (pos+(aJ s pos).2),.box b 9 [.string s]]:=H;have hwd:=nX s pos zk;replace hj:=hj.next hJ EV hit hG;refine oY 1 1 [] [(0,.func (.yield l) #[] #[]),(1,pv b),(3,iv start),(7,pv b6),(8,.tuple #[.bool true,.int .i64 (pos:Int),.int .i32 ((aJ s pos).1:Int)]),(9,.bool true)] (TT/\True) hA H ⟨tv,tv⟩ λa w13 hA H hG=>?_;replace hj:=hj.on hJ hG;refine mN ?_;refine Xm _ _ ?_;refine iG λK14 Jo=>?_;refine jC hA (.tmp 9) true (λ_=>?_) (λh=>by cases h);refine go_skip ?_;refine Jo _ _ ?_;refine ov 1 ?_;refine iG λK16 Xl=>?_;refine q_reg [] [(0,.func (.yield l) #[] #[]),(1,pv b),(3,iv start),(4,iv (pos:Int)),(5,.int .i32 ((aJ s pos).1:Int)),(7,pv b6)] (TT/\TT/\True) hA H ⟨tv,tv,tv⟩ λa w17 hA H hG=>?_;replace hj:=hj.on hJ hG;refine Xl _ _ ?_;refine iG λK18 Jm=>?_;refine iG λK19 aet=>?_;refine jf [(0,.func (.yield l) #[] #[]),(1,pv b),(3,iv start),(4,iv (pos:Int)),(7,pv b6),(13,.bool (!decide (((aJ s pos).1:Int)=10)))] hA H λa w20 hA H hG=>?_;replace hj:=hj.on hJ hG;refine aet _ _ ?_;refine jC hA (.tmp 13) (!decide (((aJ s pos).1:Int)=10)) (λaeE=>?_) (λaeE=>?_)
  .have Qk:=bh (nT aeE);refine zz 1 ?_;refine⟨(pos+(aJ s pos).2,start,pre),⟨mu _ hA,⟨_,H⟩,?_⟩,?_⟩
   ·(try dsimp only);exact⟨by have:=(EK (from_:=start) zk Qk).2;omega,by omega,by omega,by omega,by rw[(EK zk Qk).1] at hi;exact hi,hj⟩
   (try dsimp only);omega
  have Qk:=aP (nF aeE);refine go_skip ?_;refine Jm _ _ ?_;refine iG λK22 N7=>?_;refine iG λK23 Mb=>?_;have MC:=Qk;refine Hq 1 ?_;refine C0 0 6 [(16,.string s),(19,.string (s.extract (start).toNat ((pos:Int)).toNat))] [(0,.func (.yield l) #[] #[]),(1,pv b),(4,iv (pos:Int)),(7,pv b6),(14,.func (.yield l) #[] #[]),(15,iv start),(19,.string (s.extract (start).toNat ((pos:Int)).toNat))] ((vz (On w20) b (0) (.string s))/\(∀w,(cF 9 (.string s) (some (.int .i64 start)) (some (.int .i64 (pos:Int))) none).run aq w= .ok (.string (s.extract (start).toNat ((pos:Int)).toNat)) w)/\True) hA H ⟨by exact zF H 1 rfl 0,λw=>zD Tryz.underlying9 w (by omega) (by omega) (by omega),tv⟩ (λ⟨_,_,h⟩=>by obtain⟨⟨v,hv⟩,_⟩:=h;cases hv) λa w24 hA H hG=>?_;replace hj:=hj.on hJ hG;refine Qi 6 20 l (.tmp 14) #[.tmp 15,.tmp 19] #[3,9] [.int .i64 start,.string (s.extract (start).toNat ((pos:Int)).toNat)] [(0,.func (.yield l) #[] #[]),(1,pv b),(4,iv (pos:Int)),(7,pv b6)] hA (hY pre (start,s.extract (start).toNat ((pos:Int)).toNat) _ hj.1 ⟨_,by have qm:=hi;rw[(BF zk MC).1,bn] at qm;exact qm⟩) λe w25 ajE=>?_;rcases ajE with⟨rfl,hjn,Xp⟩|⟨rfl,hjx⟩
  .refine⟨_,rfl,λa hA=>?_⟩;replace H:=Qj rfl H Xp;replace hj:=Has.kp hjn hj.2 Xp;refine C0 7 1 [] [(0,.func (.yield l) #[] #[]),(1,pv b),(4,iv (pos:Int)),(7,pv b6),(21,.bool false)] (True) hA H tv (λ⟨_,_,h⟩=>by obtain⟨⟨v,hv⟩,_⟩:=h;cases hv) λa w27 hA H hG=>?_;replace hj:=hj.on hJ hG;refine yw ?_;refine Mb _ _ ?_;refine jC hA (.tmp 21) false (λh=>by cases h) (λ_=>?_);refine go_skip ?_;refine N7 _ _ ?_;refine q_reg [] [(0,.func (.yield l) #[] #[]),(1,pv b),(3,iv ((pos:Int)+1)),(7,pv b6)] ((jm .i64 ((pos:Int)+1))/\True) hA H ⟨⟨by omega,by omega⟩,tv⟩ λa w29 hA H hG=>?_;replace hj:=hj.on hJ hG;refine⟨(pos+(aJ s pos).2,(pos:Int)+1,pre++[(start,s.extract (start).toNat ((pos:Int)).toNat)]),⟨mu _ hA,⟨_,H⟩,?_⟩,?_⟩
   ·(try dsimp only);exact⟨by have:=(BF (from_:=start) zk MC).2;omega,by omega,by have:=(BF (from_:=start) zk MC).2;omega,by rw[aO,bA,cq];omega,by rw[(BF zk MC).1,bn,aoT] at hi;exact hi,hj⟩
   (try dsimp only);omega
  refine⟨_,rfl,λa hA=>?_⟩;clear H;have H:=Fr.start (tT w25);refine C0 7 1 [] [(0,.func (.yield l) #[] #[]),(1,pv b),(4,iv (pos:Int)),(7,pv b6),(21,.bool true)] (True) hA H tv (λ⟨_,_,h⟩=>by obtain⟨⟨v,hv⟩,_⟩:=h;cases hv) λa w30 hA H hG=>?_;replace hjx:=jon hJx hjx hG;refine yw ?_;refine Mb _ _ ?_;refine jC hA (.tmp 21) true (λ_=>?_) (λh=>by cases h);refine kW ?_;refine JX (P:=aq) (fn:=f57) (R:=(λe W'=>(∃v,e= .returned v)/\((∃xs,xs=oH s/\J xs W')\/(∃pre,WG s pre/\Jx pre W')))) hA ?_;exact⟨⟨_,rfl⟩,.inr ⟨_,⟨_,by rw[(BF zk MC).1,bn,aoT] at hi;exact hi⟩,hjx⟩⟩
 skip
 refine oY 1 1 [] [(0,.func (.yield l) #[] #[]),(1,pv b),(3,iv start),(7,pv b6),(8,.tuple #[.bool false]),(9,.bool false)] (TT/\True) hA H ⟨tv,tv⟩ λa w32 hA H hG=>?_;replace hj:=hj.on hJ hG;refine mN ?_;refine Xm _ _ ?_;refine iG λK33 ahs=>?_;refine jC hA (.tmp 9) false (λh=>by cases h) (λ_=>?_);refine zz 0 ?_;refine vh _ _ ?_;refine iG λK35 ajF=>?_;have Fz:pos=s.size:=by omega
 refine q_reg [(25,.string s)] [(0,.func (.yield l) #[] #[]),(1,pv b),(3,iv start),(27,.bool (decide (start<(s.size:Int))))] ((vz (On w32) b (0) (.string s))/\TT/\True) hA H ⟨by exact zF H 1 rfl 0,tv,tv⟩ λa w36 hA H hG=>?_;replace hj:=hj.on hJ hG;refine ajF _ _ ?_;refine jC hA (.tmp 27) (decide (start<(s.size:Int))) (λaeF=>?_) (λaeF=>?_)
 .have ahx:=aP aeF;have rW:pre++[(start,s.extract (start).toNat s.size)]=oH s:=by rw[show s.size-pos=0 by omega] at hi;simp only[JI] at hi;rw[ak (by omega)] at hi;exact hi
  refine Hq 1 ?_;refine C0 0 5 [(30,.string s),(32,.string (s.extract (start).toNat s.size))] [(28,.func (.yield l) #[] #[]),(29,iv start),(32,.string (s.extract (start).toNat s.size))] ((vz (On w36) b (0) (.string s))/\(∀w,(cF 9 (.string s) (some (.int .i64 start)) none none).run aq w= .ok (.string (s.extract (start).toNat s.size)) w)/\True) hA H ⟨by exact zF H 1 rfl 0,λw=>BQ Tryz.underlying9 w (by omega) (by omega),tv⟩ (λ⟨_,_,h⟩=>by obtain⟨⟨v,hv⟩,_⟩:=h;cases hv) λa w38 hA H hG=>?_;replace hj:=hj.on hJ hG;refine Qi 5 33 l (.tmp 28) #[.tmp 29,.tmp 32] #[3,9] [.int .i64 start,.string (s.extract (start).toNat s.size)] [] hA (hY pre (start,s.extract (start).toNat s.size) _ hj.1 ⟨_,rW⟩) λe w39 ajG=>?_;rcases ajG with⟨rfl,hjn,Xp⟩|⟨rfl,hjx⟩
  .refine⟨_,rfl,λa hA=>?_⟩;replace H:=Qj rfl H Xp;replace hj:=Has.kp hjn hj.2 Xp;refine yw ?_;refine AV (P:=aq) (fn:=f57) (R:=(λe W'=>(∃v,e= .returned v)/\((∃xs,xs=oH s/\J xs W')\/(∃pre,WG s pre/\Jx pre W')))) hA ?_;exact⟨⟨_,rfl⟩,.inl ⟨_,rW,hj.1⟩⟩
  refine⟨_,rfl,λa hA=>?_⟩;clear H;have H:=Fr.start (tT w39);refine yw ?_;refine AV (P:=aq) (fn:=f57) (R:=(λe W'=>(∃v,e= .returned v)/\((∃xs,xs=oH s/\J xs W')\/(∃pre,WG s pre/\Jx pre W')))) hA ?_;exact⟨⟨_,rfl⟩,.inr ⟨_,⟨[],by rw[bq];exact rW⟩,hjx⟩⟩
 have ahx:=bh aeF;refine go_skip ?_;refine AV (P:=aq) (fn:=f57) (R:=(λe W'=>(∃v,e= .returned v)/\((∃xs,xs=oH s/\J xs W')\/(∃pre,WG s pre/\Jx pre W')))) hA ?_;have ahy:pre=oH s:=by rw[show s.size-pos=0 by omega] at hi;simp only[JI] at hi;rw[ah (by omega),b9,bq] at hi;exact hi
 exact⟨⟨_,rfl⟩,.inl ⟨_,ahy,hj.1⟩⟩
end Go.Proofs.YtnfdimfepbbbpaaGreatDoor
namespace Go.Proofs.YtnfdimfepbbbpaaGreatDoor
open Go.RowKit Go.Shelf
attribute [local go_sem] Oper.semAt_some
theorem Mc (F:Fence)(n:Nat)(h7:F.fn 119)(Fm:F.round=none)(hn:1<=n)(l Bs rb b off cap:Nat)(zs:List Int)(ajH:zs.length<=9223372036854775807)(J:Nat->aa->Prop)
  (hBs:∀k W,J k W->W.cell? ⟨Bs,0,none⟩=some (.pointer (some ⟨rb,0,none⟩))) (hrb:∀k W,J k W->W.cell? ⟨rb,3,none⟩=some (.slice (some ⟨b,off,none⟩) zs.length cap))
  (hc:∀k W,J k W->∀j,j<zs.length->W.cell? ⟨b,off+j,none⟩=some (.int .i64 (zs.getD j 0)))
  (hY:∀k W,J k W->k<zs.length->YieldAt F (n-1) aq l #[.int .i64 (zs.getD k 0)] W λe W'=>e= .returned (.bool true)/\J (k+1) W')
  (W:aa) (h0:J 0 W):
  CallsIn F n aq 119 #[.func (.yield l) #[] #[],.pointer (some ⟨Bs,0,none⟩)] W λe W'=>(∃v,e= .returned v)/\J zs.length W':=by
 have ajI:=hBs _ _ h0;have ajJ:=hrb _ _ h0;refine callsIn_of_wp func119 rfl h7 ?_ Fm;simp only[Tryz.ntmps119,dK,bA,cq,aoU,aoV,aoW,aoX,aoY,aoZ,cT,dN]
 gi_wp2
 gi_loopw [12] (λi wr=> ∃k:Nat,k<=zs.length/\i= .int .i64 k/\J k wr)
  (λi _=>zs.length-(Go.RowKit.intOf i).toNat)
 case atStart=>exact⟨0,bu _,rfl,h0⟩
 case round=>
  obtain⟨k,hk,rfl,hJs⟩:=hrel;have hcx:k<zs.length->wr.cell? ⟨b,off+k,none⟩=some (.int .i64 (zs.getD k 0)):=λh=>hc k wr hJs k h
  by_cases pg:k<zs.length
  .obtain⟨fn,tmps,assign,body,hy,hR⟩:=hY _ wr hJs pg;have ajK:=hcx pg;generalize zs.getD k 0=x at hy hR ajK;clear hcx
   gi_wp2
   refine hR.mono ?_;rintro e W3 ⟨rfl,hJ3⟩
   gi_wp2
   go_roundw
   case rel=>exact⟨k+1,by omega,by simp,hJ3⟩
   case measure=>simp[Go.RowKit.intOf];omega
  obtain rfl:k=zs.length:=by omega
  gi_wp2
  go_end0
  exact⟨⟨_,rfl⟩,hJs⟩
theorem Oa (F:Fence)(n:Nat)(h7:F.fn 119)(Fm:F.round=none)(hn:1<=n)(l Bs rb cap:Nat)(p:Option Addr)(J:Nat->aa->Prop)
  (hBs:∀k W,J k W->W.cell? ⟨Bs,0,none⟩=some (.pointer (some ⟨rb,0,none⟩))) (hrb:∀k W,J k W->W.cell? ⟨rb,3,none⟩=some (.slice p 0 cap))
  (W:aa) (h0:J 0 W):
  CallsIn F n aq 119 #[.func (.yield l) #[] #[],.pointer (some ⟨Bs,0,none⟩)] W λe W'=>(∃v,e= .returned v)/\J 0 W':=by
 have ajI:=hBs _ _ h0;have ajJ:=hrb _ _ h0;refine callsIn_of_wp func119 rfl h7 ?_ Fm;simp only[Tryz.ntmps119,dK,bA,cq,aoU,aoV,aoW,aoX,aoY,aoZ,cT,dN]
 gi_wp2
 gi_loopw [12] (λi wr=>i= .int .i64 0/\J 0 wr)
  (λi _=>0)
 case atStart=>exact⟨rfl,h0⟩
 case round=>
  obtain⟨rfl,hJs⟩:=hrel
  gi_wp2
  go_end0
  exact⟨⟨_,rfl⟩,hJs⟩
def Ql (P:az) (f:bB):Prop:=(∃fn,P.funcs[f]?=some fn/\fn.body.isSome=true/\(fn.name== "runtime.NumGoroutine")=false)/\∀(l Bs rb cap:Nat) (p:Option Addr) (zs:List Int) (J:Nat->aa->Prop),zs.length<=9223372036854775807->
 (∀k W,J k W->W.cell? ⟨Bs,0,none⟩=some (.pointer (some ⟨rb,0,none⟩)))->(∀k W,J k W->W.cell? ⟨rb,3,none⟩=some (.slice p zs.length cap))->
 (zs=[]\/∃b off,p=some ⟨b,off,none⟩/\∀k W,J k W->∀j,j<zs.length->W.cell? ⟨b,off+j,none⟩=some (.int .i64 (zs.getD j 0)))->
 (∀k W,J k W->k<zs.length->YieldAt aW 0 P l #[.int .i64 (zs.getD k 0)] W λe W'=>e= .returned (.bool true)/\J (k+1) W')->
 ∀W,J 0 W->CallsIn aW 0 P f #[.func (.yield l) #[] #[],.pointer (some ⟨Bs,0,none⟩)] W λe W'=>(∃v,e= .returned v)/\J zs.length W'
theorem Md:Ql aq 119:=by
 refine⟨⟨f119,func119,by kernel_rfl,by kernel_rfl⟩,λl Bs rb cap p zs J hz hBs hrb hc hY W h0=>?_⟩;refine callsIn_wide.2 ((callsIn_wide (n:=1)).1 ?_);rcases hc with rfl|⟨b,off,rfl,hc⟩
 .exact Oa aW 1 tv rfl (ay _) l Bs rb cap p J hBs hrb W h0
 exact Mc aW 1 tv rfl (ay _) l Bs rb b off cap zs hz J hBs hrb hc hY W h0
abbrev Cy:Ty:=.pair (.list (.list .int)) (.pair (.map .int .int) (.pair (.map .int .int) (.list .int)))
def cD (D:Nat):dc:={target:=.collected D,args:= #[]}
def Ob (D:Nat)(Q:oa):oa:=λe a w=>Q e (kJ a [cD D]) w
def Su:List It->Bool
 |[]=>true
 | .lp _::_=>false
 |_::r=>Su r
structure RGI where
 pt:List Nat
 r:List It
 p:Nat
 f:bB
 q:Nat
 j:Nat
 t:Nat
def BK (B:Code)(n:Nat)(σ:mK):List It->Option RGI
 | .run p::r=>match sub B p with
  | .rangeFunc (.tmp t) ps _ _=>match ps.toList,qL σ t with
   |[x],some ⟨[],.one (.r9 f [(q,0)])⟩=>match mI σ q with
    |some (.box _ [.pd j])=>match bp x n && Su r with
     |true=>some ⟨p,r,x,f,q,j,t⟩
     |false=>none
    |_=>none
   |_,_=>none
  |_=>none
 |_=>none
def gI:Option RGI->RGI
 |some x=>x
 |none=>⟨[],[],0,0,0,0,0⟩
def qB (I:RGI)(σ:mK):Bool:=match mI σ I.q with
 |some (.box _ [.pd j])=>aK j I.j
 |_=>false
def scB (k:Nat):Sc->Bool
 | .v _=>true
 | .b _=>true
 | .own j=>bp j k
 | .mp j=>bp j k
 | .ptr j _=>bp j k
 | .pd j=>bp j k
 | .r9 _ jL=>jL.all λc=>bp c.1 k
 |_=>false
def syB (k:Nat):Sy->Bool
 | .one c=>scB k c
 | .agg cs=>cs.all (scB k)
 | .tQ ps=>ps.all λp=>p.2.all (scB k)
def ahz (k:Nat)(env:List (Nat×Option E2)):Bool:=env.all λp=>match p.2 with
 |some e=>e.ch.isEmpty && syB k e.sy
 |none=>true
def Qm (rs:List (Nat×Option R2)):Bool:=rs.all λp=>match p.2 with
 |some x=>!s8 x
 |none=>true
def abA (p:Nat)(x:Int)(σ:mK):mK:=⟨(p,some ⟨[],.one (.v (.int .i64 x))⟩)::σ.env,σ.rs,σ.nx⟩
def ahA (D:Nat)(σ:mK):mK:=⟨σ.env,(σ.nx,some (.ext (.Fi D)))::σ.rs,σ.nx+1⟩
def FM (σ:mK):mK:=⟨[],σ.rs,σ.nx⟩
def aeG:List It->Bool
 |[]=>true
 |_=>false
def abB:Option ZG->Bool
 |some x=>x.cs.isEmpty && (x.hs.isEmpty && (aeG x.st && Qm x.σ.rs))
 |none=>false
theorem vl {σ:mK}(h:Qm σ.rs=true){j:Nat}{x:R2}(hj:mI σ j=some x):s8 x=false:=by
 have:=aY.1 h _ (pX hj);simpa using this
theorem EW (g:aL)(ps:Array Tmp)(x y:Code):sub (.rangeFunc g ps x y) [0]=x:=by simp only[sub];cases x<;>rfl
theorem EX (g:aL)(ps:Array Tmp)(x y:Code):sub (.rangeFunc g ps x y) [1]=y:=by simp only[sub];cases y<;>rfl
theorem wh {a b:Nat}(h:bp a b=true):a<b:=by simpa[bW] using h
theorem EY {k:Nat}:∀ {c:Sc},scB k c=true->c.all (· <k)/\∀A,c.jW A
 | .v _,_=>⟨tv,λ_=>trivial⟩
 | .b _,_=>⟨tv,λ_=>trivial⟩
 | .own j,h=>⟨wh h,λ_=>trivial⟩
 | .mp j,h=>⟨wh h,λ_=>trivial⟩
 | .ptr j _,h=>⟨wh h,λ_=>trivial⟩
 | .pd j,h=>⟨wh h,λ_=>trivial⟩
 | .r9 _ jL,h=>⟨λc hc=>wh (aY.1 h c hc),λ_=>trivial⟩
 | .el _ _ _ _,h=>by cases h
 | .hd _ _ _,h=>by cases h
theorem Xq {k:Nat}:∀ {y:Sy},syB k y=true->y.all (· <k)/\∀A,y.jW A
 | .one c,h=>EY h
 | .agg cs,h=>⟨λc hc=>(EY (aY.1 h c hc)).1,λA c hc=>(EY (aY.1 h c hc)).2 A⟩
 | .tQ ps,h=>⟨λp hp c hc=>(EY (aY.1 (aY.1 h p hp) c hc)).1,λA p hp c hc=>(EY (aY.1 (aY.1 h p hp) c hc)).2 A⟩
theorem xQ (a:Act)(x y:List dc):kJ (kJ a x) y=kJ a (x++y):=by unfold kJ;rw[bC]
section
variable {o:jh}{n:Nat}{A A' A0:ju}{S S' S0:iF}{F:Nat->Prop}{s:Nat->Option E2}{f g:Nat->Option Rs}{w w' W:aa}{a:Act}{kp l D:Nat}{σ σ2:mK}
def nK.tT (H:nK o w S f)(kp:Nat)(A:ju):jh:=
 ⟨⟨w,S,H.nO⟩,λb=> ∃j rr,f j=some rr/\rr.has b,λk ⟨j,rr,h1,h2⟩=>(H.own j rr k h1 h2).2.2,λk ⟨j,rr,h1,h2⟩=>(H.own j rr k h1 h2).2.1,(· <kp),A,kp⟩
theorem nK.abC (H:nK o w S f)(kp:Nat)(A:ju):nK (H.tT kp A) w S f:=
 ⟨pU.refl _ _,λ_ h=>.inl h,H.nO,H.ok,λj r b h1 h2=>⟨.inr ⟨j,r,h1,h2⟩,(H.own j r b h1 h2).2⟩,H.apart⟩
theorem nK.Jp (H:nK o w S f){b:Nat}(h:(H.tT kp A).new b):o.new b:=h.elim (λq=>jh.J6 H.sw q) λ⟨j,rr,h1,h2⟩=>(H.own j rr b h1 h2).1
theorem nK.back (H:nK o w S f)(H2:nK (H.tT kp A) w' S' g):nK o w' S' g:=by
 refine⟨H.sw.trans H2.sw λj hj q=>?_,λk hk=>?_,H2.nO,H2.ok,λj r b h1 h2=>?_,H2.apart⟩
 .rcases H.Jp (kp:=kp) (A:=A) (.inr q) with q|q
  .omega
  exact q
 .rcases H2.src k hk with q|q
  .exact H.src k q
  exact .inr (H.Jp q)
 obtain⟨x,y⟩:=H2.own j r b h1 h2;exact⟨H.Jp x,y⟩
theorem nK.other (H:nK o w S f)(hl:o.new l)(hS:¬S l)(hn:∀j r,f j=some r->¬r.has l)(hg:pU w w' (· =l)):nK o w' S f where
 sw:=H.sw.trans hg λj hj q=>by
  subst q;rcases hl with q|q
  .omega
  exact q
 src:=H.src
 nO k hk:=bf (H.nO k hk) hg.size
 ok j r hj:=r.keep _ _ _ (H.ok j r hj) (λk hk=>hg.block k (H.nO k hk) λe=>hS (e▸hk)) λb hb=>hg.block b (H.own j r b hj hb).2.1 λe=>hn j r hj (e▸hb)
 own j r b hj hb:=let⟨x,y,z⟩:=H.own j r b hj hb;⟨x,bf y hg.size,z⟩
 apart:=H.apart
theorem abD (w:aa)(l:Nat)(x:Obj):pU w (w.putObj l x) (· =l):=⟨rfl,rfl,rfl,by rw[ala];exact ay _,λk _ hn=>dQ hn⟩
def Lone (o:jh)(S:iF)(f:Nat->Option Rs)(w:aa)(l:Nat):Prop:=o.new l/\¬S l/\(∀j r,f j=some r->¬r.has l)/\l<w.heap.size
structure MS (o:jh)(kp:Nat)(A0:ju)(S0:iF)(l D:Nat)(σ:mK)(A:ju)(S:iF)(W:aa):Prop where
 jd:nK o W S (iZ A (mI σ))
 j7:∀j x,mI σ j=some x->j<σ.nx/\x.all (· <σ.nx)/\x.jW A
 Me:kD (· <kp) A0 A
 s0:∀k,S0 k->(∀j r,iZ A (mI σ) j=some r->¬r.has k)/\k<W.heap.size
 l1:Lone o S (iZ A (mI σ)) W l
 d1:Lone o S (iZ A (mI σ)) W D
theorem MS.lone (m:MS o kp A0 S0 l D σ A S W){k:Nat}(hk:Lone o S (iZ A (mI σ)) W k)(H2:nK (m.jd.tT kp A) w' S' g):Lone o S' g w' k/\w'.heap[k]?=W.heap[k]?:=by
 have⟨h1,h2,h3,h4⟩:=hk;have B3:¬(m.jd.tT kp A).new k:=λq=>q.elim (λq=>by have q:W.heap.size<=k:=q;omega) λ⟨j,r,q1,q2⟩=>h3 j r q1 q2;refine⟨⟨h1,λq=>?_,λj r q1 q2=>B3 (H2.own j r k q1 q2).1,bf h4 H2.sw.size⟩,H2.sw.block k h4 λq=>B3 (.inr q)⟩;rcases H2.src k q with q|q
 .exact h2 q
 exact B3 q
theorem MS.keeps (m:MS o kp A0 S0 l D σ A S W)(H2:nK (m.jd.tT kp A) w' S' g):kN S0 W w':=λk hk=>H2.sw.block k (m.s0 k hk).2 λ⟨j,r,q1,q2⟩=>(m.s0 k hk).1 j r q1 q2
theorem MS.next (m:MS o kp A0 S0 l D σ A S W){a:Act}(H2:j5 (m.jd.tT kp A) n A' S' (· <σ2.nx) s (mI σ2) a w'):MS o kp A0 S0 l D σ2 A' S' w' where
 jd:=m.jd.back H2.jd
 j7:=H2.j7
 Me:=m.Me.trans H2.zN.2
 s0 k hk:=by
  obtain⟨h1,h2⟩:=m.s0 k hk;refine⟨λj r q1 q2=>?_,bf h2 H2.jd.sw.size⟩;rcases(H2.jd.own j r k q1 q2).1 with q|⟨j,r,q1,q2⟩
  .have q:W.heap.size<=k:=q;omega
  exact h1 j r q1 q2
 l1:=(m.lone m.l1 H2.jd).1
 d1:=(m.lone m.d1 H2.jd).1
theorem MS.put (m:MS o kp A0 S0 l D σ A S W)(x:Obj)(hlD:l≠D):MS o kp A0 S0 l D σ A S (W.putObj l x) where
 jd:=m.jd.other m.l1.1 m.l1.2.1 m.l1.2.2.1 (abD W l x)
 j7:=m.j7
 Me:=m.Me
 s0 k hk:=⟨(m.s0 k hk).1,by rw[ala];exact(m.s0 k hk).2⟩
 l1:=⟨m.l1.1,m.l1.2.1,m.l1.2.2.1,by rw[ala];exact m.l1.2.2.2⟩
 d1:=⟨m.d1.1,m.d1.2.1,m.d1.2.2.1,by rw[ala];exact m.d1.2.2.2⟩
end
theorem Hr {S:iF}{w W:aa}{l:Nat}(x:Obj)(h:kN S w W)(hl:∀k,S k->k≠l):kN S w (W.putObj l x):=λk hk=>(dQ (hl k hk)).trans (h k hk)
theorem Xr {a:Act}(ha:a.defers=[])(D:Nat)(ds:List dc):({kJ a ds with defers:=[cD D]++(kJ a ds).defers}:Act)=kJ (kJ a [cD D]) ds:=by
 unfold kJ;rw[ha];simp
section
variable {mo:Mode}{P:az}{o:jh}{n:Nat}{σ:mK}{a:Act}{w:aa}{T:List (kG P)}{B:Code}{Q:oa}{st:List It}
theorem AF {ds:List dc}(D:Nat):∀ {r:List It} (e:Exit) (a:Act) (w:aa),Su r=true->post ⟨none,cD D::ds⟩ P B (Ob D Q) r e a w->post ⟨none,ds⟩ P B Q r e (kJ a [cD D]) w
 |[],e,a,w,_,h=>h
 | .lp _::_,_,_,_,hr,_=>by cases hr
 | .lV i::r,e,a,w,hr,h=>by
  have ih:=λe a w=>AF (ds:=ds) D (r:=r) e a w hr;cases e with
  |exit j=>
   have h:if j=i then post ⟨none,cD D::ds⟩ P B (Ob D Q) r .normal a w else post ⟨none,cD D::ds⟩ P B (Ob D Q) r (.exit j) a w:=h;show if j=i then post ⟨none,ds⟩ P B Q r .normal _ w else post ⟨none,ds⟩ P B Q r (.exit j) _ w;split
   .rename_i q;rw[ak q] at h;exact ih _ _ _ h
   rename_i q;rw[ah q] at h;exact ih _ _ _ h
  |_=>exact ih _ _ _ h
 | .run p::r,e,a,w,hr,h=>by
  have ih:=λe a w=>AF (ds:=ds) D (r:=r) e a w hr;cases e with
  |normal=>
   have h:(sub B p).wpIn aW 0 P (rS ⟨none,cD D::ds⟩ (post ⟨none,cD D::ds⟩ P B (Ob D Q) r)) (kJ a (cD D::ds)) w:=h;show(sub B p).wpIn aW 0 P (rS ⟨none,ds⟩ (post ⟨none,ds⟩ P B Q r)) (kJ (kJ a [cD D]) ds) w;rw[xQ];refine wpIn_mono h λe a w ⟨a0,h1,h2⟩=>⟨kJ a0 [cD D],?_,ih _ _ _ h2⟩;rw[h1,xQ];rfl
  |_=>exact ih _ _ _ h
theorem Mf {Y:Type}{f:bB}(hit:Ql P f)(acc:Y->mK)(kp:Nat)(Inv:Nat->Y->Prop)(y0:Y)(ρ:List (Nat×Option Nat))(pd:tU (El Cy))(d:List (List Int)×(List (Int×Int)×(List (Int×Int)×List Int)))
  (h:kX o n σ a w) (hpd:pd=(some d:Option (El Cy))) (hI:Inv 0 y0)
  (round:∀(k:Nat) (y:Y) (og:Orig) (G:Nat->Prop) (gS:∀b,G b->¬og.S b) (Y9:∀b,G b->b<og.w.heap.size) (A:ju) (l:Nat) (a:Act) (w:aa) (K:oa),
   (∀(y':Y) (ρ:List (Nat×Option Nat)) {uD:mK} {a:Act} {w:aa},kX ⟨og,G,gS,Y9,(· <kp),A,kp⟩ n uD a w->Inv (k+1) y'->(h2:lT ρ uD (FM (acc y')):=by delta lT;kernel_rfl)->(h3:qY ρ (FM (acc y'))=true:=by kernel_rfl)->(h4:yW ρ kp=true:=by kernel_rfl)->K .normal a w)->
   k<d.2.2.2.length->Inv k y->kX ⟨og,G,gS,Y9,(· <kp),A,kp⟩ n (xS (sj P T [] n B [.run ((gI (BK B n (acc y0) st)).pt++[0])] (abA (gI (BK B n (acc y0) st)).p (d.2.2.2.getD k 0) (acc y)))) a w->
   At ⟨some l,[]⟩ P T B K [.run ((gI (BK B n (acc y0) st)).pt++[1])] a w)
  (after:∀(y:Y) (D:Nat) (a:Act) (w:aa),Inv d.2.2.2.length y->kX o n (ahA D (acc y)) a w->At ⟨none,cD D::mo.ds⟩ P T B (Ob D Q) (gI (BK B n (acc y0) st)).r a w)
  (Fm:mo.ro=none:=by rfl) (ht:(BK B n (acc y0) st).isSome=true:=by kernel_rfl) (hf:(gI (BK B n (acc y0) st)).f=f:=by kernel_rfl)
  (hj:mI (acc y0) (gI (BK B n (acc y0) st)).j=some (.ext (.zJ Cy pd)):=by kernel_rfl)
  (c1:∀y,(acc y).env=(acc y0).env:=by intro y;kernel_rfl) (c2:ahz kp (acc y0).env=true:=by kernel_rfl) (c3:∀y,Qm (acc y).rs=true:=by intro y;kernel_rfl)
  (c4:∀y,Nat.ble kp (acc y).nx=true:=by intro y;kernel_rfl) (c5:Nat.ble o.kp kp=true:=by kernel_rfl)
  (c6:(bp (gI (BK B n (acc y0) st)).q kp && bp (gI (BK B n (acc y0) st)).j kp)=true:=by kernel_rfl) (c7:∀y,qB (gI (BK B n (acc y0) st)) (acc y)=true:=by intro y;kernel_rfl)
  (c8:∀y x,abB (sj P T [] n B [.run ((gI (BK B n (acc y0) st)).pt++[0])] (abA (gI (BK B n (acc y0) st)).p x (acc y)))=true:=by intro y x;kernel_rfl)
  (h1:kz ρ σ (acc y0):=by delta kz;kernel_rfl) (h2:lT ρ σ (acc y0):=by delta lT;kernel_rfl) (h3:qY ρ (acc y0)=true:=by kernel_rfl) (h4:yW ρ o.kp=true:=by kernel_rfl):At mo P T B Q st a w:=by
 have hs:=uw ρ h h1 h2 h3 h4;clear h h1 h2 h3 h4;subst hpd;obtain⟨I,B8⟩:=bD.1 ht;simp only[B8,gI] at round after hf hj c6 c7 c8;clear ht;unfold BK at B8;split at B8
 .rename_i pt r;split at B8
  .rename_i t ps asg body oW;split at B8
   .rename_i x f' q JV he;split at B8
    .rename_i bt j hR;split at B8
     .rename_i hg;cases B8;dsimp only at round after hf hj c6 c7 c8;subst hf;obtain⟨⟨A0,S0,H⟩,ajL,np⟩:=hs;rw[aQ] at hg c6;have hxn:=wh hg.1;have hq:=wh c6.1;have hjk:=wh c6.2;have Xs:ps= #[x]:=by rw[<-alH,JV]
      have hv:a.eval (.tmp t)= .func (.func f') #[] #[.pointer (some ⟨A0.b q,0,none⟩)]:=by
       have hv:=(H.env t _ he).1 (λl hl=>by cases hl);simp only[Act.eval,cj];rw[show a.tmps[t]?=some (.func (.func f') #[] #[.pointer (some ⟨A0.b q,0,none⟩)]) from hv];rfl
      have wj:∀y t e,qL (acc y) t=some e->e.ch=[]/\e.sy.all (· <kp)/\(∀A,e.sy.jW A)/\∀A,kD (· <kp) A0 A->C8 a ⟨t,e.ch,e.sy.den A⟩:=λy t e ht=>by
       have ht:qL (acc y0) t=some e:=by unfold qL at ht ⊢;rw[<-c1 y];exact ht
       have hm:(t,some e)∈(acc y0).env:=(sM ht).resolve_left λq=>by cases q
       have:=aY.1 c2 _ hm;simp only[aQ] at this;obtain⟨k1,k2⟩:=Xq this.2;exact⟨dY.1 this.1,k1,k2,λA hA=>by rw[<-Sy.congr hA k1];exact H.env t e ht⟩
      have U5:∀y j,j<kp->j<(acc y).nx:=λy j hj=>bf hj (ak0 (c4 y));have hm:iZ A0 (mI (acc y0)) j=some (R2.den A0 j (.ext (.zJ Cy (show tU (El Cy) from(some d:Option (El Cy)))))):=by show(mI (acc y0) j).map _=_;rw[hj];rfl
      have nI:Rd S0 w (.pointer (A0.p j)) (show tU (El Cy) from(some d:Option (El Cy))):=H.jd.ok j _ hm;obtain⟨rb,cur,ct,fz,cs,e1,e2,e3,e4,e5⟩:=(show sV S0 w (.pointer (A0.p j)) (some d:Option (El Cy)) from vE nI);obtain⟨v3,hv3,wK⟩:=(pT Cy e4).get (j:=3) (c:=.l .int d.2.2.2) rfl;have wK:Rd S0 w v3 (show List Int from d.2.2.2):=wK;obtain⟨pp,cap,rfl,z1,z2,z3⟩:=jZ wK;have e53:=(e5 3 (by decide)).trans hv3;generalize YE:d.2.2.2=zs at*
      refine⟨?_⟩;show(sub B pt).qK mo P (post mo P B Q r) a w;rw[oW];have⟨ro,ds⟩:=mo;have Fm:ro=none:=Fm;subst Fm;show(Code.rangeFunc (.tmp t) ps asg body).wpIn aW 0 P (rS ⟨none,ds⟩ (post ⟨none,ds⟩ P B Q r)) (kJ a ds) w;refine wpIn_rangeFunc λfn _=>?_;obtain⟨rec,yB⟩:∃rec:LoopState->Option Code->Loop,rec=λst pe=>{state:=st,pending:=pe,fn,tmps:=a.tmps,params:=ps,assign:=asg,body,defers:=w.heap.size}:=⟨_,rfl⟩;obtain⟨W1,Xt⟩:∃W1,(w.alloc (.deferred (some []))).alloc (.loop (rec .ready none))=W1:=⟨_,rfl⟩;have YN:W1.heap[w.heap.size+1]?=some (.loop (rec .ready none)):=by
       rw[<-Xt];have:=amH (w.alloc (.deferred (some []))) (.loop (rec .ready none));rwa[World.size_alloc] at this
      have kU:W1.heap[w.heap.size]?=some (.deferred (some [])):=by
       rw[<-Xt];exact(Below.heap_alloc _ _ _ (by simp)).trans (amH w _)
      have FO:Below w.heap.size w W1:=by
       rw[<-Xt];exact((Below.refl _ w).alloc (ay _) _).alloc (by simp) _
      have m9:W1.heap.size=w.heap.size+2:=by rw[<-Xt];simp
      have hSl:∀k,S0 k->k≠w.heap.size+1:=λk hk e=>by have:=H.jd.nO k hk;omega
      have eg:∀args w,(callFunc f' args).run P w= .ok (.enter f' args) w:=by
       obtain⟨⟨fn,q1,q2,q3⟩,_⟩:=hit;intro args w;have Ti:¬fn.name= "runtime.NumGoroutine" :=by simpa using q3
       have qh:¬fn.body=none:=by
        intro e;rw[e] at q2;cases q2
       simp[callFunc,program,Sem.run,q1,Ti,qh]
      refine⟨w.heap.size+1,[cD w.heap.size],W1,{target:=.fn (.func f') #[.pointer (some ⟨A0.b q,0,none⟩)],args:= #[.func (.yield (w.heap.size+1)) #[] #[]]},W1,f',
       #[.func (.yield (w.heap.size+1)) #[] #[]]++ #[.pointer (some ⟨A0.b q,0,none⟩)],W1,?_,?_,?_,?_,(λq=>by cases q),?_⟩
      .rw[<-Xt,yB];exact run_enterLoop_outer _ _ _ _ _
      .simp only[resolve,x7,hv];simp[go_sem]
      .intro _ _;trivial
      .simp[invoke,go_sem,eg]
      obtain⟨J,hJ⟩:∃J:Nat->aa->Prop,J=λk W=> ∃y A S,Inv k y/\MS o kp A0 S0 (w.heap.size+1) w.heap.size (acc y) A S W/\kN S0 w W/\W.heap[w.heap.size+1]?=some (.loop (rec .ready none))/\W.heap[w.heap.size]?=some (.deferred (some [])):=⟨_,rfl⟩;refine(hit.2 (w.heap.size+1) (A0.b q) rb cap pp zs J (aU z1 (aU z2 (by decide))) ?_ ?_ ?_ ?_ W1 ?_).mono ?_
      .rw[hJ];rintro k W ⟨y,A,S,_,m,_,_,_⟩;have h7:=c7 y;unfold qB at h7;dsimp only at h7;split at h7
       .rename_i bt' j' Y7;have:=jx h7;subst this;have Dh:iZ A (mI (acc y)) q=some (Rs.of (.box (A.b q) bt' [.pointer (A.p j')])):=by simp[iZ,Y7,R2.den,Sc.den]
        have hb:W.heap[A.b q]?=some (.cells #[.pointer (A.p j')] bt' (0,0)):=m.jd.ok q _ Dh;have eb:A0.b q=A.b q:=(m.Me q hq).2.1;have ep:A0.p j'=A.p j':=by
         have:=(m.Me j' hjk).1;unfold ju.v at this;injection this
        rw[eb,cell_of_row W _ 0 _ _ _ hb];show some (cC (A.p j'))=_;rw[<-ep];exact aG some e1
       cases h7
      .rw[hJ];rintro k W ⟨y,A,S,_,m,hk,_,_⟩;rw[cell_of_row W rb 3 cur ct fz ((hk rb e2).trans e3)];exact e53
      .rcases z3 with z3|⟨g,off,ahB,t',fz',z4,z5,z6,z7⟩
       .exact .inl z3
       refine .inr ⟨g,off,z4,?_⟩;rw[hJ];rintro k W ⟨y,A,S,_,m,hk,_,_⟩ i hi;obtain⟨AK,q1,q2⟩:=z7 i hi;have q1:AK=[.int .i64 zs[i]]:=q1;have q2:=q2 0 (by decide);rw[cell_of_row W g (off+i) ahB t' fz' ((hk g z5).trans z6)];have q2:ahB[off+i*1+0]?=AK[0]?:=q2;rw[cL,dS] at q2;rw[q2,q1,aH,aR hi];rfl
      ·
       subst hJ;rintro k W ⟨y,A,S,hi,m,hk,hl,hD⟩ pg;have hy:=run_yield (P:=P) (args:= #[.int .i64 (zs.getD k 0)]) hl (by rw[yB,Xs];rfl);rw[yB] at hy;refine⟨fn,_,asg,body,hy,roundIn_of_wpIn tv ?_⟩;have aeH:({tmps:=(ps.zip #[.int .i64 (zs.getD k 0)]).foldl (λt (p,v)=>t.setIfInBounds p v) a.tmps,defers:=[]}:Act)=a.put (some x) (.int .i64 (zs.getD k 0)):=by
        have hd:=H.lD;obtain⟨tm,df⟩:=a;simp only at hd;subst hd Xs;simp[dM]
       have H1:j5 (m.jd.tT kp A) n A S (· <(acc y).nx) (qL (acc y)) (mI (acc y)) a W:=
        ⟨H.size,H.lD,λt e he=>(wj y t e he).2.2.2 A m.Me,λt e he _=>⟨Sy.mono (U5 y) (wj y t e he).2.1,(wj y t e he).2.2.1 A⟩,m.j7,m.jd.abC kp A,λj x hj=>nC (vl (c3 y) hj),⟨U5 y,kD.refl _ _⟩⟩
       have H2:=H1.put (C:=[]) (d:=x) (y:=.one (.v (.int .i64 (zs.getD k 0)))) (u:=.int .i64 (zs.getD k 0)) hxn (λt e he l hl=>by rw[(wj y t e he).1] at hl;cases hl) (λl hl=>by cases hl) (λ_=>⟨tv,tv⟩) ⟨λ_=>rfl,λq=>(q λl hl=>by cases hl).elim⟩;have O2:kX (m.jd.tT kp A) n (abA x (zs.getD k 0) (acc y)) (a.put (some x) (.int .i64 (zs.getD k 0))) W:=by
        refine⟨⟨A,S,H2⟩,λt e he=>?_,λj q=>q⟩;have he:si (qL (acc y)) x (some ⟨[],.one (.v (.int .i64 (zs.getD k 0)))⟩) t=some e:=he
        by_cases q:x=t
        .subst q;rw[mz] at he;cases he;rfl
        rw[rF q] at he;exact(wj y t e he).1
       have h8:=c8 y (zs.getD k 0);have nI:=round k y;cases hE:sj P T [] n B [.run (pt++[0])] (abA x (zs.getD k 0) (acc y)) with
       |none=>rw[hE] at h8;cases h8
       |some ex=>
       rw[hE] at h8 nI;unfold abB at h8;simp only[aQ] at h8;have⟨a1,a2,a3,a4⟩:=h8;have a1:=dY.1 a1;have a2:=dY.1 a2;have a3:ex.st=[]:=by cases Ff:ex.st<;>rw[Ff] at a3<;>first|rfl|cases a3
       have G1:=(go (mo:=⟨some (w.heap.size+1),[]⟩) (T:=T) (B:=B) (st:=[.run (pt++[0])]) (pr:=True) (Q:=λe a1 w1=>e= .normal/\kX (m.jd.tT kp A) n ex.σ a1 w1) [] O2 tv
        (λa w h=>by rw[hE] at h ⊢;show At _ P T B _ ex.st a w;rw[a3];exact⟨⟨rfl,h⟩⟩) (by rw[hE];rfl) (by rw[hE];show QM ex.cs=True;rw[a1];rfl) (λA w=>by rw[hE];show ex.hs.map _=_;rw[show xH (some ex)=ex.hs from rfl,a2];rfl)).get
       have G1:(sub B (pt++[0])).qK ⟨some (w.heap.size+1),[]⟩ P (λe a1 w1=>e= .normal/\kX (m.jd.tT kp A) n ex.σ a1 w1) (a.put (some x) (.int .i64 (zs.getD k 0))) W:=by
        refine xz G1 λe a w h=>?_;cases e with
        |normal=>exact h
        |_=>exact h
       rw[j8,oW,EW] at G1;have G1:asg.wpIn (aW.inRound (w.heap.size+1)) 0 P (rS ⟨some (w.heap.size+1),[]⟩ (λe a1 w1=>e= .normal/\kX (m.jd.tT kp A) n ex.σ a1 w1)) (kJ (a.put (some x) (.int .i64 (zs.getD k 0))) []) W:=G1;rw[pH] at G1;rw[aeH];refine wpIn_mono G1 ?_;rintro e Xu w1 ⟨a0,ea,rfl,hq⟩;have ea:Xu=kJ a0 []:=ea;rw[pH] at ea;subst ea;obtain⟨⟨A1,S1,K2⟩,ch1,_⟩:=hq;have m1:=m.next K2;have qg:=(m.lone m.l1 K2.jd).2.trans hl;have hD1:=(m.lone m.d1 K2.jd).2.trans hD;have YM:kN S0 w w1:=λi hi=>(m.keeps K2.jd i hi).trans (hk i hi);refine⟨_,run_beginRound qg (by rw[yB]),?_⟩;have m2:=m1.put (.loop {rec .ready none with state:=.busy}) (by omega);have pV:(w1.putObj (w.heap.size+1) (.loop {rec .ready none with state:=.busy})).heap[w.heap.size+1]?=some (.loop {rec .ready none with state:=.busy}):=amI m1.l1.2.2.2;have hD2:(w1.putObj (w.heap.size+1) (.loop {rec .ready none with state:=.busy})).heap[w.heap.size]?=some (.deferred (some [])):=(dQ (by omega)).trans hD1;have hk2:=Hr (.loop {rec .ready none with state:=.busy}) YM hSl;have H3:j5 (m2.jd.tT kp A1) n A1 S1 (· <ex.σ.nx) (qL ex.σ) (mI ex.σ) Xu _:=
        ⟨K2.size,K2.lD,K2.env,K2.qW,m2.j7,m2.jd.abC kp A1,λj x hj=>nC (vl a4 hj),⟨K2.zN.1,kD.refl _ _⟩⟩
       have B2:=(nI (m2.jd.tT kp A1).toOrig (m2.jd.tT kp A1).G (m2.jd.tT kp A1).gS (m2.jd.tT kp A1).Y9 A1 (w.heap.size+1) Xu _ (λe a3 w3=>e= .normal/\∃y',Inv (k+1) y'/\kX (m2.jd.tT kp A1) n (FM (acc y')) a3 w3)
        (λy' mG _ _ _ hk AJ h2 h3 h4=>⟨rfl,y',AJ,uw mG hk rfl h2 h3 h4⟩) pg hi ⟨⟨A1,S1,H3⟩,ch1,λj q=>q⟩).get
       have B2:(sub B (pt++[1])).qK ⟨some (w.heap.size+1),[]⟩ P (λe a3 w3=>e= .normal/\∃y',Inv (k+1) y'/\kX (m2.jd.tT kp A1) n (FM (acc y')) a3 w3) Xu (w1.putObj (w.heap.size+1) (.loop {rec .ready none with state:=.busy})):=by
        refine xz B2 λe a w h=>?_;cases e with
        |normal=>exact h
        |_=>exact h
       rw[j8,oW,EX] at B2;have B2:body.wpIn (aW.inRound (w.heap.size+1)) 0 P (rS ⟨some (w.heap.size+1),[]⟩ (λe a3 w3=>e= .normal/\∃y',Inv (k+1) y'/\kX (m2.jd.tT kp A1) n (FM (acc y')) a3 w3)) (kJ Xu []) (w1.putObj (w.heap.size+1) (.loop {rec .ready none with state:=.busy})):=B2;rw[pH] at B2;refine wpIn_mono B2 ?_;rintro e a3 w3 ⟨a4',_,rfl,y',AJ,⟨A3,S3,K4⟩,_,_⟩;have m3:MS o kp A0 S0 (w.heap.size+1) w.heap.size (acc y') A3 S3 w3:=m2.next (σ2:=acc y') K4;have wK:=(m2.lone m2.l1 K4.jd).2.trans pV;have hD3:=(m2.lone m2.d1 K4.jd).2.trans hD2;have hk3:kN S0 w w3:=λi hi=>(m2.keeps K4.jd i hi).trans (hk2 i hi);refine⟨_,_,run_endRound (P:=P) none wK,rfl,y',A3,S3,AJ,m3.put _ (by omega),Hr _ hk3 hSl,?_,(dQ (by omega)).trans hD3⟩;rw[amI m3.l1.2.2.2,yB];rfl
      ·
       rw[hJ];have hS:∀k,S0 k->k<w.heap.size:=H.jd.nO;have ko:∀j r b,iZ A0 (mI (acc y0)) j=some r->r.has b->b<w.heap.size:=λj r b q1 q2=>(H.jd.own j r b q1 q2).2.1;have ajM:=H.jd.sw.size;refine⟨y0,A0,S0,hI,⟨H.jd.on FO,H.j7,kD.refl _ _,λk hk=>⟨λj r q1 q2=>(H.jd.own j r k q1 q2).2.2 hk,by have:=hS k hk;omega⟩,⟨.inl (by omega),λq=>by have:=hS _ q;omega,λj r q1 q2=>by have:=ko j r _ q1 q2;omega,by omega⟩,
        ⟨.inl (by omega),λq=>by have:=hS _ q;omega,λj r q1 q2=>by have:=ko j r _ q1 q2;omega,by omega⟩⟩,λk hk=>FO.block k (hS k hk),YN,kU⟩
      rw[hJ];rintro e W2 ⟨⟨v,rfl⟩,y,A,S,hi,m,hk,hl,hD⟩;refine⟨none,W2.putObj (w.heap.size+1) (.loop {rec .ready none with state:=.exhausted}),by have:=run_endLoop (P:=P) hl (by rw[yB];simp);rw[yB] at this ⊢;exact this,?_⟩;have m4:=m.put (.loop {rec .ready none with state:=.exhausted}) (by omega);have hD4:(W2.putObj (w.heap.size+1) (.loop {rec .ready none with state:=.exhausted})).heap[w.heap.size]?=some (.deferred (some [])):=(dQ (by omega)).trans hD;have Xp:=ak0 c5;have H5:j5 o n A S (· <(acc y).nx+1) (qL (acc y)) (mI (acc y)) a (W2.putObj (w.heap.size+1) (.loop {rec .ready none with state:=.exhausted})):=
       ⟨H.size,H.lD,λt e he=>(wj y t e he).2.2.2 A m.Me,λt e he _=>⟨Sy.mono (λj hj=>eF (U5 y j hj)) (wj y t e he).2.1,(wj y t e he).2.2.1 A⟩,
        λj x hj=>⟨eF (m4.j7 j x hj).1,R2.mono (λj hj=>eF hj) (m4.j7 j x hj).2.1,(m4.j7 j x hj).2.2⟩,m4.jd,λj x hj=>nC (vl (c3 y) hj),
        ⟨λj hj=>eF (U5 y j (bf (np j hj) Xp)),H.zN.2.trans (m.Me.mono λj hj=>bf (np j hj) Xp)⟩⟩
      have H6:=H5.vq (w':=W2.putObj (w.heap.size+1) (.loop {rec .ready none with state:=.exhausted})) (S':=S) (acc y).nx (some (.ext (.Fi w.heap.size))) (λy e=>by cases e;exact⟨cQ _,tv,tv⟩) (λy e=>by cases e;exact nC rfl)
       (m4.jd.put _ (OC w.heap.size) hD4 λb e=>by
        have e:b=w.heap.size:=e;subst e;exact⟨m4.d1.1,m4.d1.2.2.2,m4.d1.2.1,λi ri _ hi=>m4.d1.2.2.1 i ri hi⟩)
      refine⟨kJ a [cD w.heap.size],Xr H.lD _ _,AF w.heap.size _ _ _ hg.2 (after y w.heap.size a _ hi ⟨⟨A,S,H6⟩,λt e he=>(wj y t e he).1,np⟩).get⟩
     cases B8
    cases B8
   cases B8
  cases B8
 cases B8
theorem rg_ (k:Q .normal a w)(ht:aeG st=true:=by kernel_rfl):At mo P T B Q st a w:=by
 unfold aeG at ht;split at ht
 .exact⟨k⟩
 cases ht
def Cm:List Nat->oa->oa
 |[],Q=>Q
 |D::Ds,Q=>Ob D (Cm Ds Q)
theorem EZ:∀ {Ds:List Nat} {e:Exit} {a:Act} {w:aa},Cm Ds Q e a w↔Q e (kJ a (Ds.map cD)) w
 |[],e,a,w=>by rw[b9,pH];exact alh
 |D::Ds,e,a,w=>by
  show Cm Ds Q e (kJ a [cD D]) w↔_;rw[EZ,xQ];rfl
def Sv (σ:mK)(j:Nat):mK:=⟨σ.env,(j,none)::σ.rs,σ.nx⟩
def lkD:List Nat->List Nat->mK->Prop
 |[],[],_=>True
 |j::js,D::Ds,σ=>mI σ j=some (.ext (.Fi D))/\lkD js Ds (Sv σ j)
 |_,_,_=>False
theorem und {D j:Nat}(h:kX o n σ a w)(hj:mI σ j=some (.ext (.Fi D))):w.heap[D]?=some (.deferred (some []))/\kX o n (Sv σ j) a (w.putObj D (.deferred none)):=by
 obtain⟨⟨A,S,H⟩,h0,np⟩:=h;have hm:iZ A (mI σ) j=some (OC D):=by show(mI σ j).map _=_;rw[hj];rfl
 refine⟨H.jd.ok j _ hm,⟨A,S,?_⟩,h0,np⟩;exact H.vq j none (λy e=>by cases e) (λy e=>by cases e) (H.jd.mut j hm ⟨rfl,rfl,rfl,by rw[ala];exact ay _,λk _ hn=>dQ λe=>hn e⟩)
theorem Mg {fn:Func}{R:Ending->aa->Prop}:∀ {js Ds:List Nat} {σ:mK} {w:aa},kX o n σ a w->lkD js Ds σ->(∀w',kX o n (js.foldl Sv σ) a w'->LeavesInM aW 2 P fn a.tmps R [] .returning w')->LeavesInM aW 2 P fn a.tmps R (Ds.map cD) .returning w
 |[],[],σ,w,h,_,k=>k w h
 |j::js,D::Ds,σ,w,h,hl,k=>by
  obtain⟨h1,h2⟩:=und h hl.1;exact⟨by simp,.inl ⟨D,_,rfl,run_takeDeferred h1,Mg h2 hl.2 k⟩⟩
 |[],_::_,_,_,_,hl,_=>hl.elim
 |_::_,[],_,_,_,hl,_=>hl.elim
theorem ahC {o:Orig}{fn:Func}{rs:List Ty}{fx:oh rs}(js Ds:List Nat)(y:oh rs)(h:kX (jh.of o) n σ a w)(e:y=fx)(hl:lkD js Ds σ:=by first|exact tv|exact⟨by kernel_rfl,tv⟩|exact⟨by kernel_rfl,by kernel_rfl,tv⟩)(ht:DR B st=true:=by kernel_rfl)(hy:ZK P fn rs (js.foldl Sv σ)=some ⟨y⟩:=by kernel_rfl):At ⟨none,Ds.map cD⟩ P T B (Cm Ds (bodyPostM aW 2 P fn (FW o λS v w'=>pz S w' rs v fx))) st a w:=by
 subst e;have O7:=h.ok.choose_spec.choose_spec.lD;have key:LeavesInM aW 2 P fn a.tmps (FW o λS v w'=>pz S w' rs v y) (Ds.map cD) .returning w:=by
  refine Mg h hl λw' h'=>?_;obtain⟨⟨A,S,H⟩,h0⟩:=h';obtain⟨ys,h1,hy⟩:=tw H hy;obtain⟨h2,hy⟩:=uR hy;obtain⟨x,h3,hy⟩:=x9 H (T':=wX o w') (λk hk=>uS hk) (λc hc j hj z hz=>(ue H h2 c hc j hj z hz).up λk hk=>uS hk) hy;have hx:x=y:=by have:=bz hy;exact aG ULift.down this
  subst hx;exact⟨_,rU (ys:=ys.map (Sy.den A)) h1,_,rfl,Ik h3,zX H.jd.sw⟩
 have e1:∀e,(e= .normal\/e= .ret)->Cm Ds (bodyPostM aW 2 P fn (FW o λS v w'=>pz S w' rs v y)) e a w:=λe he=>by
  rw[EZ];have:LeavesInM aW 2 P fn (kJ a (Ds.map cD)).tmps (FW o λS v w'=>pz S w' rs v y) (kJ a (Ds.map cD)).defers .returning w:=by
   show LeavesInM aW 2 P fn a.tmps _ (a.defers++Ds.map cD) .returning w;rw[O7];exact key
  rcases he with rfl|rfl<;>exact this
 unfold DR at ht;split at ht
 .rename_i p r;refine⟨?_⟩;show(sub B p).qK ⟨none,Ds.map cD⟩ P (post ⟨none,Ds.map cD⟩ P B _ r) a w;have hc:sub B p= .ret:=by
   cases hc:sub B p<;>rw[hc] at ht<;>first|rfl|cases ht
  rw[hc];exact zU (rT (e1 _ (.inr rfl)))
 .exact⟨e1 _ (.inl rfl)⟩
 cases ht
theorem aeI {f:bB}(fn:Func)(n:Nat){args:List af}{R:Ending->aa->Prop}(hf:P.funcs[f]?=some fn)
  (k:∀a,jR n a (kV ((bH args.length).zip args))->(sub (fn.body.getD .skip) []).wp P (bodyPostM aW 2 P fn R) a w) (hb:fn.body.isSome=true:=by kernel_rfl) (hn:fn.ntmps=n:=by kernel_rfl) (hl:decide (args.length<=n)=true:=by kernel_rfl):Calls P f args.toArray w R:=by
 obtain⟨B,hb⟩:=bD.1 hb;rw[hb] at k;have hl:=aP hl;refine callsIn_wide.1 (callsIn_of_wp_marks (F:=aW) (n:=2) hf hb tv (wpIn_wide.2 ?_) rfl);rw[<-Ot B];refine k _ ⟨?_,rfl,λe he=>?_⟩
 .simp;omega
 obtain⟨x,hx,rfl⟩:=aN.1 he;obtain⟨j,hj,rfl⟩:=List.getElem_of_mem hx;have QG:j<args.length:=by simp at hj;exact hj
 refine⟨λ_=>?_,λhn=>(hn (λl hl=>by simp at hl)).elim⟩;simp only[List.getElem_zip,alq];rw[amT (by simpa using QG)];simp[QG]
theorem Qn {f:bB}(fn:Func)(n:Nat)(T:List (kG P)){kR:List (Bool×Ty)}{rs:List Ty}{wA:pW kR->Prop}{fx:pW kR->oh rs}(hf:P.funcs[f]?=some fn)
  (k:∀(o:Orig) (x:pW kR),wA x->∀a w,kX (jh.of o) n (st0 kR x) a w->At ⟨none,([]:List Nat).map cD⟩ P T (fn.body.getD .skip) (Cm [] (bodyPostM aW 2 P fn (FW o λS v w'=>pz S w' rs v (fx x)))) [.run []] a w)
  (hb:fn.body.isSome=true:=by kernel_rfl) (hn:fn.ntmps=n:=by kernel_rfl) (hl:decide (kR.length<=n)=true:=by kernel_rfl):jg P f kR rs wA fx:=by
 intro o vs x hx HS;have hlen:=yb hx;refine aeI fn n hf (λa ha=>?_) hb hn (by rw[hlen];exact hl);obtain⟨A,h1,h2,h3,h5,h4⟩:=ya (o:=jh.of o) kR x vs 0 TD (λ_=>False) (xB (λk hk=>⟨hk,λq=>q⟩) hx) λ_ _ q=>q;have qx:∀t e,qL (st0 kR x) t=some e->e.ch=[]/\∃y,(lu kR x 0).1[t]?=some y/\e=⟨[],y⟩:=λt e he=>by
  obtain⟨_,y,q1,q2⟩:=sN he;exact⟨by rw[q2],y,by simpa using q1,q2⟩
 have H0:j5 (jh.of o) n A o.S (λ_=>False) (λ_=>none) (λ_=>none) a o.w:=⟨ha.1,ha.2.1,λ_ _ q=>(by cases q),λ_ _ q=>(by cases q),λ_ _ q=>(by cases q),nK.start (jh.of o),λ_ _ q=>(by cases q),⟨λ_ q=>q.elim,λ_ q=>q.elim⟩⟩;have H1:=H0.ro (kD.refl _ _) h3;have hle:∀j,FU (λ_=>False) (lu kR x 0).2 j->j<(lu kR x 0).2.length:=λj hj=>by
  rcases hj with hj|⟨z,hz⟩
  .exact hj.elim
  have:=h5 _ hz;simpa using this
 have rW:kX (jh.of o) n (st0 kR x) a o.w:=by
  refine⟨⟨A,o.S,H1.size,H1.lD,λt e he=>?_,λt e he _=>?_,λj y hj=>?_,H1.jd,H1.args,⟨λ_ q=>q.elim,λ_ q=>q.elim⟩⟩,λt e he=>(qx t e he).1,λ_ q=>q.elim⟩
  .obtain⟨_,y,q1,rfl⟩:=qx t e he;have hv:vs[t]?=some (y.den A):=by rw[<-h2,cm,q1];rfl
   have Il:=(b7.1 hv).1;refine ha.2.2 ⟨t,[],y.den A⟩ (aN.2 ⟨(t,y.den A),?_,rfl⟩);refine List.mem_iff_getElem?.2 ⟨t,?_⟩;rw[List.getElem?_zip_eq_some];exact⟨by simp[Il],hv⟩
  .obtain⟨_,y,q1,rfl⟩:=qx t e he;have:=h4 y (List.mem_of_getElem? q1);exact⟨Sy.mono hle this.1,this.2⟩
  have:=H1.j7 j y hj;exact⟨hle j this.1,R2.mono hle this.2.1,this.2.2⟩
 have:=(k o x HS a o.w rW).get;have this:(sub (fn.body.getD .skip) []).qK pl P (post pl P (fn.body.getD .skip) (bodyPostM aW 2 P fn (FW o λS v w'=>pz S w' rs v (fx x))) []) a o.w:=this;exact DL.1 this
end
def Oc (d:dc)(Q:oa):oa:=λe a w=>Q e (kJ a [d]) w
def Jq (P:az)(d:dc):Prop:=∀w,∃fv cap f args,d.target= .fn fv cap/\(invoke d.target d.args).run P w= .ok (.enter f args) w/\CallsDIn aW 1 P f args .returning w λe u w'=>(∃v,e= .returned v)/\u= .returning/\w'=w
def aeJ (B:Code)(f m n:Nat)(σ:mK):List It->Option (List It)
 | .run p::r=>match sub B p with
  | .region _ ops false=>match ops.toList with
   |[⟨some t,.makeFunc (.func f') fi ca,_,_,_,none⟩,⟨none,.defer ⟨.value (.tmp t'),ar,_⟩,_,_,_,none⟩]=>
    match(aK f' f && aK t' t) && ((fi.toList.isEmpty && ar.toList.isEmpty) && (aK ca.size m && ((qL σ t).isNone && (bp t n && Su r)))) with
    |true=>some r
    |false=>none
   |_=>none
  |_=>none
 |_=>none
section
variable {mo:Mode}{P:az}{o:jh}{n:Nat}{σ:mK}{a:Act}{w:aa}{T:List (kG P)}{B:Code}{Q:oa}{st:List It}
theorem BL {ds:List dc}(d:dc):∀ {r:List It} (e:Exit) (a:Act) (w:aa),Su r=true->post ⟨none,d::ds⟩ P B (Oc d Q) r e a w->post ⟨none,ds⟩ P B Q r e (kJ a [d]) w
 |[],e,a,w,_,h=>h
 | .lp _::_,_,_,_,hr,_=>by cases hr
 | .lV i::r,e,a,w,hr,h=>by
  have ih:=λe a w=>BL (ds:=ds) d (r:=r) e a w hr;cases e with
  |exit j=>
   have h:if j=i then post ⟨none,d::ds⟩ P B (Oc d Q) r .normal a w else post ⟨none,d::ds⟩ P B (Oc d Q) r (.exit j) a w:=h;show if j=i then post ⟨none,ds⟩ P B Q r .normal _ w else post ⟨none,ds⟩ P B Q r (.exit j) _ w;split
   .rename_i q;rw[ak q] at h;exact ih _ _ _ h
   rename_i q;rw[ah q] at h;exact ih _ _ _ h
  |_=>exact ih _ _ _ h
 | .run p::r,e,a,w,hr,h=>by
  have ih:=λe a w=>BL (ds:=ds) d (r:=r) e a w hr;cases e with
  |normal=>
   have h:(sub B p).wpIn aW 0 P (rS ⟨none,d::ds⟩ (post ⟨none,d::ds⟩ P B (Oc d Q) r)) (kJ a (d::ds)) w:=h;show(sub B p).wpIn aW 0 P (rS ⟨none,ds⟩ (post ⟨none,ds⟩ P B Q r)) (kJ (kJ a [d]) ds) w;rw[xQ];refine wpIn_mono h λe a w ⟨a0,h1,h2⟩=>⟨kJ a0 [d],?_,ih _ _ _ h2⟩;rw[h1,xQ];rfl
  |_=>exact ih _ _ _ h
theorem Xv (f m:Nat)(hq:∀cv:Array af,cv.size=m->Jq P {target:=.fn (.func f) cv,args:= #[]})(h:kX o n σ a w)
  (k:∀(d:dc) (a:Act) (w:aa),Jq P d->kX o n σ a w->At ⟨none,d::mo.ds⟩ P T B (Oc d Q) ((aeJ B f m n σ st).getD []) a w)
  (Fm:mo.ro=none:=by rfl) (ht:(aeJ B f m n σ st).isSome=true:=by kernel_rfl):At mo P T B Q st a w:=by
 obtain⟨r0,S8⟩:=bD.1 ht;rw[S8] at k;clear ht;unfold aeJ at S8;split at S8
 .rename_i p r;split at S8
  .rename_i id ops oW;split at S8
   .rename_i t0 f' fi ca ty1 po1 af1 t ar JG ty2 po2 af2 Cr;split at S8
    .rename_i hg;cases S8;simp only[aQ] at hg;obtain⟨⟨g1,g2⟩,⟨g3,g4⟩,g5,g6,g7,g8⟩:=hg;have g1:=jx g1;have g2:=jx g2;have g5:=jx g5;subst g1 g2;have g3:fi= #[]:=by rw[<-alH];exact dY.1 g3
     have g4:ar= #[]:=by rw[<-alH];exact dY.1 g4
     subst g3 g4;have ahD:ops= #[⟨some t,.makeFunc (.func f') #[] ca,ty1,po1,af1,none⟩,⟨none,.defer ⟨.value (.tmp t),#[],JG⟩,ty2,po2,af2,none⟩]:=by rw[<-alH,Cr]
     subst ahD;have⟨ro,ds⟩:=mo;have Fm:ro=none:=Fm;subst Fm;obtain⟨⟨A,S,H⟩,h0,np⟩:=h;have htn:t<n:=wh g7;have hse:qL σ t=none:=by cases hz:qL σ t<;>rw[hz] at g6<;>first|rfl|cases g6
     obtain⟨cv,MF⟩:∃cv,ca.map a.eval=cv:=⟨_,rfl⟩;have j4:cv.size=m:=by rw[<-MF,Array.size_map];exact g5
     obtain⟨v,hv⟩:∃v:af,.func (.func f') #[] cv=v:=⟨_,rfl⟩;have aaJ:kX o n σ (a.put (some t) v) w:=by
      refine⟨⟨A,S,?_,?_,λq e he=>?_,λq e he _=>H.qW q e he (λl hl=>by rw[h0 q e he] at hl;cases hl),H.j7,H.jd,H.args,H.zN⟩,h0,np⟩
      .show(a.tmps.setIfInBounds t v).size=n;rw[Array.size_setIfInBounds];exact H.size
      .exact H.lD
      have mc:t≠q:=λz=>by rw[<-z,hse] at he;cases he
      exact xT (by rw[h0 q e he];simpa using λz:q=t=>mc z.symm) (H.env q e he)
     have key:=(k {target:=.fn (.func f') cv,args:= #[]} (a.put (some t) v) w (hq cv j4) aaJ).get;have O7:=H.lD;refine⟨?_⟩;show(sub B p).qK ⟨none,ds⟩ P (post ⟨none,ds⟩ P B Q _) a w;rw[oW];refine wpIn_region_list ?_;have E6:∀x,(kJ a ds).eval x=a.eval x:=λx=>x7 x ds;have e1:(execOp (kJ a ds).eval ⟨some t,.makeFunc (.func f') #[] ca,ty1,po1,af1,none⟩).run P w= .ok (.value v) w:=by
      have:ca.map (kJ a ds).eval=cv:=by rw[<-MF];congr 1
      simp[execOp,this,hv,Instr.makeFunc,go_sem]
     have e2:(execOp ((kJ a ds).put (some t) v).eval ⟨none,.defer ⟨.value (.tmp t),#[],JG⟩,ty2,po2,af2,none⟩).run P w= .ok (.defer {target:=.fn (.func f') cv,args:= #[]}) w:=by
      have:((kJ a ds).put (some t) v).eval (.tmp t)= .func (.func f') #[] cv:=by
       show((kJ a ds).put (some t) v).tmps.getD t undef=_;rw[cj];show((a.tmps.setIfInBounds t v)[t]?).getD undef=_;rw[Array.getElem?_setIfInBounds,ak rfl,ak (by rw[H.size];exact htn),hv];rfl
      simp only[execOp,resolve,this];simp[go_sem]
     show wpListIn aW 0 P _ _ [_,_] (kJ a ds) w;simp only[wpListIn];rw[ak (by simp[cV])];refine⟨λ_ _=>trivial,?_⟩;rw[show(aW).round=none from rfl,ao2,e1];simp only[Oper.uponIn_value];rw[ak (by simp[cV])];refine⟨λ_ _=>trivial,?_⟩;rw[show(aW).round=none from rfl,ao2,e2];simp only[Oper.uponIn_defer];refine⟨kJ (a.put (some t) v) [_],?_,BL _ _ _ _ g8 key⟩;simp[kJ,dM,O7]
    cases S8
   cases S8
  cases S8
 cases S8
theorem ajN {o:Orig}{fn:Func}{rs:List Ty}{fx:oh rs}(js Ds:List Nat)(d:dc)(hd:Jq P d)(y:oh rs)(h:kX (jh.of o) n σ a w)(e:y=fx)(hl:lkD js Ds σ:=by first|exact tv|exact⟨by kernel_rfl,tv⟩|exact⟨by kernel_rfl,by kernel_rfl,tv⟩)(ht:DR B st=true:=by kernel_rfl)(hy:ZK P fn rs (js.foldl Sv σ)=some ⟨y⟩:=by kernel_rfl):
  At ⟨none,Ds.map cD++[d]⟩ P T B (Cm Ds (Oc d (bodyPostM aW 2 P fn (FW o λS v w'=>pz S w' rs v fx)))) st a w:=by
 subst e;have O7:=h.ok.choose_spec.choose_spec.lD;have key:LeavesInM aW 2 P fn a.tmps (FW o λS v w'=>pz S w' rs v y) (Ds.map cD++[d]) .returning w:=by
  have aux:∀ {js Ds:List Nat} {σ:mK} {w:aa} {R:Ending->aa->Prop},kX (jh.of o) n σ a w->lkD js Ds σ->(∀w',kX (jh.of o) n (js.foldl Sv σ) a w'->LeavesInM aW 2 P fn a.tmps R [d] .returning w')->LeavesInM aW 2 P fn a.tmps R (Ds.map cD++[d]) .returning w:=by
   intro js
   induction js with
   |nil=>intro Ds σ w R h hl k;cases Ds with
    |nil=>exact k w h
    |cons _ _=>exact hl.elim
   |cons j js ih=>intro Ds σ w R h hl k;cases Ds with
    |nil=>exact hl.elim
    |cons D Ds=>
     obtain⟨h1,h2⟩:=und h hl.1;exact⟨by simp,.inl ⟨D,_,rfl,run_takeDeferred h1,ih h2 hl.2 k⟩⟩
  refine aux h hl λw' h'=>?_;obtain⟨fv,cap,f,args,q1,q2,q3⟩:=hd w';refine⟨by simp,.inr ⟨(λz=>by cases z),fv,cap,f,args,q1,q2,λ_ _=>trivial,q3.mono ?_⟩⟩;rintro e u w2 ⟨⟨v,rfl⟩,rfl,rfl⟩;obtain⟨⟨A,S,H⟩,h0⟩:=h';obtain⟨ys,h1,hy⟩:=tw H hy;obtain⟨h2,hy⟩:=uR hy;obtain⟨x,h3,hy⟩:=x9 H (T':=wX o w2) (λk hk=>uS hk) (λc hc j hj z hz=>(ue H h2 c hc j hj z hz).up λk hk=>uS hk) hy;have hx:x=y:=by have:=bz hy;exact aG ULift.down this
  subst hx;exact⟨_,rU (ys:=ys.map (Sy.den A)) h1,_,rfl,Ik h3,zX H.jd.sw⟩
 have e1:∀e,(e= .normal\/e= .ret)->Cm Ds (Oc d (bodyPostM aW 2 P fn (FW o λS v w'=>pz S w' rs v y))) e a w:=λe he=>by
  rw[EZ];have:LeavesInM aW 2 P fn (kJ (kJ a (Ds.map cD)) [d]).tmps (FW o λS v w'=>pz S w' rs v y) (kJ (kJ a (Ds.map cD)) [d]).defers .returning w:=by
   show LeavesInM aW 2 P fn a.tmps _ ((a.defers++Ds.map cD)++[d]) .returning w;rw[O7];exact key
  rcases he with rfl|rfl<;>exact this
 unfold DR at ht;split at ht
 .rename_i p r;refine⟨?_⟩;show(sub B p).qK ⟨none,Ds.map cD++[d]⟩ P (post ⟨none,Ds.map cD++[d]⟩ P B _ r) a w;have hc:sub B p= .ret:=by
   cases hc:sub B p<;>rw[hc] at ht<;>first|rfl|cases ht
  rw[hc];exact zU (rT (e1 _ (.inr rfl)))
 .exact⟨e1 _ (.inl rfl)⟩
 cases ht
end
def Qo (q:Nat):List (Nat×Option R2)->Option (Option R2)
 |[]=>none
 |p::l=>match aK p.1 q with
  |true=>some p.2
  |false=>Qo q l
def Qp (q:Nat)(l:List (Nat×Option R2)):List (Nat×Option R2):=l.filter λp=>!Nat.beq p.1 q
def Xw (b:Nat):List Nat->Out->Tr Out
 |[],out=>.ret out
 |q::qs,out=>.res q λz=>match Qo q out.re,bp q b with
  |some (some z'),true=>Xw b qs ⟨out.cs++[z'=z],out.hs,out.sy,Qp q out.re⟩
  |_,_=>.fail
def ahE:Sc->List Nat
 | .mp q=>[q]
 | .own q=>[q]
 |_=>[]
def Xx (tr:Nat->List (Nat×Nat)->List Sy->Tr Out)(ks:List Nat)(b:Nat)(jL:List (Nat×Nat))(ys:List Sy):Tr Out:=match ys with
 | .one (.ptr j 0)::_=>.res j λz=>match z with
  | .box _ cs=>(tr b jL ys).bind (Xw b (j::ks.flatMap λk=>match cs[k]? with|some c=>ahE c|none=>[]))
  |_=>.fail
 |_=>.fail
section
variable {P:az}{o:jh}{n:Nat}{A A':ju}{S S':iF}{F G:Nat->Prop}{s:Nat->Option E2}{r:Nat->Option R2}{a:Act}{w w':aa}
theorem Hs {q:Nat}{x:Option R2}:∀ {l:List (Nat×Option R2)},Qo q l=some x->iP r l q=x/\∃x,(q,x)∈l
 |[],h=>by cases h
 |p::l,h=>by
  unfold Qo at h;show qJ (iP r l) p.1 p.2 q=x/\_;split at h
  .rename_i e;have:=jx e;subst this;cases h;exact⟨ku _ _ _,_,aA⟩
  rename_i e;obtain⟨h1,y,h2⟩:=Hs h;exact⟨by rw[lF (TW e)];exact h1,y,aE _ h2⟩
theorem Ht {q:Nat}:∀(l:List (Nat×Option R2)) (j:Nat),iP r (Qp q l) j=if j=q then r q else iP r l j
 |[],j=>by
  show r j=_;split
  .rename_i e;rw[e]
  rfl
 |p::l,j=>by
  have ih:=Ht (q:=q) l;unfold Qp at ih ⊢;rw[al0];show _=if j=q then r q else qJ (iP r l) p.1 p.2 j
  by_cases e:p.1=q
  .have:aK p.1 q=true:=by rw[e];exact Nat.beq_refl _
   rw[this];show iP r (l.filter _) j=_;rw[ih]
   by_cases z:j=q
   .rw[ak z,ak z]
   rw[ah z,ah z,lF (by omega)]
  have:aK p.1 q=false:=by
   cases hb:aK p.1 q with
   |false=>rfl
   |true=>exact absurd (jx hb) e
  rw[this];show qJ (iP r (l.filter _)) p.1 p.2 j=_
  by_cases z:p.1=j
  .rw[<-z,ku,ah e,ku]
  rw[lF z,ih]
  by_cases y:j=q
  .rw[ak y,ak y]
  rw[ah y,ah y,lF z]
theorem Mh (H:j5 o n A S F s r a w){b B:Nat}(hF:∀j,b<=j->j<B->¬F j):∀ {qs:List Nat} {AG out:Out},(Xw b qs AG).run s r=some out->(∀p∈out.cs,p)->(∀p∈out.re,p.1<B\/p.1<b)->
  (∀p∈AG.cs,p)/\AG.hs=out.hs/\(∀p∈AG.re,p.1<B\/p.1<b)/\AG.sy=out.sy/\iP r AG.re=iP r out.re/\∀j,FU F AG.re j↔FU F out.re j
 |[],AG,out,h,hc,hB=>by
  have:=iW h;subst this;exact⟨hc,rfl,hB,rfl,rfl,λ_=>alh⟩
 |q::qs,AG,out,h,hc,hB=>by
  obtain⟨z,hz,h⟩:=iQ h;split at h
  .rename_i z' hl hb;obtain⟨h1,h2,h3,h4,h5,h6⟩:=Mh H hF h hc hB;have e:z'=z:=h1 _ (bl _ (av.2 rfl));obtain⟨k1,x,k2⟩:=Hs (r:=r) hl;have F9:F q:=(H.j7 q z hz).1;have pg:q<b:=by simpa[bW] using hb
   refine⟨λp hp=>h1 p (aS _ hp),h2,λp hp=>?_,h4,?_,λj=>?_⟩
   .by_cases y:p.1=q
    .exact .inr (by omega)
    refine h3 p (cB.2 ⟨hp,?_⟩);cases hb:aK p.1 q with
    |false=>rfl
    |true=>exact absurd (jx hb) y
   .rw[<-h5];funext j;show iP r AG.re j=iP r (Qp q AG.re) j;rw[Ht];split
    .rename_i y;rw[y,k1,e,hz]
    rfl
   rw[<-h6];constructor
   .rintro(y|⟨x,y⟩)
    .exact .inl y
    by_cases z:j=q
    .exact .inl (z▸F9)
    refine .inr ⟨x,cB.2 ⟨y,?_⟩⟩;cases hb:aK j q with
    |false=>rfl
    |true=>exact absurd (jx hb) z
   rintro(y|⟨x,y⟩)
   .exact .inl y
   exact .inr ⟨x,(cB.1 y).1⟩
  cases h
theorem abE {f:bB}{tr:Nat->List (Nat×Nat)->List Sy->Tr Out}(ok:xo P f tr)(ks:List Nat):xo P f (Xx tr ks):=by
 intro o n A S F s r a w b B jL ys out H hF QX wC h j4 td hB;unfold Xx at h;split at h
 .rename_i j ys';obtain⟨z,hz,h⟩:=iQ h;split at h
  .obtain⟨AG,h0,h1⟩:=Tr.xy h;obtain⟨k1,k2,k3,k4,k5,k6⟩:=Mh H hF h1 j4 λp hp=>.inl (hB p hp);refine(ok o n A S F s r a w b (max B b) jL _ AG H (λj h1 h2=>hF j h1 (by omega)) QX wC h0 k1 (by rw[k2];exact td) λp hp=>by have:=k3 p hp;omega).mono ?_;rintro e w' ⟨v,he,A',S',g1,g2,g3,g4⟩;have hFU:FU F AG.re=FU F out.re:=funext λj=>propext (k6 j);rw[hFU,k5] at g1;rw[k4] at g2 g3 g4;rw[hFU] at g3;exact⟨v,he,A',S',g1,g2,g3,g4⟩
  cases h
 cases h
def thin (c:kG P)(ks:List Nat):kG P:=⟨c.f,Xx c.tr ks,abE c.ok ks⟩
end
end Go.Proofs.YtnfdimfepbbbpaaGreatDoor
