/- Texts joined by program: lemmas. -/
import Derived.Test.YtnfdimfepbbbpaaGreatDoorJFilePrints3
import Derived.Deep.RegionWith
import Derived.RangeFuncBound
import Derived.Shelf.Abstract
import Derived.Shelf.RegionOpen
import Derived.OwnWalkIn
import Derived.TacticsInMore
import Derived.LoopNIn
import Derived.LoopIn
import Derived.RangeFuncRecord
import Derived.RecoverIn
set_option linter.unusedSimpArgs false
set_option linter.unusedVariables false
set_option maxRecDepth 100000
set_option maxHeartbeats 8000000
open Array renaming getD_eq_getD_getElem?->cq,getElem?_eq_some_iff->cJ,replicate_succ->an4,replicate_zero->an5,toList_inj->akL
open Bool renaming and_eq_true->aR,eq_iff_iff->aj5,or_eq_true->dQ
open ByteArray renaming data_append->akK,ext->alc
open Classical renaming byContradiction->bL,not_not->ajV
open Go renaming World->aa,Value->af,TypeId->ax,Program->ay,Operand->aM,FuncId->bA,Deferred->cR
open Go.Act renaming eval->dz,put->dA
open Go.Code renaming rangeFunc->an8
open Go.Deferred renaming ofValue->alj
open Go.Fence renaming wide->aS
open Go.Instr renaming build->alg,sliceAt->cA
open Go.Lib renaming join->ajX
open Go.Maps renaming size->dN
open Go.Obj renaming stringIter->dx
open Go.Oper renaming semAt_none->aoa,upon->akf,uponIn->akg,wpIn_mono->an0
open Go.Proofs.Tryz renaming prog->aq
open Go.Region renaming wanted->cL
open Go.Sem renaming run->cj
open Go.Utf8 renaming decode->aH,valid->amF
open Go.Value renaming int->bY,pointer->cx,string->alb
open Go.World renaming alloc_heap_new->alR,putObj_heap_other->dI,putObj_heap_same->alS,putObj_size->akh,size_alloc->an9
open Int renaming le_refl->bN,lt_trans->anU,natCast_emod->amA,natCast_nonneg->cW,toNat_natCast->cH,toNat_of_nonneg->cC
open List renaming all_eq_true->aU,append_assoc->bl,append_cons->an1,append_nil->aZ,append_toArray->an7,cons_append->dh,drop_eq_getElem_cons->akU,filter_congr->ama,find?_eq_none->alq,find?_range_eq_some->akq,flatMap_append->ak4,flatMap_cons->cE,flatten_cons->ak9,foldl_append->dH,getD_eq_getElem?_getD->aJ,getElem?_append_left->cO,getElem?_append_right->cP,getElem?_eq_getElem->aY,getElem?_eq_none->dF,getElem?_eq_some_iff->bW,getElem?_map->b9,getElem?_set->ak7,getElem?_take_of_lt->anX,getElem_map->amC,getElem_range->al1,intercalate->anS,isEmpty_iff->dR,length_append->aN,length_cons->bf,length_drop->bu,length_eq_zero_iff->akM,length_map->bp,length_nil->bP,length_range->akp,length_singleton->cz,length_take->aW,map_append->cg,map_cons->bn,map_nil->cr,mem_append->aK,mem_append_left->aQ,mem_append_right->bq,mem_cons->aD,mem_cons_of_mem->aI,mem_cons_self->aE,mem_flatMap->dG,mem_map->aV,mem_of_mem_take->cQ,mem_range->b5,mem_singleton->av,nil_append->cm,nodup_append->cY,nodup_cons->ajZ,nodup_iff_pairwise_ne->alL,nodup_nil->ajW,not_mem_nil->ako,pairwise_append->anW,pairwise_cons->alN,pairwise_iff_getElem->dJ,pairwise_singleton->amE,push_toArray->an6,range->bH,range_succ->ala,replicate->cy,size_toArray->aj0,take_append_drop->dB,take_length->bU,take_succ_cons->anT,take_zero->aly
open List.Nodup renaming length_le_of_subset->anF
open List.Pairwise renaming nil->anV
open List.Sublist renaming refl->aoj
open Nat renaming add_mul->bS,add_sub_cancel->ald,add_zero->akl,beq->aP,ble->akb,blt->bw,blt_eq->bZ,le_of_ble_eq_true->akc,le_of_not_lt->dL,le_refl->az,le_succ_of_le->alJ,le_trans->bg,lt_of_lt_of_le->bh,lt_succ_iff_lt_or_eq->dw,lt_succ_of_lt->aki,lt_succ_self->cX,lt_trichotomy->amt,mod_lt->ajN,mul_add->anZ,mul_one->amD,not_lt_zero->amG,pos_of_ne_zero->alx,reduceAdd->an2,reduceSub->an3,sub_self->di,zero_le->bF
open Option renaming isSome_iff_exists->bG,map_eq_some_iff->aX
open Option.some renaming inj->bD,injEq->bM
open UInt8 renaming toNat_lt->alQ
open Go.Proofs.Tryz
namespace Go.Proofs.YtnfdimfepbbbpaaGreatDoor
open Go.RowKit
abbrev zo:ByteArray:=dU
abbrev M5:ByteArray:=eu
theorem yq (a b c:ByteArray):a++b++c=a++(b++c):=by apply alc;simp only[akK,Array.append_assoc]
theorem acJ (a:ByteArray):b0++a=a:=by apply alc;rw[akK];simp
theorem qV (a b:ByteArray):(a++b).size=a.size+b.size:=ByteArray.size_append
theorem join_one (a:ByteArray)(s:ByteArray):jd [a] s=a:=by
 apply alc;show(ajX [a.data.toList] s.data.toList).toArray=_;simp[ajX,anS]
theorem join_cons (a b:ByteArray)(l:List ByteArray)(s:ByteArray):jd (a::b::l) s=a++s++jd (b::l) s:=by
 apply alc;rw[akK,akK];show(ajX (a.data.toList::b.data.toList::l.map (·.data.toList)) s.data.toList).toArray=a.data++s.data++(ajX (b.data.toList::l.map (·.data.toList)) s.data.toList).toArray;rw[<-akL];simp[ajX,anS,List.intersperse]
theorem Hz (s x:ByteArray):∀(a:ByteArray) (l:List ByteArray),jd (a::l++[x]) s=jd (a::l) s++s++x
 |a,[]=>by
  show jd [a,x] s=_;rw[join_cons,join_one,join_one]
 |a,b::l=>by
  show jd (a::b::(l++[x])) s=_;rw[join_cons,show b::(l++[x])=b::l++[x] from rfl,Hz s x b l,join_cons];simp only[yq]
def wL (q:ByteArray)(ws:List ByteArray):ByteArray:=q++jd ws zo++M5
def mO (q:ByteArray)(ls:List (List ByteArray)):ByteArray:=ls.foldl wL q
theorem yt (q:ByteArray)(ws:List ByteArray):(wL q ws).size=q.size+(jd ws zo).size+1:=by unfold wL;rw[qV,qV];rfl
theorem C5 (q:ByteArray)(A B:List (List ByteArray)):mO q (A++B)=mO (mO q A) B:=by unfold mO;rw[dH]
theorem Qj (q:ByteArray)(A:List (List ByteArray))(ws:List ByteArray):mO q (A++[ws])=wL (mO q A) ws:=by rw[C5];rfl
theorem Oj:∀(B:List (List ByteArray)) (q:ByteArray),q.size<=(mO q B).size
 |[],q=>az _
 |ws::B,q=>by
  have h1:=Oj B (wL q ws);rw[yt] at h1;show q.size<=(mO (wL q ws) B).size;omega
theorem Qk (q:ByteArray)(A B:List (List ByteArray)):(mO q A).size<=(mO q (A++B)).size:=by rw[C5];exact Oj _ _
section
variable {α:Type}{f:α->List (List ByteArray)}{l:List α}{d:α}{i:Int}{q:ByteArray}{P R:List (List ByteArray)}{N:Nat}
abbrev yu (f:α->List (List ByteArray))(l:List α)(i:Int):List (List ByteArray):=(l.take i.toNat).flatMap f
theorem Jw (h0:0<=i)(h1:i<(l.length:Int)):yu f l (i+1)=yu f l i++f (l.getD i.toNat d):=by
 unfold yu;rw[qv (d:=d) h0 h1,ak4];simp
theorem r8 (h:¬i<(l.length:Int)):yu f l i=l.flatMap f:=by unfold yu;rw[tq h]
theorem WH (k:Nat):l.flatMap f=(l.take k).flatMap f++(l.drop k).flatMap f:=by rw[<-ak4,dB]
theorem uj (hN:(mO q (P++l.flatMap f++R)).size<=N)(h0:0<=i)(h1:i<(l.length:Int)){ws:List ByteArray}(hw:f (l.getD i.toNat d)=[ws]):(mO q (P++yu f l i)).size+(jd ws zo).size+1<=N:=by
 have e:=Jw (f:=f) (d:=d) h0 h1;rw[hw] at e;have h2:=yt (mO q (P++yu f l i)) ws;rw[<-Qj,bl,<-e] at h2;have h3:l.flatMap f=yu f l (i+1)++(l.drop (i+1).toNat).flatMap f:=WH _;have h4:=Qk q (P++yu f l (i+1)) ((l.drop (i+1).toNat).flatMap f++R);rw[<-bl,bl P,<-h3] at h4;omega
theorem qx (h0:0<=i)(h1:i<(l.length:Int)){ws:List ByteArray}(hw:f (l.getD i.toNat d)=[ws]):mO q (P++yu f l (i+1))=wL (mO q (P++yu f l i)) ws:=by
 rw[Jw (d:=d) h0 h1,hw,<-bl,Qj]
theorem C6 (h0:0<=i)(h1:i<(l.length:Int))(hw:f (l.getD i.toNat d)=[]):mO q (P++yu f l (i+1))=mO q (P++yu f l i):=by
 rw[Jw (d:=d) h0 h1,hw,aZ]
theorem yw (hN:(mO q (P++l.flatMap f++R)).size<=N):(mO q (P++yu f l i)).size<=N:=by
 have h3:l.flatMap f=yu f l i++(l.drop i.toNat).flatMap f:=WH _;have h4:=Qk q (P++yu f l i) ((l.drop i.toNat).flatMap f++R);rw[<-bl,bl P,<-h3] at h4;omega
end
abbrev HA:ByteArray:=dV
abbrev Mh:ByteArray:=aop
abbrev Mi:ByteArray:=aos
abbrev acK:ByteArray:=dY
abbrev agN:ByteArray:=dX
abbrev agO:ByteArray:=dW
abbrev wD:ByteArray:=eC
abbrev wAr:ByteArray:=aon
abbrev wRg:ByteArray:=dZ
def kE (x:Int):ByteArray:=if x=1 then agN else if x=2 then agO else acK
def fV (v:ByteArray):List (List ByteArray):=[[HA,v]]
def fE (W:List ByteArray)(e:m8):List (List ByteArray):=[[kE e.2.2.2,e.1,W.getD e.2.1.toNat b0,W.getD e.2.2.1.toNat b0]]
def fH (E:List m8)(e:Int):List (List ByteArray):=[[wD,(E.getD e.toNat mD).1]]
def fW (W:List ByteArray)(h:Int->Bool)(v:Int):List (List ByteArray):=match h v with|true=>[]|false=>[[wD,W.getD v.toNat b0]]
def fA (W:List ByteArray)(E:List m8)(T:List (List Int))(h:Int->Bool)(v:Int):List (List ByteArray):=match h v with|true=>[wAr::W.getD v.toNat b0::(iK (T.getD v.toNat [])).map (rq W E)]|false=>[]
def fR (W:List ByteArray)(E:List m8)(l:List Int):List (List ByteArray):=[wRg::l.map (rq W E)]
def kL (K:Int):List (List ByteArray):=[[if K=0 then Mh else Mi]]
def yD (W:List ByteArray)(E:List m8)(V L:List Int)(T S:List (List Int))(h:Int->Bool):List (List ByteArray):=L.flatMap (fH E)++V.flatMap (fW W h)++V.flatMap (fA W E T h)++S.flatMap (fR W E)
def Ol (K:Int)(W:List ByteArray)(E:List m8)(V L:List Int)(T S:List (List Int))(h:Int->Bool):List (List ByteArray):=
 kL K++W.flatMap fV++E.flatMap (fE W)++(if K=0 then yD W E V L T S h else[])
def enL (E:List m8)(L:List Int):List Int:=L.flatMap λe=>[(E.getD e.toNat mD).2.1,(E.getD e.toNat mD).2.2.1]
def hE (E:List m8)(L:List Int)(v:Int):Bool:=decide (v∈enL E L)
def sn (T:List (List Int))(v:Int):Bool:=decide (¬(T.getD v.toNat []).length=0)
def WI (mt:Ht)(l:List Int):Prop:=∀x,(iA mt x).isSome=true↔x∈l
theorem adV:WI [] []:=λx=>⟨λh=>(by cases h),λh=>(by cases h)⟩
theorem Mj {mt:Ht}{l:List Int}(x:Int)(h:WI mt l):WI (lD mt x ()) (l++[x]):=λy=>by
 rw[jT,aK,av,<-h y]
 by_cases e:x=y
 .rw[ak e];simp[e]
 rw[ah e];exact⟨.inl,λq=>q.resolve_right λz=>e z.symm⟩
theorem aau {E:List m8}{L:List Int}{i:Int}(h0:0<=i)(h1:i<(L.length:Int)):enL E (L.take (i+1).toNat)=enL E (L.take i.toNat)++[(E.getD (L.getD i.toNat 0).toNat mD).2.1]++[(E.getD (L.getD i.toNat 0).toNat mD).2.2.1]:=by
 unfold enL;rw[qv (d:=0) h0 h1,ak4];simp
def wdT (W:List ByteArray)(E:List m8)(ws:List ByteArray)(l:List Int)(i:Int):List ByteArray:=ws++(l.take i.toNat).map (rq W E)
theorem aav {W:List ByteArray}{E:List m8}{ws:List ByteArray}{l:List Int}{i:Int}(h0:0<=i)(h1:i<(l.length:Int)):wdT W E ws l (i+1)=wdT W E ws l i++[rq W E (l.getD i.toNat 0)]:=by
 unfold wdT;rw[qv (d:=0) h0 h1,cg,<-bl];rfl
theorem adW {W:List ByteArray}{E:List m8}{ws:List ByteArray}{l:List Int}{i:Int}(h:¬i<(l.length:Int)):wdT W E ws l i=ws++l.map (rq W E):=by unfold wdT;rw[tq h]
def Om (W:List ByteArray)(E:List m8)(s:ByteArray)(l:List Int):ByteArray:=l.foldl (λs d=>s++zo++rq W E d) s
theorem aaw {W:List ByteArray}{E:List m8}{s:ByteArray}{l:List Int}{i:Int}(h0:0<=i)(h1:i<(l.length:Int)):Om W E s (l.take (i+1).toNat)=Om W E s (l.take i.toNat)++zo++rq W E (l.getD i.toNat 0):=by
 unfold Om;rw[qv (d:=0) h0 h1,dH];rfl
theorem Jy (W:List ByteArray)(E:List m8)(a:ByteArray):∀(l:List Int) (ws:List ByteArray),Om W E (jd (a::ws) zo) l=jd (a::ws++l.map (rq W E)) zo
 |[],ws=>by show _=jd (a::ws++[]) zo;rw[aZ];rfl
 |d::l,ws=>by
  show Om W E (jd (a::ws) zo++zo++rq W E d) l=_;rw[<-Hz,show a::ws++[rq W E d]=a::(ws++[rq W E d]) from rfl,Jy W E a l];simp
theorem C7 {W:List ByteArray}{E:List m8}{N:Nat}(hW:∀j:Nat,j<W.length->(W.getD j b0).size<=N)(hE:∀j:Nat,j<E.length->(E.getD j mD).1.size<=N)(d:Int):(rq W E d).size<=N+1:=by
 unfold rq;split
 .split
  .have:=hW (-1-d).toNat (by omega);omega
  exact bF _
 split
 .exact bF _
 have:=hE (d/2).toNat (by omega);split
 .rw[qV];show _+1<=_;omega
 rw[qV];show _+1<=_;omega
theorem air (q v:ByteArray):q++aom++v++M5=wL q [HA,v]:=by
 unfold wL;rw[join_cons,join_one,show aom=HA++zo by kernel_rfl];simp only[yq]
theorem agP (q v:ByteArray):q++ez++v++M5=wL q [wD,v]:=by
 unfold wL;rw[join_cons,join_one,show ez=wD++zo by kernel_rfl];simp only[yq]
theorem ais (q k n a b:ByteArray):q++k++zo++n++zo++a++zo++b++M5=wL q [k,n,a,b]:=by
 unfold wL;rw[join_cons,join_cons,join_cons,join_one];simp only[yq]
theorem ait (W:List ByteArray)(E:List m8)(q v:ByteArray)(l:List Int):q++(Om W E (aol++v) l++M5)=wL q (wAr::v::l.map (rq W E)):=by
 unfold wL;rw[show aol++v=jd [wAr,v] zo by rw[join_cons,join_one,show aol=wAr++zo by kernel_rfl],Jy,yq];rfl
theorem aiu (W:List ByteArray)(E:List m8)(q:ByteArray)(l:List Int):q++(Om W E wRg l++M5)=wL q (wRg::l.map (rq W E)):=by
 unfold wL;rw[show wRg=jd [wRg] zo from(join_one _ _).symm,Jy,yq,join_one];rfl
section
variable {K:Int}{W:List ByteArray}{E:List m8}{V L:List Int}{T S:List (List Int)}{g:Int->Bool}{R:List (List ByteArray)}
theorem agQ (h:K=0):jd [Mh] zo++M5=mO b0 (kL K++yu fV W 0):=by
 show _=mO b0 (kL K++[]);rw[aZ];show _=b0++jd [if K=0 then Mh else Mi] zo++M5;rw[ak h,acJ]
theorem agR (h:¬K=0):jd [Mi] zo++M5=mO b0 (kL K++yu fV W 0):=by
 show _=mO b0 (kL K++[]);rw[aZ];show _=b0++jd [if K=0 then Mh else Mi] zo++M5;rw[ah h,acJ]
theorem WJ:0<(mO b0 (kL K++R)).size:=by
 rw[C5];have h1:=Oj R (mO b0 (kL K));have h2:(mO b0 (kL K)).size=b0.size+(jd [if K=0 then Mh else Mi] zo).size+1:=yt _ _;omega
theorem aax (h:K=0):Ol K W E V L T S g=kL K++W.flatMap fV++E.flatMap (fE W)++yD W E V L T S g:=by unfold Ol;rw[ak h]
theorem aay (h:¬K=0):Ol K W E V L T S g=kL K++W.flatMap fV++E.flatMap (fE W):=by unfold Ol;rw[ah h,aZ]
end
noncomputable def HB (K:Int) (W:List ByteArray) (E:List m8) (V L:List Int) (T S:List (List Int)):ByteArray×Int:=
 if ¬nj K W E V L T S=0 then(b0,nj K W E V L T S) else if 65536<((mO b0 (Ol K W E V L T S (hE E L))).size:Int) then(b0,2) else(mO b0 (Ol K W E V L T S (hE E L)),0)
def ET (W:List ByteArray)(E:List m8):Prop:=∀j:Nat,j<E.length->(0<=(E.getD j mD).2.1/\(E.getD j mD).2.1<(W.length:Int))/\(0<=(E.getD j mD).2.2.1/\(E.getD j mD).2.2.1<(W.length:Int))/\0<=(E.getD j mD).2.2.2/\(E.getD j mD).2.2.2<=2
def EU (W:List ByteArray)(E:List m8)(V L:List Int)(T:List (List Int)):Prop:=(∀v∈V,0<=v/\v<(W.length:Int)/\v<(T.length:Int))/\∀e∈L,0<=e/\e<(E.length:Int)
theorem HC {a b:ByteArray}(h:a.size+b.size<=9223372036854775807:=by first|omega|(simp only[qV];omega)):a.size+b.size<=9223372036854775807:=h
theorem WK {l:List Int}{i:Int}(h0:0<=i)(h1:i<=(l.length:Int)):Cy l i l.length=uc l i:=by
 refine List.ext_getElem (by rw[tA,Hf h0 h1]) λj hj hk=>?_;rw[tA] at hj;rw[<-getD_eq (d:=0),<-getD_eq (d:=0),L8 _ hj,EB h0 h1 hj,show i+(j:Int)=((j+i.toNat:Nat):Int) by omega,<-amA,cH]
theorem Jz {W:List ByteArray}{E:List m8}(hW:∀j:Nat,j<W.length->(W.getD j b0).size<=200)(hE:∀j:Nat,j<E.length->(E.getD j mD).1.size<=200):∀(l:List Int) (s:ByteArray),(Om W E s l).size<=s.size+202*l.length
 |[],s=>az _
 |d::l,s=>by
  have h1:=Jz hW hE l (s++zo++rq W E d);have h2:=C7 hW hE d;rw[qV,qV] at h1;rw[bf];show(Om W E (s++zo++rq W E d) l).size<=_;have h3:zo.size=1:=rfl;omega
theorem WL {T:List (List Int)}{k:Nat}(h:k<T.length):(T.map iK).getD k []=iK (T.getD k []):=by
 rw[getD_eq (by rw[bp];exact h),amC,getD_eq h]
theorem adX {x:Int}(h0:0<=x)(h1:x<=2):([acK,agN,agO]:List ByteArray).getD x.toNat b0=kE x:=by
 unfold kE;have:x=0\/x=1\/x=2:=by omega
 rcases this with rfl|rfl|rfl<;>rfl
def J8 (K:Int)(W:List ByteArray)(E:List m8)(V L:List Int)(T S:List (List Int))(h:Int->Bool):List (List ByteArray):=kL K++W.flatMap fV++E.flatMap (fE W)++yD W E V L T S h
theorem aiv {K:Int}{W:List ByteArray}(h:K=0):aou=mO b0 (kL K++yu fV W 0):=by rw[<-agQ h,join_one];kernel_rfl
theorem aiw {K:Int}{W:List ByteArray}(h:¬K=0):aot=mO b0 (kL K++yu fV W 0):=by rw[<-agR h,join_one];kernel_rfl
def JA (E:List (Int×Int))(v:Int)(l:List Int):Int:=if l.findIdx (λx=>decide (iC E x=v))<l.length then((l.findIdx λx=>decide (iC E x=v):Nat):Int) else -1
section
variable {E:List (Int×Int)}{v:Int}{l:List Int}
end
def arS (E:List (Int×Int))(s:List Int×List (List Int))(d:Int):List Int×List (List Int):=
 if JA E (iC E (jx d)) (s.1++[d])<0 then(s.1++[d],s.2)
 else((s.1++[d]).take (JA E (iC E (jx d)) (s.1++[d])).toNat,
  if(((s.1++[d]).drop (JA E (iC E (jx d)) (s.1++[d])).toNat).length:Int)≠2\/((s.1++[d]).drop (JA E (iC E (jx d)) (s.1++[d])).toNat).getD 0 0≠jx (((s.1++[d]).drop (JA E (iC E (jx d)) (s.1++[d])).toNat).getD 1 0)
  then s.2++[(s.1++[d]).drop (JA E (iC E (jx d)) (s.1++[d])).toNat] else s.2)
def OkD (E:List (Int×Int))(d:Int):Prop:=0<=d/\d/2<(E.length:Int)
instance (E:List (Int×Int)) (d:Int):Decidable (OkD E d):=inferInstanceAs (Decidable (_/\_))
section
variable {n:Int}{E:List (Int×Int)}{ds:List Int}
end
def aaz (ds:List Int)(j:Nat):Int:=if j=0 then ds.getD (ds.length-1) 0 else ds.getD (j-1) 0
def CyK (E:List (Int×Int))(ds:List Int)(k:Nat):Prop:=
 (∀j,j<k->iC E (jx (aaz ds j))=iC E (ds.getD j 0))/\∀j,j<k->∀i,i<j->¬iC E (ds.getD i 0)=iC E (ds.getD j 0)/\¬ds.getD i 0/2=ds.getD j 0/2
def agS (n:Int)(E:List (Int×Int))(V L:List Int)(ds:List Int):Prop:=iM n E V L=0/\ds≠[]/\(∀d∈ds,0<=d/\hasB L (d/2)=true)/\CyK E ds ds.length
instance (E:List (Int×Int)) (ds:List Int) (k:Nat):Decidable (CyK E ds k):=by unfold CyK;infer_instance
instance (n:Int) (E:List (Int×Int)) (V L:List Int) (ds:List Int):Decidable (agS n E V L ds):=by unfold agS;infer_instance
structure CyI (E:List (Int×Int))(ds:List Int)(k:Nat)(vm em:List (Int×Int))(a:Int):Prop where
 ok:CyK E ds k
 vk:∀x,(iA vm x).isSome=true↔∃j,j<k/\iC E (ds.getD j 0)=x
 ek:∀x,(iA em x).isSome=true↔∃j,j<k/\ds.getD j 0/2=x
 pr:a=aaz ds k
 len:vm.length<=k/\em.length<=k
section
variable {E:List (Int×Int)}{ds:List Int}{vm em:List (Int×Int)}{a:Int}
theorem CyI.step {i:Int}(h0:0<=i)(h:CyI E ds i.toNat vm em a)(h1:((iA vm (iC E (ds.getD i.toNat 0))).isSome=false/\(iA em (ds.getD i.toNat 0/2)).isSome=false)/\iC E (jx a)=iC E (ds.getD i.toNat 0)):
  CyI E ds (i+1).toNat (lD vm (iC E (ds.getD i.toNat 0)) i) (lD em (ds.getD i.toNat 0/2) i) (ds.getD i.toNat 0):=by
 obtain⟨⟨g1,g2⟩,g3⟩:=h1;have g1:¬(iA vm (iC E (ds.getD i.toNat 0))).isSome=true:=by rw[g1];decide
 have g2:¬(iA em (ds.getD i.toNat 0/2)).isSome=true:=by rw[g2];decide
 rw[show(i+1).toNat=i.toNat+1 by omega];have agT:∀(m:List (Int×Int)) (f:Nat->Int) (x:Int),(∀x,(iA m x).isSome=true↔∃j,j<i.toNat/\f j=x)->((iA (lD m (f i.toNat) i) x).isSome=true↔∃j,j<i.toNat+1/\f j=x):=by
  intro m f x hm;rw[jT]
  by_cases q:f i.toNat=x
  .rw[ak q];exact⟨λ_=>⟨_,cX _,q⟩,λ_=>rfl⟩
  rw[ah q,hm];exact⟨λ⟨j,h1,h2⟩=>⟨j,by omega,h2⟩,λ⟨j,h1,h2⟩=>⟨j,by
   rcases dw.1 h1 with z|z
   .exact z
   subst z;exact absurd h2 q,h2⟩⟩
 refine⟨⟨λj hj=>?_,λj hj p hp=>?_⟩,λx=>agT vm (λj=>iC E (ds.getD j 0)) x h.vk,λx=>agT em (λj=>ds.getD j 0/2) x h.ek,?_,?_,?_⟩
 .rcases dw.1 hj with z|z
  .exact h.ok.1 j z
  subst z;rw[<-h.pr];exact g3
 .rcases dw.1 hj with z|z
  .exact h.ok.2 j z p hp
  subst z;exact⟨λe=>g1 ((h.vk _).2 ⟨p,hp,e⟩),λe=>g2 ((h.ek _).2 ⟨p,hp,e⟩)⟩
 .unfold aaz;rw[ah (by omega)];rfl
 .have:=ny vm (iC E (ds.getD i.toNat 0)) i;have:=h.len;omega
 have:=ny em (ds.getD i.toNat 0/2) i;have:=h.len;omega
theorem CyI.bad {i:Int}(h0:0<=i)(h:CyI E ds i.toNat vm em a)(hi:i.toNat<ds.length)(h1:((iA vm (iC E (ds.getD i.toNat 0))).isSome=true\/(iA em (ds.getD i.toNat 0/2)).isSome=true)\/¬iC E (jx a)=iC E (ds.getD i.toNat 0)):¬CyK E ds ds.length:=by
 intro hk;rcases h1 with(q|q)|q
 .obtain⟨j,hj,e⟩:=(h.vk _).1 q;exact(hk.2 i.toNat hi j hj).1 e
 .obtain⟨j,hj,e⟩:=(h.ek _).1 q;exact(hk.2 i.toNat hi j hj).2 e
 exact q (by rw[h.pr];exact hk.1 _ hi)
end
abbrev ld (n:Int):Prop:= -9223372036854775808<=n/\n<=9223372036854775807
theorem agU:je aq 111 [(false,(.list .int)),(false,.int)] [.bool] (λ_=>True) (λx=>(decide ((I_ x.2.1)∈(J_ x.1)),())):=by
 refine iV f111 18 [] func111 λo x hd _ _ h=>?_;obtain⟨(l:List Int),(x:Int),_⟩:=x;have oM:=lF h 0 l;refine qG [] h ?_;refine oY l (λi=>⟨[(0,eo 0),(1,en x),(5,en i)],[(0,some (.ar .int l))],1⟩) (λi=> ∀j:Nat,(j:Int)<i->¬l.getD j 0=x) (ir 1) (λj hj=>by omega) λi _ jZ i0 i1 i2=>?_;refine iP ?_;refine iO (p:=i<(l.length:Int)) (λq1=>?_) λq1=>?_
 .refine iZ (pr:=(jg i l.length)) bx ?_;refine iO (p:=(l.getD i.toNat 0)=x) (λq2=>?_) λq2=>?_
  .refine iP ?_;exact iH ((true:Bool),()) (aL (·,()) (show(true)=decide (x∈l) from(bB (nG.2 ⟨i.toNat,by omega,q2⟩)).symm))
  refine iZ (pr:=(jh .i64 (i+1))) jB ?_;exact k9 (jZ (ir 1) (λj hj=>if z:(j:Int)<i then i2 j z else by rw[show j=i.toNat by omega];exact q2))
 refine iP ?_;exact iH ((false:Bool),()) (aL (·,()) (show(false)=decide (x∈l) from(bQ λq=>by obtain⟨j,hj,e⟩:=nG.1 q;exact i2 j (by omega) e).symm))
def Cj:kI aq:=plain agU
theorem WM:je aq 167 [(false,(.list .int)),(false,.int)] [.bool] (λ_=>True) (λx=>(decide (jQ (J_ x.1) (I_ x.2.1)),())):=by
 refine iV f167 41 [] func167 λo x hd _ _ h=>?_;obtain⟨(l:List Int),(n:Int),_⟩:=x;have oM:=lF h 0 l;refine qG [] h ?_;refine oY l (λi=>⟨[(0,eo 0),(1,en n),(5,en i)],[(0,some (.ar .int l))],1⟩) (λi=> ∀j:Nat,(j:Int)<i->(0<=l.getD j 0/\l.getD j 0<n/\(0<j->l.getD (j-1) 0<l.getD j 0))) (ir 1) (λj hj=>by omega) λi _ jZ i0 i1 i2=>?_;refine iP ?_;refine iO (p:=i<(l.length:Int)) (λq1=>?_) λq1=>?_
 .refine iZ (pr:=(jg i l.length)/\((¬((l.getD i.toNat 0)<0))->(jg i l.length))/\(((¬((l.getD i.toNat 0)<0))/\(¬(n<=(l.getD i.toNat 0))))->((0:Int)<i)->(jg i l.length))/\(((¬((l.getD i.toNat 0)<0))/\(¬(n<=(l.getD i.toNat 0))))->((0:Int)<i)->(jh .i64 (i-1)))/\(((¬((l.getD i.toNat 0)<0))/\(¬(n<=(l.getD i.toNat 0))))->((0:Int)<i)->(jg (i-1) l.length))) ⟨bx,λ_=>bx,λ_ _=>bx,λ_ _=>jB,λ_ _=>bx⟩ ?_;refine jO (λ(q2:(((l.getD i.toNat 0)<0)\/(n<=(l.getD i.toNat 0)))\/(((0:Int)<i)/\((l.getD i.toNat 0)<=(l.getD (i-1).toNat 0))))=>?_) (λ(q2:((¬((l.getD i.toNat 0)<0))/\(¬(n<=(l.getD i.toNat 0))))/\((¬((0:Int)<i))\/(¬((l.getD i.toNat 0)<=(l.getD (i-1).toNat 0)))))=>?_)
  .refine iP ?_;exact iH ((false:Bool),()) (aL (·,()) (show(false)=decide (jQ l n) from(bQ λq=>by have q:=q i.toNat (by omega);have z:=q2;rw[show(i-1).toNat=i.toNat-1 by omega] at z;omega).symm))
  refine iZ (pr:=(jh .i64 (i+1))) jB ?_;exact k9 (jZ (ir 1) (λj hj=>if z:(j:Int)<i then i2 j z else by rw[show j=i.toNat by omega];have q:=q2;rw[show(i-1).toNat=i.toNat-1 by omega] at q;omega))
 refine iP ?_;exact iH ((true:Bool),()) (aL (·,()) (show(true)=decide (jQ l n) from(bB (show jQ l n from λj hj=>i2 j (by omega))).symm))
def WN:kI aq:=plain WM
theorem WO:je aq 96 [(false,(.list .int)),(false,.int)] [.bool] (λ_=>True) (λx=>(decide (jQ (J_ x.1) (I_ x.2.1)),())):=by
 refine iV f96 35 [] func96 λo x hd _ _ h=>?_;obtain⟨(l:List Int),(n:Int),_⟩:=x;have oM:=lF h 0 l;refine qG [] h ?_;refine oY l (λi=>⟨[(0,eo 0),(1,en n),(7,eo 0),(8,en (l.length:Int)),(9,en i)],[(0,some (.ar .int l))],1⟩) (λi=> ∀j:Nat,(j:Int)<i->(0<=l.getD j 0/\l.getD j 0<n/\(0<j->l.getD (j-1) 0<l.getD j 0))) (ir 1) (λj hj=>by omega) λi _ jZ i0 i1 i2=>?_;refine iP ?_;refine iO (p:=i<(l.length:Int)) (λq1=>?_) λq1=>?_
 .refine iZ (pr:=(jg i l.length)/\(((¬((l.getD i.toNat 0)<0))/\(¬(n<=(l.getD i.toNat 0))))->((0:Int)<i)->(jh .i64 (i-1)))/\(((¬((l.getD i.toNat 0)<0))/\(¬(n<=(l.getD i.toNat 0))))->((0:Int)<i)->(jg (i-1) l.length))) ⟨bx,λ_ _=>jB,λ_ _=>bx⟩ ?_;refine jO (λ(q2:(((l.getD i.toNat 0)<0)\/(n<=(l.getD i.toNat 0)))\/(((0:Int)<i)/\((l.getD i.toNat 0)<=(l.getD (i-1).toNat 0))))=>?_) (λ(q2:((¬((l.getD i.toNat 0)<0))/\(¬(n<=(l.getD i.toNat 0))))/\((¬((0:Int)<i))\/(¬((l.getD i.toNat 0)<=(l.getD (i-1).toNat 0)))))=>?_)
  .refine iP ?_;exact iH ((false:Bool),()) (aL (·,()) (show(false)=decide (jQ l n) from(bQ λq=>by have q:=q i.toNat (by omega);have z:=q2;rw[show(i-1).toNat=i.toNat-1 by omega] at z;omega).symm))
  refine iZ (pr:=(jh .i64 (i+1))) jB ?_;exact k9 (jZ (ir 1) (λj hj=>if z:(j:Int)<i then i2 j z else by rw[show j=i.toNat by omega];have q:=q2;rw[show(i-1).toNat=i.toNat-1 by omega] at q;omega))
 refine iP ?_;exact iH ((true:Bool),()) (aL (·,()) (show(true)=decide (jQ l n) from(bB (show jQ l n from λj hj=>i2 j (by omega))).symm))
def WQ:kI aq:=plain WO
theorem WR:je aq 77 [(false,s8)] [.int] (λx=>ld (I_ x.1.1)) (λx=>(jm (I_ x.1.1) (E_ x.1.2),())):=by
 refine iV f77 70 [] func77 λo x hd _ _ h=>?_;obtain⟨⟨(n:Int),(E:List (Int×Int))⟩,_⟩:=x;have oM:=vJ h 0 E;change ld n at hd;have hn:=hd;unfold ld at hn;refine qG [] h ?_;refine iO (p:=n<0) (λq1=>?_) λq1=>?_
 .refine iP ?_;exact iH (((3:Int):Int),()) (aL (·,()) (show((3:Int))=jm n E from by unfold jm;first|rw[ak (by omega)]|rw[ah (by omega),ak (by omega)]))
 refine iZ (pr:=((¬((1024:Int)<n))/\(¬((1024:Int)<(E.length:Int))))->(jh .i64 (n+(E.length:Int)))) (λ_=>jB) ?_;refine jO (λ(q2:(((1024:Int)<n)\/((1024:Int)<(E.length:Int)))\/((1024:Int)<n+(E.length:Int)))=>?_) (λ(q2:((¬((1024:Int)<n))/\(¬((1024:Int)<(E.length:Int))))/\(¬((1024:Int)<n+(E.length:Int))))=>?_)
 .refine iP ?_;exact iH (((2:Int):Int),()) (aL (·,()) (show((2:Int))=jm n E from by unfold jm;first|rw[ak (by omega)]|rw[ah (by omega),ak (by omega)]))
 refine iP ?_;refine oY E (λi=>⟨[(1,ep 0),(3,en i)],[(0,some (.box 55 [.v (.int .i64 n),.own 1])),(1,some (.ar qS E))],2⟩) (λi=> ∀j:Nat,(j:Int)<i->NY n (E.getD j (0,0))) (rk [1,0]) (λj hj=>by omega) λi _ jZ i0 i1 i2=>?_;refine iP ?_;refine iO (p:=i<(E.length:Int)) (λq3=>?_) λq3=>?_
 .refine iZ (pr:=(jg i E.length)/\((¬((E.getD i.toNat (0,0)).1<0))->(jg i E.length))/\(((¬((E.getD i.toNat (0,0)).1<0))/\(¬(n<=(E.getD i.toNat (0,0)).1)))->(jg i E.length))/\((((¬((E.getD i.toNat (0,0)).1<0))/\(¬(n<=(E.getD i.toNat (0,0)).1)))/\(¬((E.getD i.toNat (0,0)).2<0)))->(jg i E.length))) ⟨bx,λ_=>bx,λ_=>bx,λ_=>bx⟩ ?_;refine jO (λ(q4:((((E.getD i.toNat (0,0)).1<0)\/(n<=(E.getD i.toNat (0,0)).1))\/((E.getD i.toNat (0,0)).2<0))\/(n<=(E.getD i.toNat (0,0)).2))=>?_) (λ(q4:(((¬((E.getD i.toNat (0,0)).1<0))/\(¬(n<=(E.getD i.toNat (0,0)).1)))/\(¬((E.getD i.toNat (0,0)).2<0)))/\(¬(n<=(E.getD i.toNat (0,0)).2)))=>?_)
  .refine iP ?_;exact iH (((3:Int):Int),()) (aL (·,()) (show((3:Int))=jm n E from(Eh (by omega) (by omega) (by omega) i0 (by omega) (by unfold NY;have:=q4;omega)).symm))
  refine iZ (pr:=(jh .i64 (i+1))) jB ?_;exact k9 (jZ (ir 2) (λj hj=>if z:(j:Int)<i then i2 j z else by rw[show j=i.toNat by omega];unfold NY;have:=q4;omega))
 refine iP ?_;exact iH (((0:Int):Int),()) (aL (·,()) (show((0:Int))=jm n E from(G3 (i:=i) (by omega) (by omega) (by omega) (by omega) i2).symm))
def EV:kI aq:=plain WR
theorem aaA:je aq 73 [(false,s8)] [.int] (λx=>ld (I_ x.1.1)) (λx=>(jm (I_ x.1.1) (E_ x.1.2),())):=by
 refine iV f73 50 [] func73 λo x hd _ _ h=>?_;obtain⟨⟨(n:Int),(E:List (Int×Int))⟩,_⟩:=x;have oM:=vJ h 0 E;change ld n at hd;have hn:=hd;unfold ld at hn;refine qG [] h ?_;refine iO (p:=n<0) (λq1=>?_) λq1=>?_
 .refine iP ?_;exact iH (((3:Int):Int),()) (aL (·,()) (show((3:Int))=jm n E from by unfold jm;first|rw[ak (by omega)]|rw[ah (by omega),ak (by omega)]))
 refine iZ (pr:=(¬((1024:Int)<n))->(jh .i64 (1024-n))) (λ_=>jB) ?_;refine jO (λ(q2:((1024:Int)<n)\/(1024-n<(E.length:Int)))=>?_) (λ(q2:(¬((1024:Int)<n))/\(¬(1024-n<(E.length:Int))))=>?_)
 .refine iP ?_;exact iH (((2:Int):Int),()) (aL (·,()) (show((2:Int))=jm n E from by unfold jm;first|rw[ak (by omega)]|rw[ah (by omega),ak (by omega)]))
 refine iP ?_;refine oY E (λi=>⟨[(1,ep 0),(21,eo 1),(22,en (E.length:Int)),(23,en i)],[(0,some (.box 55 [.v (.int .i64 n),.own 1])),(1,some (.ar qS E))],2⟩) (λi=> ∀j:Nat,(j:Int)<i->NY n (E.getD j (0,0))) (rk [1,0]) (λj hj=>by omega) λi _ jZ i0 i1 i2=>?_;refine iP ?_;refine iO (p:=i<(E.length:Int)) (λq3=>?_) λq3=>?_
 .refine iZ (pr:=(jg i E.length)) bx ?_;refine jO (λ(q4:((((E.getD i.toNat (0,0)).1<0)\/(n<=(E.getD i.toNat (0,0)).1))\/((E.getD i.toNat (0,0)).2<0))\/(n<=(E.getD i.toNat (0,0)).2))=>?_) (λ(q4:(((¬((E.getD i.toNat (0,0)).1<0))/\(¬(n<=(E.getD i.toNat (0,0)).1)))/\(¬((E.getD i.toNat (0,0)).2<0)))/\(¬(n<=(E.getD i.toNat (0,0)).2)))=>?_)
  .refine iP ?_;exact iH (((3:Int):Int),()) (aL (·,()) (show((3:Int))=jm n E from(Eh (by omega) (by omega) (by omega) i0 (by omega) (by unfold NY;have:=q4;omega)).symm))
  refine iZ (pr:=(jh .i64 (i+1))) jB ?_;exact k9 (jZ (ir 2) (λj hj=>if z:(j:Int)<i then i2 j z else by rw[show j=i.toNat by omega];unfold NY;have:=q4;omega))
 refine iP ?_;exact iH (((0:Int):Int),()) (aL (·,()) (show((0:Int))=jm n E from(G3 (i:=i) (by omega) (by omega) (by omega) (by omega) i2).symm))
def Ql:kI aq:=plain aaA
theorem aaB:je aq 162 [(false,.int)] [.bool] (λ_=>True) (λx=>(false,())):=by
 refine iV f162 6 [] func162 λo x hd _ _ h=>?_;obtain⟨(x:Int),_⟩:=x;refine qG [] h ?_;exact iH ((!(decide (x=x)):Bool),()) (aL (·,()) (show(!(decide (x=x)))=false from by simp))
def aaC:kI aq:=plain aaB
theorem WS:je aq 160 [(false,.int)] [.bool] (λ_=>True) (λx=>(false,())):=by
 refine iV f160 6 [] func160 λo x hd _ _ h=>?_;obtain⟨(x:Int),_⟩:=x;refine qG [] h ?_;exact iH ((!(decide (x=x)):Bool),()) (aL (·,()) (show(!(decide (x=x)))=false from by simp))
def WT:kI aq:=plain WS
theorem adY:je aq 127 [(false,.int),(false,.int)] [.bool] (λ_=>True) (λx=>(decide ((I_ x.1)<(I_ x.2.1)),())):=by
 refine iV f127 17 [WT] func127 λo x hd _ _ h=>?_;obtain⟨(x:Int),(y:Int),_⟩:=x;refine go (pr:=True/\((false=true)->True)) [] h ⟨tv,λ_=>trivial⟩ ?_;exact iH (((false && (!false))||(decide (x<y)):Bool),()) (aL (·,()) (show((false && (!false))||(decide (x<y)))=decide (x<y) from by simp))
def adZ:kI aq:=plain adY
theorem aix:je aq 134 [(false,(.list .int)),(false,.int)] [.int,.bool] (λx=>(J_ x.1).length<=1000000) (λx=>(VI (J_ x.1) (I_ x.2.1),hasB (J_ x.1) (I_ x.2.1),())):=by
 refine iV f134 54 [aaC,adZ] func134 λo x hd _ _ h=>?_;obtain⟨(l:List Int),(x:Int),_⟩:=x;have oM:=lF h 0 l;change l.length<=1000000 at hd;refine qG [] h ?_;refine qT Int Int (λp q=>⟨[(0,eo 0),(1,en x),(6,en (l.length:Int)),(7,en p),(8,en q)],[(0,some (.ar .int l))],1⟩) (λp q=>0<=p/\p<=q/\q<=(l.length:Int)/\PR l x p q=VI l x) (λp q=>(q-p).toNat) 0 (l.length:Int) (ir 1) ⟨bN _,cW _,bN _,acA l x⟩ λp q _ jZ hI=>?_;have⟨h1,h2,h3,hb⟩:=hI;refine iP ?_;refine iO (p:=p<q) (λq1=>?_) λq1=>?_
 .refine iZ (pr:=(jh .i64 (p+q))/\(jh .u64 (p+q))/\(jh .i64 ((p+q)/2))/\(jg ((p+q)/2) l.length)/\True) ⟨jB,⟨by omega,by omega⟩,jB,bx,tv⟩ ?_;refine jO (λ(q2:(decide ((l.getD ((p+q)/2).toNat 0)<x))=true)=>?_) (λ(q2:(decide ((l.getD ((p+q)/2).toNat 0)<x))=false)=>?_)
  .refine iZ (pr:=(jh .i64 (((p+q)/2)+1))) jB ?_;exact k9 (jZ (((p+q)/2)+1) q (ir 1) ⟨by omega,by omega,by omega,by rw[acy (by omega) (aA q2)] at hb;exact hb⟩ (by omega))
  refine iP ?_;exact k9 (jZ p ((p+q)/2) (ir 1) ⟨by omega,by omega,by omega,by rw[acz (by omega) (aG q2)] at hb;exact hb⟩ (by omega))
 have e1:p=VI l x:=by rw[Jb (by omega)] at hb;exact hb
 refine iZ (pr:=((p<(l.length:Int))->(jg p l.length))/\((p<(l.length:Int))->(¬((l.getD p.toNat 0)=x))->(jg p l.length))/\((p<(l.length:Int))->(¬((l.getD p.toNat 0)=x))->True)/\((p<(l.length:Int))->(¬((l.getD p.toNat 0)=x))->(false=true)->True)) ⟨λ_=>bx,λ_ _=>bx,λ_ _=>trivial,λ_ _ _=>trivial⟩ ?_;exact iH ((p:Int),((decide (p<(l.length:Int))) && ((decide ((l.getD p.toNat 0)=x))||(false && false)):Bool),()) (Prod.ext e1 (aL (·,()) (show((decide (p<(l.length:Int))) && ((decide ((l.getD p.toNat 0)=x))||(false && false)))=hasB l x from by unfold hasB;rw[<-e1];simp)))
def aiy:kI aq:=plain aix
theorem agV:je aq 97 [(false,(.list .int)),(false,.int)] [.bool] (λx=>(J_ x.1).length<=1000000) (λx=>(hasB (J_ x.1) (I_ x.2.1),())):=by
 refine iV f97 14 [aiy] func97 λo x hd _ _ h=>?_;obtain⟨(l:List Int),(x:Int),_⟩:=x;have oM:=lF h 0 l;change l.length<=1000000 at hd;refine go (pr:=(l.length<=1000000)) [] h hd ?_;exact iH ((hasB l x:Bool),()) rfl
def agW:kI aq:=plain agV
theorem aaD:je aq 74 [(false,s8),(false,qH)] [.int] (λx=>ld (I_ x.1.1)) (λx=>(iM (I_ x.1.1) (E_ x.1.2) (J_ x.2.1.1) (J_ x.2.1.2),())):=by
 refine iV f74 58 [agW,Ql,WQ] func74 λo x hd _ _ h=>?_;obtain⟨⟨(n:Int),(E:List (Int×Int))⟩,⟨(V:List Int),(L:List Int)⟩,_⟩:=x;have oM:=vJ h 0 E;have oA:=lF h 1 V;have oy:=lF h 2 L;change ld n at hd;have hn:=hd;refine go (pr:=(ld n)) [] h hn ?_;refine ng (p:=jm n E=0) (λq1=>?_) λq1=>?_
 .refine iP ?_;exact iH ((jm n E:Int),()) (aL (·,()) (show(jm n E)=iM n E V L from(ak q1).symm))
 refine iZ (pr:=True/\(((decide (jQ V n))=true)->True)) ⟨tv,λ_=>trivial⟩ ?_;refine jO (λ(q2:((decide (jQ V n))=false)\/((decide (jQ L (E.length:Int)))=false))=>?_) (λ(q2:((decide (jQ V n))=true)/\((decide (jQ L (E.length:Int)))=true))=>?_)
 .refine iP ?_;exact iH (((4:Int):Int),()) (aL (·,()) (show((4:Int))=iM n E V L from by unfold iM;rw[ah (by omega),ak (q2.imp aG aG)]))
 have SC:=jD (n:=n) (E:=E) q1;have Tu:jQ V n:=aA q2.1;have C4:jQ L (E.length:Int):=aA q2.2;have hv9:=jv Tu (by omega);have hl9:=jv C4 (by omega);refine iP ?_;refine oY L (λi=>⟨[(2,ep 0),(3,ep 1),(29,eo 2),(30,en (L.length:Int)),(31,en i)],[(0,some (.box 55 [.v (.int .i64 n),.own 3])),(1,some (.box 26 [.own 4,.own 2])),(2,some (.ar .int L)),(3,some (.ar qS E)),(4,some (.ar .int V))],5⟩) (λi=> ∀j:Nat,(j:Int)<i->(hasB V (E.getD (L.getD j 0).toNat (0,0)).1=true/\hasB V (E.getD (L.getD j 0).toNat (0,0)).2=true)) (rk [3,4099,2,0,1]) (λj hj=>by omega) λi _ jZ i0 i1 i2=>?_;refine iP ?_;refine iO (p:=i<(L.length:Int)) (λq3=>?_) λq3=>?_
 .have hx:=C4 i.toNat (by omega);refine iZ (pr:=(jg i L.length)/\(jg (L.getD i.toNat 0) E.length)/\(V.length<=1000000)/\(((hasB V ((E.getD (L.getD i.toNat 0).toNat (0,0)).1))=true)->(jg (L.getD i.toNat 0) E.length))/\(((hasB V ((E.getD (L.getD i.toNat 0).toNat (0,0)).1))=true)->(V.length<=1000000))) ⟨bx,bx,by omega,λ_=>bx,λ_=>by omega⟩ ?_;refine jO (λ(q4:((hasB V ((E.getD (L.getD i.toNat 0).toNat (0,0)).1))=false)\/((hasB V ((E.getD (L.getD i.toNat 0).toNat (0,0)).2))=false))=>?_) (λ(q4:((hasB V ((E.getD (L.getD i.toNat 0).toNat (0,0)).1))=true)/\((hasB V ((E.getD (L.getD i.toNat 0).toNat (0,0)).2))=true))=>?_)
  .refine iP ?_;exact iH (((4:Int):Int),()) (aL (·,()) (show((4:Int))=iM n E V L from by unfold iM;rw[ah (by omega),ah (by rintro(q|q);exact q Tu;exact q C4),ah (λq:xp E V L=>by have z:=q i.toNat (by omega);rcases q4 with y|y;rw[z.1] at y;cases y;rw[z.2] at y;cases y)]))
  refine iZ (pr:=(jh .i64 (i+1))) jB ?_;exact k9 (jZ (ir 5) (λj hj=>if z:(j:Int)<i then i2 j z else by rw[show j=i.toNat by omega];exact q4))
 refine iP ?_;exact iH (((0:Int):Int),()) (aL (·,()) (show((0:Int))=iM n E V L from by unfold iM;rw[ah (by omega),ah (by rintro(q|q);exact q Tu;exact q C4),ak (show xp E V L from λj hj=>i2 j (by omega))]))
def JB:kI aq:=plain aaD
theorem WU:je aq 141 [(false,s8),(false,qH)] [.int] (λx=>ld (I_ x.1.1)) (λx=>(iM (I_ x.1.1) (E_ x.1.2) (J_ x.2.1.1) (J_ x.2.1.2),())):=by
 refine iV f141 64 [Cj,EV,WN] func141 λo x hd _ _ h=>?_;obtain⟨⟨(n:Int),(E:List (Int×Int))⟩,⟨(V:List Int),(L:List Int)⟩,_⟩:=x;have oM:=vJ h 0 E;have oA:=lF h 1 V;have oy:=lF h 2 L;change ld n at hd;have hn:=hd;refine go (pr:=(ld n)) [] h hn ?_;refine ng (p:=jm n E=0) (λq1=>?_) λq1=>?_
 .refine iP ?_;exact iH ((jm n E:Int),()) (aL (·,()) (show(jm n E)=iM n E V L from(ak q1).symm))
 refine iZ (pr:=True/\(((decide (jQ V n))=true)->True)) ⟨tv,λ_=>trivial⟩ ?_;refine jO (λ(q2:((decide (jQ V n))=false)\/((decide (jQ L (E.length:Int)))=false))=>?_) (λ(q2:((decide (jQ V n))=true)/\((decide (jQ L (E.length:Int)))=true))=>?_)
 .refine iP ?_;exact iH (((4:Int):Int),()) (aL (·,()) (show((4:Int))=iM n E V L from by unfold iM;rw[ah (by omega),ak (q2.imp aG aG)]))
 have SC:=jD (n:=n) (E:=E) q1;have Tu:jQ V n:=aA q2.1;have C4:jQ L (E.length:Int):=aA q2.2;have hv9:=jv Tu (by omega);have hl9:=jv C4 (by omega);refine iP ?_;refine oY L (λi=>⟨[(2,ep 0),(3,ep 1),(6,en i)],[(0,some (.box 55 [.v (.int .i64 n),.own 2])),(1,some (.box 26 [.own 3,.own 4])),(2,some (.ar qS E)),(3,some (.ar .int V)),(4,some (.ar .int L))],5⟩) (λi=> ∀j:Nat,(j:Int)<i->(hasB V (E.getD (L.getD j 0).toNat (0,0)).1=true/\hasB V (E.getD (L.getD j 0).toNat (0,0)).2=true)) (rk [3,4099,0,1,2]) (λj hj=>by omega) λi _ jZ i0 i1 i2=>?_;refine iP ?_;refine iO (p:=i<(L.length:Int)) (λq3=>?_) λq3=>?_
 .have hx:=C4 i.toNat (by omega);refine iZ (pr:=(jg i L.length)/\(jg (L.getD i.toNat 0) E.length)/\True/\(((decide ((E.getD (L.getD i.toNat 0).toNat (0,0)).1∈V))=true)->(jg i L.length))/\(((decide ((E.getD (L.getD i.toNat 0).toNat (0,0)).1∈V))=true)->(jg (L.getD i.toNat 0) E.length))/\(((decide ((E.getD (L.getD i.toNat 0).toNat (0,0)).1∈V))=true)->True)) ⟨bx,bx,tv,λ_=>bx,λ_=>bx,λ_=>trivial⟩ ?_;refine jO (λ(q4:((decide ((E.getD (L.getD i.toNat 0).toNat (0,0)).1∈V))=false)\/((decide ((E.getD (L.getD i.toNat 0).toNat (0,0)).2∈V))=false))=>?_) (λ(q4:((decide ((E.getD (L.getD i.toNat 0).toNat (0,0)).1∈V))=true)/\((decide ((E.getD (L.getD i.toNat 0).toNat (0,0)).2∈V))=true))=>?_)
  .refine iP ?_;exact iH (((4:Int):Int),()) (aL (·,()) (show((4:Int))=iM n E V L from by unfold iM;rw[ah (by omega),ah (by rintro(q|q);exact q Tu;exact q C4),ah (λq:xp E V L=>by have z:=q i.toNat (by omega);rw[u6 Tu,u6 Tu] at z;rcases q4 with y|y;exact(aG y) (aA z.1);exact(aG y) (aA z.2))]))
  refine iZ (pr:=(jh .i64 (i+1))) jB ?_;exact k9 (jZ (ir 5) (λj hj=>if z:(j:Int)<i then i2 j z else by rw[show j=i.toNat by omega];rw[u6 Tu,u6 Tu];exact q4))
 refine iP ?_;exact iH (((0:Int):Int),()) (aL (·,()) (show((0:Int))=iM n E V L from by unfold iM;rw[ah (by omega),ah (by rintro(q|q);exact q Tu;exact q C4),ak (show xp E V L from λj hj=>i2 j (by omega))]))
def WV:kI aq:=plain WU
theorem aaE:je aq 171 [(false,.int)] [.int] (λx=>0<=(I_ x.1)/\(I_ x.1)<=1000000) (λx=>(jx (I_ x.1),())):=by
 refine iV f171 10 [] func171 λo x hd _ _ h=>?_;obtain⟨(d:Int),_⟩:=x;change 0<=d/\d<=1000000 at hd;have⟨h0,h1⟩:=hd;refine go (pr:=(0<=d/\0<(2:Int))) [] h (⟨by omega,by omega⟩) ?_;refine iO (p:=d%2=0) (λq1=>?_) λq1=>?_
 .refine iZ (pr:=(jh .i64 (d+1))) jB ?_;exact iH ((d+1:Int),()) (aL (·,()) (show(d+1)=jx d from(ak (by omega)).symm))
 refine iZ (pr:=(jh .i64 (d-1))) jB ?_;exact iH ((d-1:Int),()) (aL (·,()) (show(d-1)=jx d from(ah (by omega)).symm))
def aaF:kI aq:=plain aaE
theorem aaG:je aq 168 [(false,s8),(false,.int)] [.int] (λx=>ld (I_ x.1.1)/\0<=(I_ x.2.1)/\(I_ x.2.1)/2<((E_ x.1.2).length:Int)/\(I_ x.2.1)<=1000000) (λx=>(iC (E_ x.1.2) (I_ x.2.1),())):=by
 refine iV f168 22 [] func168 λo x hd _ _ h=>?_;obtain⟨⟨(n:Int),(E:List (Int×Int))⟩,(d:Int),_⟩:=x;have oM:=vJ h 0 E;change ld n/\0<=d/\d/2<(E.length:Int)/\d<=1000000 at hd;have⟨hn,h0,h1,h2⟩:=hd;refine go (pr:=(0<=d/\0<(2:Int))) [] h (⟨by omega,by omega⟩) ?_;refine iO (p:=d%2=0) (λq1=>?_) λq1=>?_
 .refine iZ (pr:=(0<=d/\0<(2:Int)/\jh .i64 d)/\(jg (d/2) E.length)) ⟨⟨by omega,by omega,⟨by omega,by omega⟩⟩,bx⟩ ?_;exact iH (((E.getD (d/2).toNat (0,0)).1:Int),()) (aL (·,()) (show((E.getD (d/2).toNat (0,0)).1)=iC E d from(ak (by omega)).symm))
 refine iZ (pr:=(0<=d/\0<(2:Int)/\jh .i64 d)/\(jg (d/2) E.length)) ⟨⟨by omega,by omega,⟨by omega,by omega⟩⟩,bx⟩ ?_;exact iH (((E.getD (d/2).toNat (0,0)).2:Int),()) (aL (·,()) (show((E.getD (d/2).toNat (0,0)).2)=iC E d from(ah (by omega)).symm))
def JC:kI aq:=plain aaG
theorem WW:je aq 142 [(false,s8),(false,qH),(false,.int)] [(.list .int)] (λx=>ld (I_ x.1.1)/\jQ (J_ x.2.1.2) ((E_ x.1.2).length:Int)/\((E_ x.1.2).length:Int)<=100000) (λx=>(jR (E_ x.1.2) (J_ x.2.1.2) (I_ x.2.2.1),())):=by
 refine iV f142 45 [JC] func142 λo x hd _ _ h=>?_;obtain⟨⟨(n:Int),(E:List (Int×Int))⟩,⟨(V:List Int),(L:List Int)⟩,(v:Int),_⟩:=x;have oM:=vJ h 0 E;have oA:=lF h 1 V;have oy:=lF h 2 L;change ld n/\jQ L (E.length:Int)/\(E.length:Int)<=100000 at hd;have⟨hn,hL,hE⟩:=hd;have YY:=jv hL (cW _);refine qG [] h ?_;refine kX (List Int) L (λi ou=>⟨[(2,en v),(3,ep 0),(4,ep 1),(7,eo 2),(8,en i)],[(0,some (.box 55 [.v (.int .i64 n),.own 3])),(1,some (.box 26 [.own 4,.own 5])),(2,some (.row 3 .int ou)),(3,some (.ar qS E)),(4,some (.ar .int V)),(5,some (.ar .int L))],6⟩) (λi ou=>(ou.length:Int)<=2*i/\ou++jR E (L.drop i.toNat) v=jR E L v) [] [(0,some 3),(1,some 4099),(2,none),(3,some 0),(4,some 1),(5,some 2)] (⟨bN _,rfl⟩) λi ou _ jZ i0 i1 hI=>?_;have⟨i2,i3⟩:=hI;refine iP ?_;refine iO (p:=i<(L.length:Int)) (λq1=>?_) λq1=>?_
 .have Gk:=hL i.toNat (by omega);refine iP ?_;refine qT Int (List Int) (λs o2=>⟨[(2,en v),(3,ep 0),(4,ep 1),(7,eo 2),(8,en i),(9,en s)],[(0,some (.box 55 [.v (.int .i64 n),.own 3])),(1,some (.box 26 [.own 4,.own 5])),(2,some (.row 3 .int o2)),(3,some (.ar qS E)),(4,some (.ar .int V)),(5,some (.ar .int L))],6⟩) (λs o2=>0<=s/\s<=2/\(o2.length:Int)<=2*i+s/\o2++(kO E (L.getD i.toNat 0) v s++jR E (L.drop (i+1).toNat) v)=jR E L v) (λs o2=>(2-s).toNat) 0 ou (ir 6) ⟨bN _,by omega,by omega,by rw[<-Jc i0 (by omega)];exact i3⟩ λs o2 _ qK hI=>?_;have⟨s0,s1,s2,s3⟩:=hI;refine iP ?_;refine iO (p:=s<2) (λq2=>?_) λq2=>?_
  .refine iZ (pr:=(jg i L.length)/\(jh .i64 (2*(L.getD i.toNat 0)))/\(jh .i64 ((2*(L.getD i.toNat 0))+s))/\(ld n/\0<=((2*(L.getD i.toNat 0))+s)/\((2*(L.getD i.toNat 0))+s)/2<(E.length:Int)/\((2*(L.getD i.toNat 0))+s)<=1000000)) ⟨bx,jB,jB,⟨hn,by omega,by omega,by omega⟩⟩ ?_;refine iO (p:=iC E ((2*(L.getD i.toNat 0))+s)=v) (λq3=>?_) λq3=>?_
   .refine iZ (pr:=(jg i L.length)/\(jh .i64 (2*(L.getD i.toNat 0)))/\(jh .i64 ((2*(L.getD i.toNat 0))+s))/\(o2.length+([(2*(L.getD i.toNat 0))+s]:List Int).length<=2147483647)/\(jh .i64 (s+1))) ⟨bx,jB,jB,ln,jB⟩ ?_;exact k9 (qK (s+1) (o2++([(2*(L.getD i.toNat 0))+s]:List Int)) (rk [0,1,98310,3,4,5]) ⟨by omega,by omega,by(try rw[aN,cz]);omega,by rw[wv s0 (by omega),ak q3] at s3;(try rw[cm] at s3);(try simp only[bl] at s3 ⊢);exact s3⟩ (by omega))
   refine iZ (pr:=(jh .i64 (s+1))) jB ?_;exact k9 (qK (s+1) o2 (ir 6) ⟨by omega,by omega,by(try rw[aN,cz]);omega,by rw[wv s0 (by omega),ah q3] at s3;(try rw[cm] at s3);(try simp only[bl] at s3 ⊢);exact s3⟩ (by omega))
  refine iZ (pr:=(jh .i64 (i+1))) jB ?_;exact k9 (jZ o2 (ir 6) ⟨by omega,by rw[FN (by omega),cm] at s3;exact s3⟩)
 refine iP ?_;exact iH ((ou:List Int),()) (aL (·,()) (show(ou)=jR E L v from by rw[N0 (by omega),aZ] at i3;exact i3))
def WX:kI aq:=plain WW
open Go.Lib Go.Proofs.YtnfdimfepbbbpaaGreatDoor.Deep Go.Sort
theorem WY {S:iD}{w:aa}(l:List Int):jW S w (l.map (bY .i64)) l:=by
 refine⟨by show _=l.length*1;simp,λi hi=>?_⟩;show((l.map (bY .i64)).drop (i*1)).take 1=[.int .i64 l[i]];rw[amD,akU (by simpa using hi),anT,aly];simp
theorem SD {o:Orig}{w:aa}{S:iD}{rs:List o5}(H:Fr o w S rs){v:af}{l:List Int}(hv:Rd (· <w.heap.size) w v l)(hl:l.length<=1000000000):
  Calls aq 48 #[v] w λe w'=> ∃u,e= .returned u/\Fr o w' S (.row 3 u l::rs)/\Below w.heap.size w w':=by
 obtain⟨p,c,rfl,h1,h2,h3⟩:=jV hv;have aaH:∀(u:af) (w':aa) (xs:List af),w'.ownsRow w.heap.size 3 1 u l.length xs->xs=l.map (bY .i64)->Below w.heap.size w w'->Fr o w' S (.row 3 u l::rs):=by
  intro u w' xs p7 To hb;refine(H.on hb).put _ ⟨xs,⟨p7.1,?_⟩,by rw[To];exact WY l⟩ λb qd=>?_
  .rcases p7.2 with h|⟨g,cap,cur,e1,e2,rest⟩
   .exact .inl h
   exact .inr ⟨g,cap,cur,e1,bF _,rest⟩
  rcases p7.2 with⟨h,_⟩|⟨g,cap,cur,e1,e2,e3,_⟩
  .rw[h] at qd;cases qd
  rw[e1] at qd;have e9:g=b:=bD qd;have oB:g<w'.heap.size:=(cJ.1 e3).1;rw[<-e9];exact⟨bg H.below.size e2,oB,λhs=>by have:=H.nN g hs;omega,λr hr e=>by have:=(H.own r hr g e).2.1;omega⟩
 cases p with
 |none=>
  have:l=[]:=by
   rcases h3 with h|⟨g,off,cur,t,fz,h,_⟩
   .exact h
   cases h
  subst this;refine(Tryz.slices_Clone_int_nil 0 c w).mono λe w' ⟨he,hw⟩=>⟨_,he,?_,?_⟩
  .subst hw;exact H.newRow 3
  subst hw;exact Below.refl _ _
 |some a=>
  by_cases hz:l=[]
  .subst hz;refine(Tryz.slices_Clone_int_zero a c w).mono λe w' ⟨u,he,p7,_,hb⟩=>⟨u,he,aaH u w' [] p7 rfl hb,hb⟩
  rcases h3 with h|⟨g,off,cur,t,fz,h,hg,hw,hc⟩
  .exact absurd h hz
  cases h;refine(Tryz.slices_Clone_int g off l.length c l w (az _) (by omega) λj hj=>?_).mono λe w' ⟨u,he,p7,_,hb⟩=>⟨u,he,aaH u w' _ p7 (by rw[bU]) hb,hb⟩;obtain⟨cs,hr,hq⟩:=hc j hj;have hr:cs=[.int .i64 l[j]]:=hr;have:=hq 0 (show 0<1 by decide);rw[hr] at this;rw[cell_of_row w g _ cur t fz hw];have e:off+j*Data.size Int+0=off+j:=by show off+j*1+0=_;omega
  rw[e] at this;rw[this];simp[aJ,aY hj]
theorem aaI:je aq 48 [(false,.list .int)] [.list .int] (λx=>(show List Int from x.1).length<=1000000) (λx=>(show List Int from x.1,())):=by
 intro o vs x hx hd
 match vs,hx with
 |[v],hx=>
  refine(SD (Fr.start o) (v:=v) (l:=show List Int from x.1) hx.1 (bg hd (by decide))).mono λe w' ⟨u,he,H,hb⟩=>⟨u,he,?_,hb⟩;exact H.Y3 0 rfl
def Qm:kI aq:=plain aaI
end Go.Proofs.YtnfdimfepbbbpaaGreatDoor
namespace Go.Proofs.YtnfdimfepbbbpaaGreatDoor
open Go.RowKit
open Go.Proofs.YtnfdimfepbbbpaaGreatDoor.Deep
theorem Mk {r:Option xw}{ds:List Int}{out:List (Int×List Int)}:∀ {k:Nat},k<=ds.length->∃sub:List Int,sub.Sublist (ds.take k)/\(mX r ds out k).2.map (·.1)=out.map (·.1)++sub
 |0,_=>⟨[],List.nil_sublist _,(aZ _).symm⟩
 |k+1,h=>by
  obtain⟨sub,h1,h2⟩:=Mk (r:=r) (ds:=ds) (out:=out) (k:=k) (by omega);have ht:ds.take (k+1)=ds.take k++[ds.getD k 0]:=mK (by omega) 0;show ∃sub:List Int,_/\(uf r (mX r ds out k) (ds.getD k 0)).2.map (·.1)=_;unfold uf;split
  .refine⟨sub++[ds.getD k 0],by rw[ht];exact h1.append (aoj _),?_⟩;rw[cg,h2,bl];rfl
  exact⟨sub,by rw[ht];exact h1.trans (List.sublist_append_left _ _),h2⟩
theorem Qn {V:List Int}{T:List (List Int)}(hV:V.Nodup):∀ {k:Nat},k<=V.length->((FR V T k).map (·.1)).Nodup/\∀x∈(FR V T k).map (·.1),∃j,j<k/\x= -1-V.getD (V.length-1-j) 0
 |0,_=>⟨ajW,λx hx=>by cases hx⟩
 |k+1,h=>by
  obtain⟨h1,h2⟩:=Qn (T:=T) hV (k:=k) (by omega);unfold FR;split
  .rw[cg];refine⟨cY.2 ⟨h1,by simp,λa ha b hb=>?_⟩,λx hx=>?_⟩
   .obtain⟨j,hj,e⟩:=h2 a ha;rw[bn,cr,av] at hb;intro q;rw[e,hb] at q;have:=mJ (z:=0) hV (show V.length-1-j<V.length by omega) (show V.length-1-k<V.length by omega) (by omega);omega
   rcases aK.1 hx with q|q
   .obtain⟨j,hj,e⟩:=h2 x q;exact⟨j,by omega,e⟩
   rw[bn,cr,av] at q;exact⟨k,cX _,q⟩
  exact⟨h1,λx hx=>let⟨j,hj,e⟩:=h2 x hx;⟨j,by omega,e⟩⟩
theorem WZ {n:Int}{E:List (Int×Int)}{V L:List Int}{T:List (List Int)}(h:(iy n E V L T).2=0):((iy n E V L T).1.map (·.1)).Nodup:=by
 have hw:=h;rw[uh] at h;obtain⟨hp,hT,hr⟩:=vP h;obtain⟨F1,hV,hL,_⟩:=jt hp;have hVn:=pZ (jf.1 hV).1;have hLn:=pZ (jf.1 hL).1;rw[ye h];obtain⟨sub,h1,h2⟩:=Mk (r:=(kC n E V L T).1) (ds:=mE L L.length) (out:=FR V T V.length) (az _);show(((mX _ _ _ _).2).map (·.1)).Nodup;rw[h2];obtain⟨l1,l2⟩:=Qn (T:=T) hVn (az V.length);refine cY.2 ⟨l1,?_,λa ha b hb q=>?_⟩
 .rw[bU] at h1;exact(yc hLn (az _)).sublist h1
 obtain⟨j,hj,e⟩:=l2 a ha;have Fq:=(mC b).1 (cQ (h1.subset hb));have v0:=(jf.1 hV).2 _ (iG (l:=V) (i:=V.length-1-j) (d:=0) (by omega));have b0:=(jf.1 hL).2 _ Fq;omega
theorem Qo {f:Nat->Int}{N:Nat}(h:∀j,0<j->j<N->f (j-1)<f j):∀ {i j:Nat},i<j->j<N->f i<f j
 |i,0,hi,_=>by omega
 |i,j+1,hi,hj=>by
  have h1:=h (j+1) (by omega) hj;rw[ald] at h1;rcases dw.1 hi with z|z
  .exact anU (Qo h z (by omega)) h1
  subst z;exact h1
theorem xE {n:Int}{E:List (Int×Int)}{V L:List Int}{T S:List (List Int)}(h:th n E V L T S=0):ox n E V L T=0/\∃s,qu (jL E (iF n E V L) (iy n E V L T).1 (iy n E V L T).1.length) S (iF n E V L).length S.length=some s/\s.1.2.2.2<=1:=by
 by_cases hf:ox n E V L T=0
 .refine⟨hf,?_⟩;cases hq:qu (jL E (iF n E V L) (iy n E V L T).1 (iy n E V L T).1.length) S (iF n E V L).length S.length with
  |none=>rw[oK hf hq] at h;cases h
  |some s=>
   refine⟨s,rfl,?_⟩;rw[v7 hf hq] at h;split at h
   .cases h
   omega
 rw[tj hf] at h;exact absurd h hf
def Rsg {α:Type}(m:List (Int×α)):Prop:=m.Pairwise λp q=>p.1<q.1
theorem Qp {α:Type}{x:Int}{v:α}:∀ {m:List (Int×α)},Rsg m->(∀q∈m,q.1≠x)->Rsg (tK (k:=.int) (x,v) m)
 |[],_,_=>amE _ _
 |p::m,h,hn=>by
  have hp:=alN.1 h;have h1:=hn p aE;show Rsg (if ilt x p.1=true then(x,v)::p::m else p::tK (k:=.int) (x,v) m);split
  .rename_i q;have q:x<p.1:=aA (show decide (x<p.1)=true from q);refine alN.2 ⟨λy hy=>?_,h⟩;rcases aD.1 hy with rfl|hy
   .exact q
   have:=hp.1 y hy;exact anU q this
  rename_i q;have q:¬x<p.1:=λz=>q (show decide (x<p.1)=true from bB z);refine alN.2 ⟨λy hy=>?_,Qp hp.2 λy hy=>hn y (aI _ hy)⟩;rcases(Dz (k:=.int)).1 hy with rfl|hy
  .show p.1<x;omega
  exact hp.1 y hy
theorem Oo {α:Type}{m:List (Int×α)}(h:Rsg m)(x:Int)(v:α):Rsg (lD m x v):=by
 show Rsg (tK (k:=.int) (x,v) (sw (k:=.int) m x));refine Qp (h.sublist List.filter_sublist) λq hq=>?_;have h2:(!decide (q.1=x))=true:=(List.mem_filter.1 hq).2;intro e;have h3:(!decide (q.1=x))=false:=by rw[e];simp
 rw[h3] at h2;cases h2
def onF (ds:List Int):Nat->List (Int×Int)
 |0=>[]
 |k+1=>lD (onF ds k) (ds.getD k 0/2) (k:Int)
def jF (left on:List (Int×Int))(L:List Int):Nat->S4
 |0=>([],[],[],0)
 |k+1=>if(iA on (L.getD k 0)).isSome=true then jF left on L k else M4 (jF left on L k) ((iA left (2*L.getD k 0)).getD 0) ((iA left (2*L.getD k 0+1)).getD 0)
def adF (left:List (Int×Int))(ds:List Int)(s:S4):Nat->S4
 |0=>s
 |k+1=>mA (mA (adF left ds s k) ((iA left (ds.getD k 0)).getD 0)) ((iA left (jx (ds.getD k 0))).getD 0)
def m6 (left:List (Int×Int))(L ds:List Int):S4:=adF left ds (jF left (onF ds ds.length) L L.length) ds.length
def sdV (s:S4)(head r:Int):Int:=if r=head\/smB s r head=true then 1 else 2
structure SdI (left:List (Int×Int))(s0:S4)(head:Int)(lf:Int->Bool)(cnt:Nat)(s:S4)(out:List (Int×Int)):Prop where
 ok:Ey s
 rl:∀a b,Rl s a b↔Rl s0 a b
 len:s.2.1.length=s0.2.1.length
 rs:Rsg out
 out:∀x,iA out x=if lf x=true then none else(iA left x).map (sdV s0 head)
section
variable {left:List (Int×Int)}{s0 s:S4}{head:Int}{lf:Int->Bool}{cnt:Nat}{out:List (Int×Int)}{x v:Int}
theorem SdI.step (h:SdI left s0 head lf cnt s out)(h0:Ey s0){rD:Nat}{s':S4}{r:Int}(hl:lf x=true)(hv:iA left x=some v)(hs:Ey s'/\(∀a b,Rl s' a b↔Rl s a b)/\s'.2.1.length=s.2.1.length)(hr:r=sdV s0 head v)(Nq:List (Int×Int))(ho:Nq=lD out x r\/Nq=lD (lD out x 2) x r):
  SdI left s0 head (λz=>lf z && !decide (z=x)) rD s' Nq:=by
 have Gk:∀y,iA Nq y=if x=y then some r else iA out y:=λy=>by
  rcases ho with rfl|rfl
  .exact jT ..
  rw[jT];split
  .rfl
  rename_i q;rw[jT,ah q]
 refine⟨hs.1,λa b=>(hs.2.1 a b).trans (h.rl a b),hs.2.2.trans h.len,?_,λy=>?_⟩
 .rcases ho with rfl|rfl
  .exact Oo h.rs _ _
  exact Oo (Oo h.rs _ _) _ _
 rw[Gk]
 by_cases q:x=y
 .subst q;rw[ak rfl,ah (by simp),hv,hr];rfl
 rw[ah q,h.out];have:decide (y=x)=false:=bQ λz=>q z.symm;rw[this];simp
end
def tnP (a b:List Int)(i:Nat):Prop:=a.take (a.length-i)=b.drop i/\a.drop (a.length-i)=b.take i
instance (a b:List Int) (i:Nat):Decidable (tnP a b i):=by unfold tnP;infer_instance
def acL (a b:List Int):Prop:=a.length=b.length/\(a.length=0\/∃i,i<b.length/\tnP a b i)
instance (a b:List Int):Decidable (acL a b):=by unfold acL;infer_instance
theorem Qq {n:Int}{E:List (Int×Int)}{V L:List Int}{T S:List (List Int)}(h:wB n E V L T S=0):iM n E V L=0/\th n E V L T S=0:=by
 unfold wB at h;split at h
 .rename_i q;exact absurd h q
 rename_i q;exact⟨ajV.1 q,h⟩
structure LsI (held now:List (Int×Int))(lf:Int->Bool)(least:Int)(bad:Bool):Prop where
 no:bad=false->least=0/\∀k v,iA held k=some v->lf k=false->(iA now k).getD 0=v
 yes:bad=true->(∃v,iA held least=some v/\¬(iA now least).getD 0=v)/\∀k v,iA held k=some v->lf k=false->¬(iA now k).getD 0=v->least<=k
section
variable {held now:List (Int×Int)}{lf:Int->Bool}{least:Int}{bad:Bool}{x v:Int}
theorem agX (h:(lf x && !decide (x=v))=false):lf x=false\/x=v:=by
 by_cases q:x=v
 .exact .inr q
 rw[bQ q] at h;simp at h;exact .inl h
theorem LsI.take (h:LsI held now lf least bad)(hv:iA held x=some v)(hd:¬(iA now x).getD 0=v)(hb:bad=false\/x<least):LsI held now (λz=>lf z && !decide (z=x)) x true:=by
 refine⟨λq=>(by cases q),λ_=>⟨⟨v,hv,hd⟩,λk u h1 h2 h3=>?_⟩⟩;rcases agX h2 with z|z
 .rcases hb with y|y
  .exact absurd ((h.no y).2 k u h1 z) h3
  cases hq:bad with
  |false=>exact absurd ((h.no hq).2 k u h1 z) h3
  |true=>have:=(h.yes hq).2 k u h1 z h3;omega
 omega
end
section
variable {n:Int}{E:List (Int×Int)}{V L:List Int}{T S U R:List (List Int)}
end
def aaJ (E:List (Int×Int))(T:List (List Int))(d n:Int):Int:=
 (T.getD (iC E d).toNat []).getD ((tw (T.getD (iC E d).toNat []) d+n+((T.getD (iC E d).toNat []).length:Int))%((T.getD (iC E d).toNat []).length:Int)).toNat 0
def qW (E:List (Int×Int))(T:List (List Int))(d:Int):Int:=aaJ E T (jx d) (-1)
section
variable {n:Int}{E:List (Int×Int)}{V L:List Int}{T:List (List Int)}
theorem zq (hp:iM n E V L=0)(h:mN n E L T){d:Int}(hd:jS L d):qW E T d=EC E L T d:=by
 have ht:=oI.2 hd;obtain⟨h0,h1,h2⟩:=vV hp h ht;obtain⟨j,hj,e⟩:=iT (z:=(0:Int)).1 h2;obtain⟨i,i1,i2,i3⟩:=Js hj e;refine V9 (h.nd _ h1) ⟨i,by omega,i3,?_⟩ (yd hp h hd);unfold qW aaJ;rw[i1]
 congr 1
 rw[show(i:Int)+ -1+((T.getD (iC E (jx d)).toNat []).length:Int)=((i+(T.getD (iC E (jx d)).toNat []).length-1:Nat):Int) by omega,<-amA];rfl
end
def rO (f:Int->Int):Nat->Int->Int
 |0,d=>d
 |k+1,d=>f (rO f k d)
def od (f:Int->Int)(d:Int)(N:Nat):Nat:=((bH N).find? λk=>decide (rO f (k+1) d=d)).getD 0+1
def xF (f:Int->Int)(d:Int)(p:Nat):List Int:=(bH p).map λi=>rO f i d
section
variable {f:Int->Int}{D:List Int}{d:Int}
theorem zu (a:Nat):∀b,rO f (a+b) d=rO f b (rO f a d)
 |0=>rfl
 |b+1=>by
  show f (rO f (a+b) d)=f _;rw[zu a b]
theorem uB (hc:∀x∈D,f x∈D)(hd:d∈D):∀k,rO f k d∈D
 |0=>hd
 |k+1=>hc _ (uB hc hd k)
theorem Oq (hc:∀x∈D,f x∈D)(hi:∀x∈D,∀y∈D,f x=f y->x=y){x y:Int}(hx:x∈D)(hy:y∈D):∀ {k:Nat},rO f k x=rO f k y->x=y
 |0,h=>h
 |k+1,h=>Oq hc hi hx hy (k:=k) (hi _ (uB hc hx k) _ (uB hc hy k) h)
theorem oe (p:Nat):(xF f d p).length=p:=by unfold xF;rw[bp,akp]
theorem vg {p i:Nat}(h:i<p):(xF f d p).getD i 0=rO f i d:=by
 unfold xF;rw[Ap (z:=0) (by rw[akp];exact h),getD_eq (by rw[akp];exact h),al1]
theorem HE (p:Nat):xF f d (p+1)=xF f d p++[rO f p d]:=by
 unfold xF;rw[ala,cg];rfl
theorem aaK (hc:∀x∈D,f x∈D)(hi:∀x∈D,∀y∈D,f x=f y->x=y)(hd:d∈D):∃k,k<D.length/\rO f (k+1) d=d:=by
 have hn:¬(xF f d (D.length+1)).Nodup:=λhn=>by
  have:=hn.length_le_of_subset (l₂:=D) λx hx=>by
   obtain⟨i,_,rfl⟩:=aV.1 hx;exact uB hc hd i
  rw[oe] at this;omega
 have hx:∃a b,a<b/\b<D.length+1/\rO f a d=rO f b d:=by
  refine bL λhx=>hn ?_;rw[alL,dJ];intro a b ha hb Cw e;rw[oe] at ha hb;rw[<-getD_eq (by rw[oe];exact ha) 0,<-getD_eq (by rw[oe];exact hb) 0,vg ha,vg hb] at e;exact hx ⟨a,b,Cw,hb,e⟩
 have⟨a,b,Cw,hb,e⟩:=hx;refine⟨b-a-1,by omega,?_⟩;have e2:rO f b d=rO f a (rO f (b-a) d):=by rw[<-zu];congr 1;omega
 have:=Oq hc hi hd (uB hc hd (b-a)) (e.trans e2);rw[show b-a-1+1=b-a by omega];exact this.symm
theorem By (hc:∀x∈D,f x∈D)(hi:∀x∈D,∀y∈D,f x=f y->x=y)(hd:d∈D):0<od f d D.length/\od f d D.length<=D.length/\rO f (od f d D.length) d=d/\∀k,0<k->k<od f d D.length->rO f k d≠d:=by
 obtain⟨k,hk,e⟩:=aaK hc hi hd;cases hq:(bH D.length).find? λk=>decide (rO f (k+1) d=d) with
 |none=>
  rw[alq] at hq;exact absurd e (by simpa using hq k (b5.2 hk))
 |some m=>
  have hm:=akq.1 hq;have e1:od f d D.length=m+1:=by unfold od;rw[hq];rfl
  rw[e1];have h1:=b5.1 hm.2.1;refine⟨by omega,by omega,by simpa using hm.1,λk h0 h1=>?_⟩;have:=hm.2.2 (k-1) (by omega);rw[show k-1+1=k by omega] at this;simpa using this
theorem Ot {p:Nat}(hp:rO f p d=d):∀q,rO f (p*q) d=d
 |0=>rfl
 |q+1=>by rw[Nat.mul_succ,Nat.add_comm,zu,hp,Ot hp q]
theorem W4 {p:Nat}(h0:0<p)(hp:rO f p d=d)(k:Nat):rO f k d=rO f (k%p) d:=by
 conv=>lhs;rw[<-Nat.div_add_mod k p,zu,Ot hp]
theorem EW (hc:∀x∈D,f x∈D)(hi:∀x∈D,∀y∈D,f x=f y->x=y)(hd:d∈D):(xF f d (od f d D.length)).Nodup:=by
 obtain⟨p0,p1,p2,p3⟩:=By hc hi hd;rw[alL,dJ];intro a b ha hb Cw e;rw[oe] at ha hb;rw[<-getD_eq (by rw[oe];exact ha) 0,<-getD_eq (by rw[oe];exact hb) 0,vg ha,vg hb] at e;have e2:rO f b d=rO f a (rO f (b-a) d):=by rw[<-zu];congr 1;omega
 exact p3 (b-a) (by omega) (by omega) (Oq hc hi hd (uB hc hd (b-a)) (e.trans e2)).symm
def zw (f:Int->Int)(x y:Int):Prop:=∃k,rO f k x=y
theorem zw.refl (x:Int):zw f x x:=⟨0,rfl⟩
theorem zw.trans {x y z:Int}(h:zw f x y)(k:zw f y z):zw f x z:=by
 obtain⟨a,rfl⟩:=h;obtain⟨b,rfl⟩:=k;exact⟨a+b,zu a b⟩
theorem zw.symm (hc:∀x∈D,f x∈D)(hi:∀x∈D,∀y∈D,f x=f y->x=y){x y:Int}(hx:x∈D)(h:zw f x y):zw f y x:=by
 obtain⟨a,rfl⟩:=h;obtain⟨p0,p1,p2,p3⟩:=By hc hi hx;refine⟨od f x D.length*a-a,?_⟩;rw[<-zu];have:a<=od f x D.length*a:=Nat.le_mul_of_pos_left a p0;rw[show a+(od f x D.length*a-a)=od f x D.length*a by omega];exact Ot p2 a
theorem W5 (hc:∀x∈D,f x∈D)(hi:∀x∈D,∀y∈D,f x=f y->x=y)(hd:d∈D){x:Int}:x∈xF f d (od f d D.length)↔zw f d x:=by
 obtain⟨p0,p1,p2,p3⟩:=By hc hi hd;constructor
 .intro h;obtain⟨i,_,rfl⟩:=aV.1 h;exact⟨i,rfl⟩
 rintro⟨k,rfl⟩;rw[W4 p0 p2 k];exact aV.2 ⟨_,b5.2 (ajN _ p0),rfl⟩
end
def tF (f:Int->Int)(d:Int)(p:Nat):Bool:=(bH p).all λj=>decide (j=0)||decide (d<rO f j d)
def SE (f:Int->Int)(ds:List Int)(N:Nat):Nat->List (Int×List Int)
 |0=>[]
 |k+1=>if tF f (ds.getD k 0) (od f (ds.getD k 0) N)=true then SE f ds N k++[(ds.getD k 0,xF f (ds.getD k 0) (od f (ds.getD k 0) N))] else SE f ds N k
theorem HF {f:Int->Int}{d:Int}{p:Nat}:tF f d p=true↔∀j,0<j->j<p->d<rO f j d:=by
 unfold tF;rw[aU];constructor
 .intro h j h0 h1;have:=h j (b5.2 h1);simp only[dQ,decide_eq_true_eq] at this;rcases this with q|q
  .omega
  exact q
 intro h j hj
 by_cases q:j=0
 .rw[bB q];rfl
 rw[bB (h j (by omega) (b5.1 hj)),Bool.or_true]
theorem W6 {L:List Int}(h:Z5 L):∀ {k:Nat},k<=L.length->Z5 (mE L k)
 |0,_=>anV
 |k+1,hk=>by
  have ht:L.take (k+1)=L.take k++[L.getD k 0]:=mK (by omega) 0;have ha:Z5 (L.take (k+1)):=h.sublist (List.take_sublist _ _);rw[ht] at ha;have hb:=(anW.1 ha).2.2;refine anW.2 ⟨W6 h (by omega),?_,λa ha2 b Fq=>?_⟩
  .refine alN.2 ⟨λy hy=>?_,amE _ _⟩;rw[av.1 hy];omega
  have:=hb _ ((CU (by omega) a).1 ha2) _ (av.2 rfl);rcases aD.1 Fq with rfl|Fq
  .omega
  rw[av.1 Fq];omega
section
variable {f:Int->Int}{D:List Int}{d:Int}{r:Option xw}{m:List (Int×Int)}
theorem Ml (hf:∀x∈D,(lz r (jx x) (-1)).1=f x)(hc:∀x∈D,f x∈D)(hi:∀x∈D,∀y∈D,f x=f y->x=y)(hd:d∈D)(hm:∀i,i<od f d D.length->(iA m (rO f i d)).isSome=true):
  ∀ {k i:Nat} {mi:List (Int×Int)},i<od f d D.length->od f d D.length<=i+k->(∀y,(iA mi y).isSome=true↔(iA m y).isSome=true/\∀j,j<i->rO f j d≠y)->
   (uy r k mi (rO f i d) (xF f d i)).2=xF f d (od f d D.length)/\∀y,(iA (uy r k mi (rO f i d) (xF f d i)).1 y).isSome=true↔(iA m y).isSome=true/\∀j,j<od f d D.length->rO f j d≠y
 |0,i,mi,h1,h2,_=>by omega
 |k+1,i,mi,h1,h2,hmi=>by
  obtain⟨p0,p1,p2,p3⟩:=By hc hi hd;have hn:=EW hc hi hd;have hx:=uB hc hd i;have e:(lz r (jx (rO f i d)) (-1)).1=rO f (i+1) d:=hf _ hx;have FK:∀y,(iA (DA mi (rO f i d)) y).isSome=true↔(iA m y).isSome=true/\∀j,j<i+1->rO f j d≠y:=λy=>by
   rw[DB]
   by_cases q:rO f i d=y
   .rw[ak q];exact⟨λz=>(by cases z),λz=>absurd q (z.2 i (cX _))⟩
   rw[ah q,hmi];exact⟨λz=>⟨z.1,λj hj=>(dw.1 hj).elim (z.2 j) λw=>w▸q⟩,λz=>⟨z.1,λj hj=>z.2 j (by omega)⟩⟩
  unfold uy;rw[e,<-HE]
  by_cases hl:i+1<od f d D.length
  .have hs:(iA (DA mi (rO f i d)) (rO f (i+1) d)).isSome=true:=(FK _).2 ⟨hm _ hl,λj hj q=>by
    have:=mJ (z:=(0:Int)) hn (i:=j) (j:=i+1) (by rw[oe];omega) (by rw[oe];exact hl) (by rw[vg (by omega),vg hl];exact q);omega⟩
   rw[ak hs];exact Ml hf hc hi hd hm hl (by omega) FK
  have ep:i+1=od f d D.length:=by omega
  have hs:¬(iA (DA mi (rO f i d)) (rO f (i+1) d)).isSome=true:=λz=>((FK _).1 z).2 0 (by omega) (by rw[ep,p2];rfl);rw[ah hs,ep];rw[ep] at FK;exact⟨rfl,FK⟩
theorem Qr {out:List (Int×List Int)}(ha:Z5 D)(hf:∀x∈D,(lz r (jx x) (-1)).1=f x)(hc:∀x∈D,f x∈D)(hi:∀x∈D,∀y∈D,f x=f y->x=y):∀ {k:Nat},k<=D.length->
  (∀y,(iA (mX r D out k).1 y).isSome=true↔y∈D/\∀j,j<k->¬zw f (D.getD j 0) y)/\(mX r D out k).2=out++SE f D D.length k
 |0,_=>⟨λy=>by
  show(iA (Wc D D.length) y).isSome=true↔_;rw[Jl (az _),bU];exact⟨λh=>⟨h,λj hj=>by omega⟩,λh=>h.1⟩,(aZ _).symm⟩
 |k+1,hk=>by
  obtain⟨h1,h2⟩:=Qr ha hf hc hi (k:=k) (by omega);have hd:D.getD k 0∈D:=iG (by omega);obtain⟨p0,p1,p2,p3⟩:=By hc hi hd;have oB:∀a b,a<b->b<D.length->D.getD a 0<D.getD b 0:=λa b Cw hb=>by
   rw[getD_eq (show a<D.length by omega),getD_eq hb];exact dJ.1 ha a b (by omega) hb Cw
  show(∀y,(iA (uf r (mX r D out k) (D.getD k 0)).1 y).isSome=true↔_)/\(uf r (mX r D out k) (D.getD k 0)).2=_;unfold uf SE
  by_cases hs:(iA (mX r D out k).1 (D.getD k 0)).isSome=true
  .have B4:=((h1 _).1 hs).2;have ad0:tF f (D.getD k 0) (od f (D.getD k 0) D.length)=true:=HF.2 λj j0 j1=>by
    obtain⟨q,hq,e⟩:=iT (z:=(0:Int)).1 (uB hc hd j);rcases amt q k with z|z|z
    .exact absurd (zw.symm hc hi hd ⟨j,rfl⟩) (by rw[<-e];exact B4 q z)
    .subst z;exact absurd e.symm (p3 j j0 j1)
    rw[<-e];exact oB k q z hq
   have uD:∀i,i<od f (D.getD k 0) D.length->(iA (mX r D out k).1 (rO f i (D.getD k 0))).isSome=true:=λi o7=>(h1 _).2 ⟨uB hc hd i,λj hj z=>B4 j hj (z.trans (zw.symm hc hi hd ⟨i,rfl⟩))⟩;have ajr:od f (D.getD k 0) D.length<=(mX r D out k).1.length:=by
    have:=(EW hc hi hd).length_le_of_subset (l₂:=(mX r D out k).1.map (·.1)) λx hx=>by
     obtain⟨i,o7,rfl⟩:=aV.1 hx;exact mem_keys.2 (uD i (b5.1 o7))
    rwa[oe,bp] at this
   obtain⟨o1,o2⟩:=Ml hf hc hi hd uD (k:=(mX r D out k).1.length) (i:=0) p0 (by omega) (mi:=(mX r D out k).1) λy=>⟨λz=>⟨z,λj hj=>by omega⟩,λz=>z.1⟩;have o1:(uy r (mX r D out k).1.length (mX r D out k).1 (D.getD k 0) []).2=xF f (D.getD k 0) (od f (D.getD k 0) D.length):=o1;have o2:∀y,(iA (uy r (mX r D out k).1.length (mX r D out k).1 (D.getD k 0) []).1 y).isSome=true↔(iA (mX r D out k).1 y).isSome=true/\∀j,j<od f (D.getD k 0) D.length->rO f j (D.getD k 0)≠y:=o2;rw[ak hs,ak ad0,o1,h2,bl];refine⟨λy=>?_,rfl⟩;show(iA (uy r (mX r D out k).1.length (mX r D out k).1 (D.getD k 0) []).1 y).isSome=true↔_;rw[o2,h1];constructor
   .rintro⟨⟨z1,z2⟩,z3⟩;refine⟨z1,λj hj=>?_⟩;rcases dw.1 hj with w|w
    .exact z2 j w
    subst w;rintro⟨q,rfl⟩;exact z3 _ (ajN _ p0) (W4 p0 p2 q).symm
   rintro⟨z1,z2⟩;exact⟨⟨z1,λj hj=>z2 j (by omega)⟩,λj hj e=>z2 k (cX _) ⟨j,e⟩⟩
  have B4:∃j,j<k/\zw f (D.getD j 0) (D.getD k 0):=by
   refine bL λz=>hs ((h1 _).2 ⟨hd,λj hj w=>z ⟨j,hj,w⟩⟩)
  have⟨j,hj,hw⟩:=B4;have KY:D.getD j 0∈D:=iG (by omega);have N2:¬tF f (D.getD k 0) (od f (D.getD k 0) D.length)=true:=λz=>by
   have hb:=(W5 hc hi hd).2 (zw.symm hc hi KY hw);obtain⟨i,o7,e⟩:=aV.1 hb;have o7:=b5.1 o7;have h3:=oB j k hj (by omega)
   by_cases q:i=0
   .subst q;have e:D.getD k 0=D.getD j 0:=e;omega
   have:=HF.1 z i (by omega) o7;rw[e] at this;omega
  rw[ah hs,ah N2];refine⟨λy=>?_,h2⟩;rw[h1];constructor
  .rintro⟨z1,z2⟩;refine⟨z1,λq hq=>?_⟩;rcases dw.1 hq with w|w
   .exact z2 q w
   subst w;exact λz=>z2 j hj (hw.trans z)
  rintro⟨z1,z2⟩;exact⟨z1,λq hq=>z2 q (by omega)⟩
end
theorem Bz {n:Int}{E:List (Int×Int)}{V L:List Int}{T:List (List Int)}(h:(kC n E V L T).2=0):
  iy n E V L T=(FR V T V.length++SE (qW E T) (mE L L.length) (mE L L.length).length (mE L L.length).length,0):=by
 obtain⟨hp,hT,hr⟩:=vP h;obtain⟨F1,hV,hL,_⟩:=jt hp;rw[ye h];have hD:∀x∈mE L L.length,jS L x:=λx hx=>(mC x).1 hx;rw[(Qr (r:=(kC n E V L T).1) (D:=mE L L.length) (f:=qW E T) (W6 (jf.1 hL).1 (az _)) (λx hx=>by
  rw[zq hp hT (hD x hx),hr];rfl) (λx hx=>by
  rw[zq hp hT (hD x hx)];exact(mC _).2 (vb hp hT (hD x hx)).1) (λx hx y hy e=>by
  rw[zq hp hT (hD x hx),zq hp hT (hD y hy)] at e;exact LN hp hT (hD x hx) (hD y hy) e) (az _)).2]
def Mm (E:List (Int×Int))(T:List (List Int))(d:Int):Prop:=0<=d/\d/2<(E.length:Int)/\d<=1000000/\0<=iC E d/\iC E d<(T.length:Int)/\d∈T.getD (iC E d).toNat []
def VOk (E:List (Int×Int))(L:List Int)(T:List (List Int))(v:Int):Prop:=((jR E L v).length:Int)=((T.getD v.toNat []).length:Int)/\(T.getD v.toNat []).Nodup/\∀d∈jR E L v,d∈T.getD v.toNat []
section
variable {n:Int}{E:List (Int×Int)}{V L:List Int}{T:List (List Int)}
theorem HG (h:iM n E V L≠0):(kC n E V L T).2=iM n E V L:=by unfold kC;rw[ak h]
theorem ad1 (h:iM n E V L=0)(h2:(kC n E V L T).2≠0):(kC n E V L T).2=5:=by
 by_cases hl:(T.length:Int)=n
 .cases hq:G8 (zF E L L.length) T T.length with
  |none=>rw[LA h hl hq]
  |some P=>
   by_cases hc:(P.length:Int)=((zF E L L.length).length:Int)
   .rw[Ji h hl hq hc] at h2;exact absurd rfl h2
   rw[LB h hl hq hc]
 rw[Ev h hl]
theorem aiz (h:mN n E L T)(hL:jQ L (E.length:Int)){v:Int}(h0:0<=v)(h1:v<n):VOk E L T v:=by
 have hlen:=h.len;have hv:v.toNat<T.length:=by omega
 have hm:∀d,d∈T.getD v.toNat []↔d∈jR E L v:=λd=>by
  rw[h.mem _ hv,nh,cC h0];rfl
 have hn:=Al (sD (E:=E) (v:=v) hL);have a:=hn.length_le_of_subset λd hd=>(hm d).2 hd;have b:=(h.nd _ hv).length_le_of_subset λd hd=>(hm d).1 hd;exact⟨by omega,h.nd _ hv,λd hd=>(hm d).2 hd⟩
theorem Ou (hp:iM n E V L=0){v:Int}(h0:0<=v)(h1:v<n)(h:¬VOk E L T v):5=(kC n E V L T).2:=by
 refine(ad1 hp λq=>h ?_).symm;obtain⟨_,hT,_⟩:=vP q;obtain⟨_,_,hL,_⟩:=jt hp;exact aiz hT hL h0 h1
theorem agY (hp:iM n E V L=0)(hl:(T.length:Int)=n)(h:∀v:Nat,(v:Int)<n->VOk E L T (v:Int)):0=(kC n E V L T).2:=by
 obtain⟨_,_,hL,_⟩:=jt hp;refine(zm hp ⟨hl,λv hv=>(h v (by omega)).2.1,λv hv d=>?_⟩).symm;obtain⟨a,b,c⟩:=h v (by omega);have hn:=Al (sD (E:=E) (v:=(v:Int)) hL);rw[show jS L d/\iC E d=(v:Int)↔d∈jR E L (v:Int) from nh.symm];refine⟨λhd=>?_,c d⟩;refine bL λq=>?_;have:=anF (l₁:=d::jR E L (v:Int)) (l₂:=T.getD v []) (ajZ.2 ⟨q,hn⟩) λx hx=>by
  rcases aD.1 hx with rfl|hx
  .exact hd
  exact c x hx
 rw[bf] at this;have a:((jR E L (v:Int)).length:Int)=((T.getD v []).length:Int):=a;omega
theorem Mn (hp:iM n E V L=0)(h:mN n E L T){d:Int}(hd:jS L d):Mm E T (jx d)/\0<=d/\d<=1000000:=by
 obtain⟨h0,h1,h2⟩:=vV hp h (oI.2 hd);obtain⟨_,x0,x1,x2⟩:=oU hp hd;obtain⟨_,y0,y1,y2⟩:=oU hp (oI.2 hd);exact⟨⟨y0,y1,y2,h0,by omega,h2⟩,x0,x2⟩
end
theorem Ov {f:Int->Int}{d:Int}(j:Nat):tF f d (j+2)=(tF f d (j+1) && decide (d<rO f (j+1) d)):=by
 unfold tF;rw[ala (n:=j+1),List.all_append];simp
theorem W7 {L:List Int}:∀ {k i:Nat},i<2*k->(mE L k).getD i 0=2*L.getD (i/2) 0+((i%2:Nat):Int)
 |k+1,i,h=>by
  show(mE L k++[2*L.getD k 0,2*L.getD k 0+1]).getD i 0=_;have hl:=ue L k;rw[aJ]
  by_cases q:i<2*k
  .rw[cO (by omega),<-aJ];exact W7 q
  rw[cP (by omega),hl];have:i=2*k\/i=2*k+1:=by omega
  rcases this with rfl|rfl
  .rw[di,show 2*k/2=k by omega,show 2*k%2=0 by omega];show 2*L.getD k 0=_;omega
  rw[show 2*k+1-2*k=1 by omega,show(2*k+1)/2=k by omega,show(2*k+1)%2=1 by omega];rfl
theorem agZ {L:List Int}{i:Int}(h0:0<=i)(h1:i<2*(L.length:Int)):2*L.getD (i/2).toNat 0+i%2=(mE L L.length).getD i.toNat 0:=by
 rw[W7 (by omega),show(i/2).toNat=i.toNat/2 by omega];omega
theorem aaL {f:Int->Int}{ds:List Int}{N:Nat}{i:Int}{d:Int}(h0:0<=i)(hd:d=ds.getD i.toNat 0)(h:tF f d (od f d N)=true):SE f ds N (i+1).toNat=SE f ds N i.toNat++[(d,xF f d (od f d N))]:=by
 subst hd;rw[show(i+1).toNat=i.toNat+1 by omega];exact ak h
theorem ad2 {f:Int->Int}{ds:List Int}{N:Nat}{i:Int}{d:Int}(h0:0<=i)(hd:d=ds.getD i.toNat 0)(h:tF f d (od f d N)=false):SE f ds N (i+1).toNat=SE f ds N i.toNat:=by
 subst hd;rw[show(i+1).toNat=i.toNat+1 by omega];exact ah (by rw[h];decide)
theorem Qs {f:Int->Int}{ds:List Int}{N:Nat}:∀k,(SE f ds N k).length<=k
 |0=>az _
 |k+1=>by
  have:=Qs (f:=f) (ds:=ds) (N:=N) k;unfold SE;split
  .rw[aN];simp;omega
  omega
def iQ (E:List (Int×Int))(V L:List Int)(T:List (List Int)):List (Int×List Int):=FR V T V.length++SE (qW E T) (mE L L.length) (mE L L.length).length (mE L L.length).length
theorem C8 {n:Int}{E:List (Int×Int)}{V L:List Int}{T:List (List Int)}(h:(kC n E V L T).2=0):iQ E V L T=(iy n E V L T).1:=by rw[Bz h];rfl
theorem W8 {n:Int}{E:List (Int×Int)}{V L:List Int}{T:List (List Int)}(hp:iM n E V L=0)(hT:mN n E L T){d:Int}(hd:jS L d):
  0<od (qW E T) d (mE L L.length).length/\od (qW E T) d (mE L L.length).length<=2*L.length/\rO (qW E T) (od (qW E T) d (mE L L.length).length) d=d/\(∀k,0<k->k<od (qW E T) d (mE L L.length).length->rO (qW E T) k d≠d)/\∀k,jS L (rO (qW E T) k d):=by
 have hD:∀x∈mE L L.length,jS L x:=λx hx=>(mC x).1 hx;have hc:∀x∈mE L L.length,qW E T x∈mE L L.length:=λx hx=>by
  rw[zq hp hT (hD x hx)];exact(mC _).2 (vb hp hT (hD x hx)).1
 have hi:∀x∈mE L L.length,∀y∈mE L L.length,qW E T x=qW E T y->x=y:=λx hx y hy e=>by
  rw[zq hp hT (hD x hx),zq hp hT (hD y hy)] at e;exact LN hp hT (hD x hx) (hD y hy) e
 have TK:=(mC d).2 hd;obtain⟨p0,p1,p2,p3⟩:=By hc hi TK;exact⟨p0,by rw[<-ue L L.length];exact p1,p2,p3,λk=>hD _ (uB hc TK k)⟩
theorem aaM {E:List (Int×Int)}{v:Int}{l:List Int}:(JA E v l= -1/\∀j,j<l.length->iC E (l.getD j 0)≠v)\/∃i:Nat,JA E v l=(i:Int)/\i<l.length/\iC E (l.getD i 0)=v:=by
 unfold JA
 by_cases q:l.findIdx (λx=>decide (iC E x=v))<l.length
 .rw[ak q];refine .inr ⟨_,rfl,q,?_⟩;have:=List.findIdx_getElem (w:=q);rw[getD_eq q];simpa using this
 rw[ah q];refine .inl ⟨rfl,λj hj e=>q (List.findIdx_lt_length_of_exists ⟨l.getD j 0,iG hj,bB e⟩)⟩
abbrev hdE (E:List (Int×Int))(d:Int):Int:=iC E (jx d)
section
variable {E:List (Int×Int)}{ds gone l:List Int}{d:Int}{k:Nat}
theorem BA {j:Nat}(h:j<gone.length):(gone++[d]).getD j 0=gone.getD j 0:=by
 rw[aJ,cO h,<-aJ]
theorem Ow:(gone++[d]).getD gone.length 0=d:=by
 rw[aJ,cP (az _),di];rfl
theorem HH {i j:Nat}:(l.drop i).getD j 0=l.getD (i+j) 0:=by
 rw[aJ,List.getElem?_drop,<-aJ]
theorem EX {i j:Nat}(h:j<i):(l.take i).getD j 0=l.getD j 0:=by
 rw[aJ,anX h,<-aJ]
structure CA (E:List (Int×Int))(g:List Int):Prop where
 nd:∀i j,i<j->j<g.length->iC E (g.getD i 0)≠iC E (g.getD j 0)
 ch:∀j,j+1<g.length->iC E (g.getD (j+1) 0)=hdE E (g.getD j 0)
structure ArI (E:List (Int×Int))(ds:List Int)(k:Nat)(g:List Int):Prop where
 p:CA E g
 la:g≠[]->0<k/\hdE E (g.getD (g.length-1) 0)=hdE E (ds.getD (k-1) 0)
 no:∀j,j<g.length->iC E (g.getD j 0)≠hdE E (g.getD (g.length-1) 0)
theorem CA.nil:CA E []:=⟨λi j _ h=>(by simp at h),λj h=>(by simp at h)⟩
theorem CA.drop (h:CA E l)(i:Nat):CA E (l.drop i):=by
 refine⟨λa b Cw hb=>?_,λj hj=>?_⟩
 .rw[bu] at hb;rw[HH,HH];exact h.nd _ _ (by omega) (by omega)
 rw[bu] at hj;rw[HH,HH];exact h.ch (i+j) (by omega)
theorem CA.take (h:CA E l)(i:Nat):CA E (l.take i):=by
 refine⟨λa b Cw hb=>?_,λj hj=>?_⟩
 .rw[aW] at hb;rw[EX (by omega),EX (by omega)];exact h.nd _ _ Cw (by omega)
 rw[aW] at hj;rw[EX (by omega),EX (by omega)];exact h.ch j (by omega)
theorem ArI.add (h:ArI E ds k gone)(hds:∀k,k+1<ds.length->iC E (ds.getD (k+1) 0)=hdE E (ds.getD k 0))(hk:k<ds.length):CA E (gone++[ds.getD k 0]):=by
 have hlen:(gone++[ds.getD k 0]).length=gone.length+1:=by simp
 have acM:gone≠[]->iC E (ds.getD k 0)=hdE E (gone.getD (gone.length-1) 0):=λmc=>by
  obtain⟨h0,h1⟩:=h.la mc;have:=hds (k-1) (by omega);rw[show k-1+1=k by omega] at this;rw[this,h1]
 refine⟨λi j J2 hj=>?_,λj hj=>?_⟩
 .rw[hlen] at hj
  by_cases q:j<gone.length
  .rw[BA q,BA (by omega)];exact h.p.nd i j J2 q
  have e:j=gone.length:=by omega
  subst e;have mc:gone≠[]:=λe=>by rw[e] at J2;simp at J2
  rw[Ow,BA J2,acM mc];exact h.no i J2
 rw[hlen] at hj
 by_cases q:j+1<gone.length
 .rw[BA q,BA (by omega)];exact h.p.ch j q
 have e:j+1=gone.length:=by omega
 have mc:gone≠[]:=λe2=>by rw[e2] at e;simp at e
 rw[e,Ow,BA (by omega),acM mc,show gone.length-1=j by omega]
theorem CA.cyc (h:CA E l)(hn:l≠[])(hc:iC E (l.getD 0 0)=hdE E (l.getD (l.length-1) 0))(hb:¬((l.length:Int)=2/\l.getD 0 0=jx (l.getD 1 0))):CyK E l l.length:=by
 have TF:=List.length_pos_iff.2 hn;refine⟨λj hj=>?_,λj hj i J2=>⟨h.nd i j J2 hj,λe=>?_⟩⟩
 .unfold aaz
  by_cases q:j=0
  .rw[ak q,q];exact hc.symm
  rw[ah q];have:=h.ch (j-1) (by omega);rw[show j-1+1=j by omega] at this;exact this.symm
 have ht:l.getD j 0=l.getD i 0\/l.getD j 0=jx (l.getD i 0):=by unfold jx;split<;>omega
 rcases ht with z|z
 .exact h.nd i j J2 hj (by rw[z])
 have h1:iC E (l.getD (i+1) 0)=iC E (l.getD j 0):=by rw[h.ch i (by omega),z]
 have zD:j=i+1:=by
  rcases amt (i+1) j with w|w|w
  .exact absurd h1 (h.nd _ _ w hj)
  .exact w.symm
  omega
 have h2:hdE E (l.getD j 0)=iC E (l.getD i 0):=by show iC E (jx _)=_;rw[z,PX]
 have hjl:j=l.length-1:=by
  by_cases w:j+1<l.length
  .have:=h.ch j w;rw[h2] at this;exact absurd this.symm (h.nd i (j+1) (by omega) w)
  omega
 have hi0:i=0:=by
  rw[<-hjl,h2] at hc
  by_cases w:0<i
  .exact absurd hc (h.nd 0 i w (by omega))
  omega
 subst hi0;exact hb ⟨by omega,by rw[zD] at z;rw[z,PX]⟩
theorem ArI.step (h:ArI E ds k gone)(hds:∀k,k+1<ds.length->iC E (ds.getD (k+1) 0)=hdE E (ds.getD k 0))(hk:k<ds.length)(out:List (List Int))(ho:∀l∈out,CyK E l l.length/\l≠[]):
  ArI E ds (k+1) (arS E (gone,out) (ds.getD k 0)).1/\∀l∈(arS E (gone,out) (ds.getD k 0)).2,CyK E l l.length/\l≠[]:=by
 have hp:=h.add hds hk;have hlen:(gone++[ds.getD k 0]).length=gone.length+1:=by simp
 have oA:(gone++[ds.getD k 0]).getD ((gone++[ds.getD k 0]).length-1) 0=ds.getD k 0:=by rw[hlen,ald];exact Ow
 have hix:=aaM (E:=E) (v:=iC E (jx (ds.getD k 0))) (l:=gone++[ds.getD k 0]);generalize hg:gone++[ds.getD k 0]=g at*
 have ajA:g≠[]:=λe=>by rw[e] at hlen;simp at hlen
 unfold arS;dsimp only;rw[hg];rcases hix with⟨i1,i2⟩|⟨i,i1,i2,i3⟩
 .rw[ak (by rw[i1];decide)];refine⟨⟨hp,λ_=>⟨by omega,by rw[oA,ald]⟩,λj hj=>?_⟩,ho⟩;rw[oA];exact i2 j hj
 rw[ah (by omega),i1,cH];refine⟨⟨hp.take i,λmc=>⟨by omega,?_⟩,λj hj=>?_⟩,?_⟩
 .have hi0:0<i:=alx λe=>mc (by rw[e];rfl);have hti:(g.take i).length=i:=by rw[aW];omega
  rw[hti,EX (by omega),ald];have:=hp.ch (i-1) (by omega);rw[show i-1+1=i by omega] at this;rw[<-this,i3]
 .have hti:(g.take i).length=i:=by rw[aW];omega
  rw[hti] at hj ⊢;rw[EX hj,EX (by omega)];have:=hp.ch (i-1) (by omega);rw[show i-1+1=i by omega] at this;rw[<-this];exact hp.nd j i hj i2
 dsimp only;split
 .rename_i hb;intro l hl;rcases aK.1 hl with q|q
  .exact ho l q
  rw[av.1 q];have Na:g.drop i≠[]:=λe=>by
   have:(g.drop i).length=0:=by rw[e];rfl
   rw[bu] at this;omega
  refine⟨(hp.drop i).cyc Na ?_ λz=>?_,Na⟩
  .rw[HH,HH,bu,show i+(g.length-i-1)=g.length-1 by omega,oA,akl,i3]
  rcases hb with w|w
  .exact w z.1
  exact w z.2
 exact ho
end
section
variable {n:Int}{E:List (Int×Int)}{V L:List Int}{T S:List (List Int)}
end
section
variable {n:Int}{E:List (Int×Int)}{V L:List Int}{a but x:Int}
theorem C9:∀e∈L,eA E e∈a::tZ E L/\eB E e∈a::tZ E L:=λe he=>⟨aI _ (G6.2 ⟨e,he,.inl rfl⟩),aI _ (G6.2 ⟨e,he,.inr rfl⟩)⟩
theorem EY (h:¬a=but):Sp (Lp E L) a but (a::tZ E L) [a]:=
 ⟨by simp,by simp,λx hx=>by rw[av.1 hx];exact .refl h,λx hx=>by rw[av.1 hx];exact aE⟩
theorem JD {m:List Int}(h:Sp (Lp E L) a but (a::tZ E L) m):m.length<=2*L.length+1:=by
 have:=h.nd.length_le_of_subset h.sub;rwa[bf,x9] at this
theorem Ck (ha:a≠but):x∈spread E L a but↔(Lp E L).p8 (· ≠but) a x:=by
 have hlen:(a::tZ E L).length=2*L.length+1:=by rw[bf,x9]
 obtain⟨h1,h2⟩:=N4 (a:=a) (but:=but) (U:=a::tZ E L) C9 (2*L.length+1) 0 [a] (EY ha) (by omega) (λj hj=>by omega) (by simp);exact⟨λh=>h1.rch x h,λh=>Gr.p8.closed (P:=(· ≠but)) (Q:=λx=>x∈spread E L a but) (λu w hu VM hw=>h2 u hu w VM hw) h h1.fst⟩
theorem W9 {i:Int}{m:List Int}(h0:0<=i)(h1:i<(m.length:Int))(h2:m.length<=2*L.length+1):Tz E L but (2*L.length+1-i.toNat) i.toNat m=Tz E L but (2*L.length+1-(i+1).toNat) (i+1).toNat (nY E but i.toNat L m):=by
 rw[show 2*L.length+1-i.toNat=(2*L.length+1-(i+1).toNat)+1 by omega]
 conv=>lhs;unfold Tz
 rw[ak (by omega),show i.toNat+1=(i+1).toNat by omega]
theorem ad3 {i:Nat}{m:List Int}{f:Nat}(h:¬i<m.length):Tz E L but f i m=m:=by
 cases f with
 |zero=>rfl
 |succ f=>unfold Tz;rw[ah h]
theorem Da {k:Int}{i:Nat}{m:List Int}(h0:0<=k)(h1:k<(L.length:Int)):nY E but i (L.take (k+1).toNat) m=sk but i (sk but i (nY E but i (L.take k.toNat) m) (eA E (L.getD k.toNat 0)) (eB E (L.getD k.toNat 0))) (eB E (L.getD k.toNat 0)) (eA E (L.getD k.toNat 0)):=by
 rw[show(k+1).toNat=k.toNat+1 by omega,mK (show k.toNat<L.length by omega) 0];unfold nY;rw[dH];rfl
theorem yx {i:Nat}{m:List Int}{x y:Int}(h:(x=m.getD i 0/\¬y=but)/\decide (y∈m)=false):sk but i m x y=m++[y]:=ak ⟨h.1.1,h.1.2,aG h.2⟩
theorem Az {i:Nat}{m:List Int}{x y:Int}(h:(¬x=m.getD i 0\/y=but)\/decide (y∈m)=true):sk but i m x y=m:=ah λq=>by
 rcases h with(h|h)|h
 .exact h q.1
 .exact q.2.1 h
 exact q.2.2 (aA h)
theorem Qt {i:Nat}{m m1 m2:List Int}{x y:Int}(h1:sk but i m x y=m1)(h2:sk but i m1 y x=m2):sk but i (sk but i m x y) y x=m2:=by rw[h1];exact h2
def rpS (E:List (Int×Int))(V L:List Int)(s:List Int×List (List Int×List Int))(v:Int):List Int×List (List Int×List Int):=
 if v∈s.1 then s else(s.1++spread E L v (-1),s.2++[(Si V (spread E L v (-1)),Sj E L (spread E L v (-1)))])
def mY (E:List (Int×Int))(V L:List Int):Nat->List Int×List (List Int×List Int)
 |0=>([],[])
 |k+1=>rpS E V L (mY E V L k) (V.getD k 0)
theorem Mo {i:Int}(h:0<=i):mY E V L (i+1).toNat=rpS E V L (mY E V L i.toNat) (V.getD i.toNat 0):=by
 rw[show(i+1).toNat=i.toNat+1 by omega];rfl
theorem EZ (ha:¬a=but):(spread E L a but).length<=2*L.length+1:=by
 have hlen:(a::tZ E L).length=2*L.length+1:=by rw[bf,x9]
 exact JD (N4 (a:=a) (but:=but) (U:=a::tZ E L) C9 (2*L.length+1) 0 [a] (EY ha) (by omega) (λj hj=>by omega) (by simp)).1
theorem JE (hV:∀v∈V,¬v= -1):∀k,k<=V.length->(mY E V L k).1.length<=k*(2*L.length+1)/\(mY E V L k).2.length<=k
 |0,_=>⟨bF _,bF _⟩
 |k+1,hk=>by
  obtain⟨h1,h2⟩:=JE hV k (by omega);have h3:=EZ (E:=E) (L:=L) (hV _ (iG (l:=V) (i:=k) (d:=0) (by omega)));rw[Nat.succ_mul];show(rpS _ _ _ _ _).1.length<=_/\(rpS _ _ _ _ _).2.length<=_;unfold rpS;split
  .omega
  dsimp only;rw[aN,aN,cz];omega
end
section
variable {n:Int}{E:List (Int×Int)}{V L:List Int}
theorem Qu (hV:∀v∈V,¬v= -1):∀ {k:Nat},k<=V.length->(∀x,x∈(mY E V L k).1↔∃a∈kA E L (V.take k),Cn E L a x)/\(mY E V L k).2=(kA E L (V.take k)).map λa=>(Si V (spread E L a (-1)),Sj E L (spread E L a (-1)))
 |0,_=>⟨λx=>⟨λh=>(by cases h),λ⟨a,ha,_⟩=>(by cases ha)⟩,rfl⟩
 |k+1,hk=>by
  obtain⟨h1,h2⟩:=Qu hV (k:=k) (by omega);have hv:=hV _ (iG (l:=V) (i:=k) (d:=0) (by omega));rw[mK (show k<V.length by omega) 0,Bn];show(∀x,x∈(rpS E V L (mY E V L k) (V.getD k 0)).1↔_)/\(rpS E V L (mY E V L k) (V.getD k 0)).2=_;unfold rpS
  by_cases q:V.getD k 0∈(mY E V L k).1
  .rw[ak q,ak ((h1 _).1 q)];exact⟨h1,h2⟩
  rw[ah q,ah λz=>q ((h1 _).2 z)];refine⟨λx=>?_,by rw[cg,<-h2];rfl⟩;show x∈(mY E V L k).1++spread E L (V.getD k 0) (-1)↔_;rw[aK,h1,Ck hv];constructor
  .rintro(⟨a,ha,hc⟩|hc)
   .exact⟨a,aQ _ ha,hc⟩
   exact⟨_,bq _ (av.2 rfl),hc⟩
  rintro⟨a,ha,hc⟩;rcases aK.1 ha with ha|ha
  .exact .inl ⟨a,ha,hc⟩
  rw[av.1 ha] at hc;exact .inr hc
open Classical in
theorem Qv (hp:iM n E V L=0):(mY E V L V.length).2=iF n E V L:=by
 obtain⟨hr,hV,hL,o6⟩:=jt hp;have Of:=xz hV;rw[PZ hp,Hj hp,(Qu (λv hv=>Of v hv) (az _)).2,bU];unfold vX;refine List.map_congr_left λa ha=>?_;have haV:=(CV (E:=E) (L:=L) V Of).1 a ha;have hs:∀x,x∈spread E L a (-1)↔Cn E L a x:=λx=>Ck (Of a haV);refine Prod.ext ?_ ?_
 .unfold Si oz;refine ama λv _=>?_;rw[decide_eq_decide];exact hs v
 unfold Sj adI;refine ama λe he=>?_;have hi:Cn E L a (eA E e)->Cn E L a (eB E e):=λh=>h.step ⟨e,he,.inl ⟨rfl,rfl⟩⟩ (by
  obtain⟨j,hj,e1⟩:=iT (z:=(0:Int)).1 he;have h2:=(o6 j hj).2;rw[u6 hV,decide_eq_true_eq,e1] at h2;exact Of _ h2)
 have hA:(E.getD e.toNat (0,0)).1∈spread E L a (-1)↔Cn E L a (eA E e):=hs _;have hB:(E.getD e.toNat (0,0)).2∈spread E L a (-1)↔Cn E L a (eB E e):=hs _
 by_cases q:Cn E L a (eA E e)
 .rw[bB (hA.2 q),bB (hB.2 (hi q)),bB q];rfl
 rw[bQ λz=>q (hA.1 z),bQ q];rfl
end
def rP (E:List (Int×Int))(w:Int×List Int):Int:=if w.1<0 then -1-w.1 else iC E w.1
def rQ (E:List (Int×Int))(W:List (Int×List Int))(vs:List Int):Nat->Int
 |0=>0
 |k+1=>rQ E W vs k+if rP E (W.getD k (0,[]))∈vs then 1 else 0
def gnR (E:List (Int×Int))(P:List (List Int×List Int))(W:List (Int×List Int)):Nat->List Int
 |0=>[]
 |k+1=>gnR E P W k++[Int.tdiv (2-((P.getD k ([],[])).1.length:Int)+((P.getD k ([],[])).2.length:Int)-rQ E W (P.getD k ([],[])).1 W.length) 2]
section
variable {E:List (Int×Int)}{P:List (List Int×List Int)}{W:List (Int×List Int)}{vs:List Int}{i:Int}
theorem aaN (h0:0<=i)(h:decide (rP E (W.getD i.toNat (0,[]))∈vs)=true):rQ E W vs (i+1).toNat=rQ E W vs i.toNat+1:=by
 rw[show(i+1).toNat=i.toNat+1 by omega];show _+(if _ then _ else _)=_;rw[ak (aA h)]
theorem ad4 (h0:0<=i)(h:decide (rP E (W.getD i.toNat (0,[]))∈vs)=false):rQ E W vs (i+1).toNat=rQ E W vs i.toNat:=by
 rw[show(i+1).toNat=i.toNat+1 by omega];show _+(if _ then _ else _)=_;rw[ah (aG h)];omega
theorem Xa:∀k,0<=rQ E W vs k/\rQ E W vs k<=(k:Int)
 |0=>⟨bN _,bN _⟩
 |k+1=>by
  have:=Xa k;show 0<=rQ E W vs k+(if _ then _ else _)/\rQ E W vs k+(if _ then _ else _)<=_;split<;>omega
theorem Xb (h0:0<=i):gnR E P W (i+1).toNat=gnR E P W i.toNat++[Int.tdiv (2-((P.getD i.toNat ([],[])).1.length:Int)+((P.getD i.toNat ([],[])).2.length:Int)-rQ E W (P.getD i.toNat ([],[])).1 W.length) 2]:=by
 rw[show(i+1).toNat=i.toNat+1 by omega];rfl
theorem JF:∀k,(gnR E P W k).length=k
 |0=>rfl
 |k+1=>by
  show(gnR E P W k++_).length=_;rw[aN,JF k];rfl
end
def Ox (E:List (Int×Int))(V L:List Int)(T:List (List Int)):List Int:=gnR E (mY E V L V.length).2 (iQ E V L T) (mY E V L V.length).2.length
def Xc (n:Int)(E:List (Int×Int))(V L:List Int)(T:List (List Int)):Prop:=(kC n E V L T).2=0/\∀x∈Ox E V L T,x=0
instance (n:Int) (E:List (Int×Int)) (V L:List Int) (T:List (List Int)):Decidable (Xc n E V L T):=by unfold Xc;infer_instance
def CB (n:Int)(E:List (Int×Int))(V L:List Int)(T:List (List Int)):Bool:=decide (Xc n E V L T)
theorem ad5 {n:Int}{E:List (Int×Int)}{V L:List Int}{T:List (List Int)}(h:(kC n E V L T).2=0){i:Int}(hi:((Ox E V L T).length:Int)<=i)(hz:∀j:Nat,(j:Int)<i->(Ox E V L T).getD j 0=0):true=CB n E V L T:=
 (bB ⟨h,λx hx=>by
  obtain⟨j,hj,e⟩:=iT (z:=(0:Int)).1 hx;rw[<-e];exact hz j (by omega)⟩).symm
section
variable {n:Int}{E:List (Int×Int)}{V L:List Int}{T:List (List Int)}{P:tI}{W:List (Int×List Int)}
theorem JG (hp:iM n E V L=0)(hW:Au E V L W){w:Int×List Int}(hw:w∈W):rP E w=oa E w:=by
 obtain⟨hr,hV,hL,_⟩:=jt hp;unfold rP oa;rcases hW.key w hw with⟨h1,h2⟩|⟨h1,h2⟩
 .have:=(jf.1 hV).2 _ h2;rw[ak (by omega),ak h1]
 have:=(oU hp h2).2.1;rw[ah (by omega),ah h1]
theorem Qw (hp:iM n E V L=0)(hP:Ce E V L P)(hW:Au E V L W){i:Nat}(hi:i<P.length):∀ {k:Nat},k<=W.length->(wK E P W k).getD i 0=rQ E W (P.getD i ([],[])).1 k
 |0,_=>by
  show(cy P.length 0).getD i 0=0;rw[getD_eq (by rw[List.length_replicate];exact hi),List.getElem_replicate]
 |k+1,hk=>by
  have ih:=Qw hp hP hW hi (k:=k) (by omega);have SF:W.getD k (0,[])∈W:=iG (by omega);have J9:=yf hp hW SF;obtain⟨pi,p0,p1,p2⟩:=Jn hP J9;have he:=JG hp hW SF;show((wK E P W k).set ((iA (Bo P P.length) (oa E (W.getD k (0,[])))).getD 0).toNat ((wK E P W k).getD ((iA (Bo P P.length) (oa E (W.getD k (0,[])))).getD 0).toNat 0+1)).getD i 0=rQ E W _ k+if rP E (W.getD k (0,[]))∈(P.getD i ([],[])).1 then 1 else 0;rw[p2,he,<-ih];show((wK E P W k).set ((pi:Int)).toNat ((wK E P W k).getD ((pi:Int)).toNat 0+1)).getD i 0=_;rw[cH,aJ,ak7]
  by_cases q:pi=i
  .subst q;rw[ak rfl,ak (by rw[CY];exact p0),ak p1];rfl
  rw[ah q,<-aJ,ah λz=>q (hP.uq pi i p0 hi _ p1 z)];omega
theorem Qx {fs:List Int}(h:∀i,i<P.length->fs.getD i 0=rQ E W (P.getD i ([],[])).1 W.length):∀ {k:Nat},k<=P.length->FT P fs k=gnR E P W k
 |0,_=>rfl
 |k+1,hk=>by
  show FT P fs k++_=gnR E P W k++_;rw[Qx h (by omega),h k (by omega)]
theorem SG (h:(kC n E V L T).2=0):(lC n E V L T).1=Ox E V L T:=by
 obtain⟨hp,hT,_⟩:=vP h;have hw:(iy n E V L T).2=0:=by rw[uh];exact h
 obtain⟨_,_,hW⟩:=oJ hw;unfold lC Ox;rw[ah (by rw[hw];exact λq=>q rfl),Qv hp,C8 h];exact Qx (λi hi=>Qw hp (ug hp) hW hi (az _)) (az _)
theorem AA:ox n E V L T=if(kC n E V L T).2≠0 then(kC n E V L T).2 else if CB n E V L T=true then 0 else 6:=by
 unfold ox;rw[CZ]
 by_cases h:(kC n E V L T).2=0
 .rw[ah (c:=(kC n E V L T).2≠0) (λq=>q h),ah (c:=(kC n E V L T).2≠0) (λq=>q h),SG h]
  by_cases q:∀x∈Ox E V L T,x=0
  .rw[ak (by rw[aU];exact λx hx=>bB (q x hx)),ak (c:=CB n E V L T=true) (bB (show Xc n E V L T from⟨h,q⟩))]
  rw[ah (by rw[aU];exact λz=>q λx hx=>aA (z x hx)),ah (c:=CB n E V L T=true) λz=>q (aA (p:=Xc n E V L T) z).2]
 rw[ak (c:=(kC n E V L T).2≠0) h,ak (c:=(kC n E V L T).2≠0) h]
end
def zx (N:Nat)(p:Nat->Bool):Int:=match(bH N).find? p with
 |some i=>(i:Int)
 |none=> -1
section
variable {N:Nat}{p:Nat->Bool}
theorem Mp {i:Int}(h0:0<=i)(hi:i<(N:Int))(h:p i.toNat=true)(hb:∀j:Nat,(j:Int)<i->p j=false):zx N p=i:=by
 have:(bH N).find? p=some i.toNat:=by
  rw[akq];exact⟨h,b5.2 (by omega),λj hj=>by rw[hb j (by omega)];rfl⟩
 unfold zx;rw[this];show((i.toNat:Nat):Int)=i;omega
theorem Qy (hb:∀j:Nat,(j:Int)<(N:Int)->p j=false):zx N p= -1:=by
 have:(bH N).find? p=none:=by
  rw[alq];intro j hj;rw[hb j (by have:=b5.1 hj;omega)];decide
 unfold zx;rw[this]
theorem Qz {i:Nat}(hi:i<N)(h:p i=true):∃j:Nat,zx N p=(j:Int)/\j<=i/\p j=true:=by
 cases hq:(bH N).find? p with
 |none=>
  rw[alq] at hq;exact absurd h (hq i (b5.2 hi))
 |some j=>
  have hj:=akq.1 hq;refine⟨j,by unfold zx;rw[hq],dL λz=>?_,hj.1⟩;have:=hj.2.2 i z;rw[h] at this;cases this
theorem ad6: -1<=zx N p/\zx N p<(N:Int):=by
 unfold zx;cases hq:(bH N).find? p with
 |none=>exact⟨bN _,by show(-1:Int)<_;omega⟩
 |some j=>
  have hj:=b5.1 (akq.1 hq).2.1;show -1<=(j:Int)/\(j:Int)<_;omega
end
def l9 (W:List (Int×List Int))(key:Int):Int:=zx W.length λi=>decide ((W.getD i (0,[])).1=key)
def vr (E:List (Int×Int))(P:tI)(w:Int×List Int):Int:=zx P.length λi=>decide (rP E w∈(P.getD i ([],[])).1)
theorem ad7 {W:List (Int×List Int)}{key i:Int}(hi:(W.length:Int)<=i)(h:∀j:Nat,(j:Int)<i->decide ((W.getD j (0,[])).1=key)=false):l9 W key= -1:=Qy λj hj=>h j (by omega)
theorem ad8 {E:List (Int×Int)}{P:tI}{w:Int×List Int}{i:Int}(hi:(P.length:Int)<=i)(h:∀j:Nat,(j:Int)<i->decide (rP E w∈(P.getD j ([],[])).1)=false):vr E P w= -1:=Qy λj hj=>h j (by omega)
section
variable {S:List (List Int)}{W:List (Int×List Int)}{key i:Int}
end
section
variable {ow:List (Int×Int)}{S:List (List Int)}{N:Nat}{l:List Int}{s z:S4×List (Int×Int)}
theorem Xd {i:Int}{k:Nat}(h:uz ow l i s k=some z):(iA ow (l.getD k 0)).isSome=true/\(iA s.2 (l.getD k 0)).isSome=false/\∀x,(iA z.2 x).isSome=true↔(iA s.2 x).isSome=true\/x=l.getD k 0:=by
 have hp:∀m:List (Int×Int),∀x,(iA (lD m (l.getD k 0) i) x).isSome=true↔(iA m x).isSome=true\/x=l.getD k 0:=λm x=>by
  rw[jT]
  by_cases q:l.getD k 0=x
  .rw[ak q];exact⟨λ_=>.inr q.symm,λ_=>rfl⟩
  rw[ah q];exact⟨.inl,λw=>w.elim id λw=>absurd w.symm q⟩
 unfold uz at h
 by_cases q:(iA ow (l.getD k 0)).isSome=false\/(iA s.2 (l.getD k 0)).isSome=true\/(0<k/\l.getD k 0<=l.getD (k-1) 0)
 .rw[ak q] at h;cases h
 rw[ah q] at h;refine⟨by cases hq:(iA ow (l.getD k 0)).isSome;exact absurd (.inl hq) q;rfl,by cases hq:(iA s.2 (l.getD k 0)).isSome;rfl;exact absurd (.inr (.inl hq)) q,?_⟩;split at h
 .cases h;exact hp s.2
 split at h
 .cases h;exact hp s.2
 cases h
theorem Mq {i:Int}:∀ {k:Nat} {z:S4×List (Int×Int)},k<=l.length->runK ow l i s k=some z->
  (∀x,(iA z.2 x).isSome=true↔(iA s.2 x).isSome=true\/x∈l.take k)/\∀x∈l.take k,(iA ow x).isSome=true/\(iA s.2 x).isSome=false
 |0,z,_,h=>by
  have h:some s=some z:=h;cases h;exact⟨λx=>⟨.inl,λw=>w.elim id λw=>(by simp at w)⟩,λx hx=>(by simp at hx)⟩
 |k+1,z,hk,h=>by
  have h:(runK ow l i s k).bind (λy=>uz ow l i y k)=some z:=h;cases hq:runK ow l i s k with
  |none=>rw[hq] at h;cases h
  |some y=>
   rw[hq] at h;obtain⟨h1,h2⟩:=Mq (k:=k) (by omega) hq;obtain⟨k1,k2,k3⟩:=Xd (show uz ow l i y k=some z from h);rw[mK (show k<l.length by omega) 0];refine⟨λx=>?_,λx hx=>?_⟩
   .rw[k3,h1,aK,av,or_assoc]
   rcases aK.1 hx with w|w
   .exact h2 x w
   rw[av.1 w];refine⟨k1,?_⟩;cases hv:(iA s.2 (l.getD k 0)).isSome with
   |false=>rfl
   |true=>have:=(h1 (l.getD k 0)).2 (.inl hv);rw[k2] at this;cases this
theorem E0:∀ {i:Nat} {z:S4×List (Int×Int)},qu ow S N i=some z->(∀x,(iA z.2 x).isSome=true↔∃j,j<i/\x∈S.getD j [])/\(∀j,j<i->∀x∈S.getD j [],(iA ow x).isSome=true)/\∀a b,a<b->b<i->∀x∈S.getD a [],x∉S.getD b []
 |0,z,h=>by
  have h:some (vc N,([]:List (Int×Int)))=some z:=h;cases h;exact⟨λx=>⟨λw=>(by cases w),λ⟨j,w,_⟩=>(by omega)⟩,λj w=>(by omega),λa b _ w=>(by omega)⟩
 |i+1,z,h=>by
  have h:(qu ow S N i).bind (λs=>uA ow S s i)=some z:=h;cases hq:qu ow S N i with
  |none=>rw[hq] at h;cases h
  |some y=>
   rw[hq] at h;have h:uA ow S y i=some z:=h;obtain⟨h1,h2,h3⟩:=E0 hq;unfold uA at h;split at h
   .cases h
   obtain⟨k1,k2⟩:=Mq (az _) h;rw[bU] at k1 k2;refine⟨λx=>?_,λj hj x hx=>?_,λa b Cw hb x hx=>?_⟩
   .rw[k1,h1];constructor
    .rintro(⟨j,w1,w2⟩|w)
     .exact⟨j,by omega,w2⟩
     exact⟨i,cX _,w⟩
    rintro⟨j,w1,w2⟩;rcases dw.1 w1 with q|q
    .exact .inl ⟨j,q,w2⟩
    subst q;exact .inr w2
   .rcases dw.1 hj with q|q
    .exact h2 j q x hx
    subst q;exact(k2 x hx).1
   rcases dw.1 hb with q|q
   .exact h3 a b Cw q x hx
   subst q;intro w;have:=(h1 x).2 ⟨a,Cw,hx⟩;rw[(k2 x w).2] at this;cases this
end
theorem Oy {E:List (Int×Int)}{P:tI}{W:List (Int×List Int)}:∀ {k:Nat},k<=W.length->∀x,(iA (jL E P W k) x).isSome=true↔∃w∈W.take k,w.1=x
 |0,_,x=>⟨λh=>(by cases h),λ⟨w,hw,_⟩=>(by simp at hw)⟩
 |k+1,h,x=>by
  show(iA (lD (jL E P W k) (W.getD k (0,[])).1 _) x).isSome=true↔_;rw[jT,mK (show k<W.length by omega) (0,[])]
  by_cases q:(W.getD k (0,[])).1=x
  .rw[ak q];exact⟨λ_=>⟨_,bq _ (av.2 rfl),q⟩,λ_=>rfl⟩
  rw[ah q,Oy (k:=k) (by omega)];constructor
  .rintro⟨w,hw,e⟩;exact⟨w,aQ _ hw,e⟩
  rintro⟨w,hw,e⟩;rcases aK.1 hw with z|z
  .exact⟨w,z,e⟩
  rw[av.1 z] at e;exact absurd e q
section
variable {S:List (List Int)}{W:List (Int×List Int)}{key:Int}
end
def F3 (k:Nat):List Int:=(bH k).map λ(i:Nat)=>(i:Int)
theorem SH {i:Int}(h:0<=i):F3 (i+1).toNat=F3 i.toNat++[i]:=by
 rw[show(i+1).toNat=i.toNat+1 by omega];unfold F3;rw[ala,cg];show _++[((i.toNat:Nat):Int)]=_;rw[cC h]
theorem E1 (k:Nat):(F3 k).length=k:=by unfold F3;rw[bp,akp]
def owK (E:List (Int×Int))(P:tI)(W:List (Int×List Int))(key:Int):Int:=vr E P (W.getD (l9 W key).toNat (0,[]))
def vh (g:List Int)(a b:Int):Nat->List Int
 |0=>g
 |k+1=>if(vh g a b k).getD k 0=b then(vh g a b k).set k a else vh g a b k
def vj (W:List (Int×List Int))(l m:List Int):Nat->Option (List Int)
 |0=>some m
 |k+1=>(vj W l m k).bind λz=>if(l9 W (l.getD k 0)<0\/l.getD k 0∈z)\/(0<k/\l.getD k 0<=l.getD (k-1) 0) then none else some (z++[l.getD k 0])
def Fz (o:Int->Int)(l g:List Int):Nat->Option (List Int)
 |0=>some g
 |k+1=>(Fz o l g k).bind λz=>if z.getD (o (l.getD 0 0)).toNat 0=z.getD (o (l.getD (k+1) 0)).toNat 0 then none else some (vh z (z.getD (o (l.getD 0 0)).toNat 0) (z.getD (o (l.getD (k+1) 0)).toNat 0) z.length)
def Xe (o:Int->Int)(W:List (Int×List Int))(S:List (List Int))(s:List Int×List Int)(i:Nat):Option (List Int×List Int):=
 if(S.getD i []).length<2\/(0<i/\(S.getD i []).getD 0 0<=(S.getD (i-1) []).getD 0 0) then none
 else(vj W (S.getD i []) s.2 (S.getD i []).length).bind λm=>(Fz o (S.getD i []) s.1 ((S.getD i []).length-1)).bind λg=>some (g,m)
def JH (o:Int->Int)(W:List (Int×List Int))(S:List (List Int))(N:Nat):Nat->Option (List Int×List Int)
 |0=>some (F3 N,[])
 |i+1=>(JH o W S N i).bind λs=>Xe o W S s i
def Xf (g:List Int):Int:=if ∀x∈g,x=g.getD 0 0 then 0 else 7
def ag0:Option (List Int×List Int)->Int
 |none=>7
 |some s=>Xf s.1
def AB (n:Int)(E:List (Int×Int))(V L:List Int)(T S:List (List Int)):Int:=
 if(kC n E V L T).2≠0 then(kC n E V L T).2
 else if CB n E V L T=false then 6
 else ag0 (JH (owK E (mY E V L V.length).2 (iQ E V L T)) (iQ E V L T) S (mY E V L V.length).2.length S.length)
section
variable {n:Int}{E:List (Int×Int)}{V L:List Int}{T S:List (List Int)}
theorem HI (h:(kC n E V L T).2≠0):AB n E V L T S=(kC n E V L T).2:=ak h
theorem HJ (h:(kC n E V L T).2=0)(k:CB n E V L T=false):AB n E V L T S=6:=by unfold AB;rw[ah (λq=>q h),ak k]
theorem qy (h:(kC n E V L T).2=0)(k:CB n E V L T=true){r:Option (List Int×List Int)}(hr:JH (owK E (mY E V L V.length).2 (iQ E V L T)) (iQ E V L T) S (mY E V L V.length).2.length S.length=r):AB n E V L T S=ag0 r:=by
 subst hr;unfold AB;rw[ah (λq=>q h),ah (by rw[k];decide)]
end
theorem QA (W:List (Int×List Int))(key:Int): -1<=l9 W key/\l9 W key<(W.length:Int):=ad6
theorem acN {n:Int}{E:List (Int×Int)}{V L:List Int}{P:tI}{W:List (Int×List Int)}(hp:iM n E V L=0)(hP:Ce E V L P)(hW:Au E V L W){w:Int×List Int}(hw:w∈W):0<=vr E P w/\vr E P w<(P.length:Int)/\oa E w∈(P.getD (vr E P w).toNat ([],[])).1:=by
 obtain⟨i,hi,hx⟩:=hP.ZZ _ (yf hp hW hw);obtain⟨j,e,hj,hq⟩:=Qz (p:=λi=>decide (rP E w∈(P.getD i ([],[])).1)) hi (bB (by rw[JG hp hW hw];exact hx));have e:vr E P w=(j:Int):=e;rw[e];refine⟨by omega,by omega,?_⟩;rw[cH,<-JG hp hW hw];exact aA hq
theorem JI {n:Int}{E:List (Int×Int)}{V L:List Int}{P:tI}{W:List (Int×List Int)}{x:Int}{Q:Prop}(hn:Q)(hp:iM n E V L=0)(hP:Ce E V L P)(hW:Au E V L W)(hx:0<=l9 W x):
  l9 W x<(W.length:Int)/\(Q/\-1000000<=(W.getD (l9 W x).toNat (0,[])).1/\(W.getD (l9 W x).toNat (0,[])).1<=1000000/\(0<=(W.getD (l9 W x).toNat (0,[])).1->(W.getD (l9 W x).toNat (0,[])).1/2<(E.length:Int)))/\0<=vr E P (W.getD (l9 W x).toNat (0,[]))/\vr E P (W.getD (l9 W x).toNat (0,[]))<(P.length:Int):=by
 have hb:=(QA W x).2;have hw:W.getD (l9 W x).toNat (0,[])∈W:=iG (by omega);have kb:=P5 hp hW hw;obtain⟨o0,o1,_⟩:=acN hp hP hW hw;exact⟨hb,⟨hn,by omega,by omega,λz=>(hW.key _ hw).elim (λq=>by have:=(jf.1 (jt hp).2.1).2 _ q.2;omega) λq=>(oU hp q.2).2.2.1⟩,o0,o1⟩
section
variable {g l m:List Int}{a b:Int}{W:List (Int×List Int)}{o:Int->Int}
theorem rR:∀k,(vh g a b k).length=g.length
 |0=>rfl
 |k+1=>by
  unfold vh;split
  .rw[List.length_set];exact rR k
  exact rR k
theorem Mr {j:Int}(h0:0<=j){z:List Int}(hz:z=vh g a b j.toNat)(h:z.getD j.toNat 0=b):z.set j.toNat a=vh g a b (j+1).toNat:=by
 rw[show(j+1).toNat=j.toNat+1 by omega];unfold vh;rw[<-hz,ak h]
theorem QB {j:Int}(h0:0<=j){z:List Int}(hz:z=vh g a b j.toNat)(h:¬z.getD j.toNat 0=b):z=vh g a b (j+1).toNat:=by
 rw[show(j+1).toNat=j.toNat+1 by omega];unfold vh;rw[<-hz,ah h]
theorem yy {k:Int}{z:List Int}(h0:0<=k)(h:vj W l m k.toNat=some z):vj W l m (k+1).toNat=if(l9 W (l.getD k.toNat 0)<0\/l.getD k.toNat 0∈z)\/(0<k/\l.getD k.toNat 0<=l.getD (k-1).toNat 0) then none else some (z++[l.getD k.toNat 0]):=by
 rw[show(k+1).toNat=k.toNat+1 by omega];show(vj W l m k.toNat).bind _=_;rw[h];show(if(_\/_)\/_ then none else _)=_;rw[show k.toNat-1=(k-1).toNat by omega]
 by_cases q:(l9 W (l.getD k.toNat 0)<0\/l.getD k.toNat 0∈z)\/(0<k/\l.getD k.toNat 0<=l.getD (k-1).toNat 0)
 .rw[ak q,ak (q.imp id λw=>⟨by omega,w.2⟩)]
 rw[ah q,ah λw=>q (w.imp id λw=>⟨by omega,w.2⟩)]
theorem BB {k:Nat}(h:vj W l m k=none):∀ {j:Nat},k<=j->vj W l m j=none
 |0,hj=>by rw[show k=0 by omega] at h;exact h
 |j+1,hj=>by
  by_cases e:k=j+1
  .rw[<-e];exact h
  show(vj W l m j).bind _=none;rw[BB h (j:=j) (by omega)];rfl
theorem AD {k:Nat}(h:Fz o l g k=none):∀ {j:Nat},k<=j->Fz o l g j=none
 |0,hj=>by rw[show k=0 by omega] at h;exact h
 |j+1,hj=>by
  by_cases e:k=j+1
  .rw[<-e];exact h
  show(Fz o l g j).bind _=none;rw[AD h (j:=j) (by omega)];rfl
structure Ms (W:List (Int×List Int))(m:List Int):Prop where
 nd:m.Nodup
 fn:∀x∈m,0<=l9 W x
theorem aaO {x y:Int}(hx:0<=l9 W x)(e:l9 W x=l9 W y):x=y:=by
 have key:∀x,0<=l9 W x->(W.getD (l9 W x).toNat (0,[])).1=x:=λx hx=>by
  unfold l9 zx at hx ⊢;split at hx
  .rename_i i hi;have:=(akq.1 hi).1;exact aA this
  omega
 rw[<-key x hx,<-key y (by omega),e]
theorem Ms.len (h:Ms W m):m.length<=W.length:=by
 have hn:(m.map λx=>(l9 W x).toNat).Nodup:=by
  refine List.pairwise_map.2 (h.nd.imp_of_mem λ{x y} hx hy q e=>q ?_);have:=h.fn x hx;have:=h.fn y hy;exact aaO (by omega) (by omega)
 have:=hn.length_le_of_subset (l₂:=bH W.length) λz hz=>by
  obtain⟨x,hx,rfl⟩:=aV.1 hz;have:=(QA W x).2;have:=h.fn x hx;exact b5.2 (by omega)
 rwa[bp,akp] at this
theorem Ms.snoc (h:Ms W m){x:Int}(h1:¬l9 W x<0)(h2:x∉m):Ms W (m++[x]):=
 ⟨cY.2 ⟨h.nd,amE _ _,λa ha b hb e=>h2 (by rw[<-av.1 hb,<-e];exact ha)⟩,λy hy=>(aK.1 hy).elim (h.fn y) λq=>by rw[av.1 q];omega⟩
theorem QC {k:Nat}{z:List Int}(h:vj W l m k=some z):∀j,j<k->0<=l9 W (l.getD j 0):=by
 induction k generalizing z with
 |zero=>intro j hj;omega
 |succ k ih=>
  have h:(vj W l m k).bind _=some z:=h;cases hq:vj W l m k with
  |none=>rw[hq] at h;cases h
  |some y=>
   rw[hq] at h;intro j hj;rcases dw.1 hj with q|q
   .exact ih hq j q
   subst q;refine Int.not_lt.1 λw=>?_;have h:(if(_\/_)\/_ then none else _)=some z:=h;rw[ak (.inl (.inl w))] at h;cases h
theorem AE {k:Int}{z:List Int}(h0:1<=k)(h:Fz o l g (k-1).toNat=some z):Fz o l g (k+1-1).toNat=if z.getD (o (l.getD 0 0)).toNat 0=z.getD (o (l.getD k.toNat 0)).toNat 0 then none else some (vh z (z.getD (o (l.getD 0 0)).toNat 0) (z.getD (o (l.getD k.toNat 0)).toNat 0) z.length):=by
 rw[show(k+1-1).toNat=(k-1).toNat+1 by omega];show(Fz o l g (k-1).toNat).bind _=_;rw[h];show(if _ then none else _)=_;rw[show(k-1).toNat+1=k.toNat by omega]
theorem Mt {S:List (List Int)}{N k:Nat}(h:JH o W S N k=none):∀ {j:Nat},k<=j->JH o W S N j=none
 |0,hj=>by rw[show k=0 by omega] at h;exact h
 |j+1,hj=>by
  by_cases e:k=j+1
  .rw[<-e];exact h
  show(JH o W S N j).bind _=none;rw[Mt h (j:=j) (by omega)];rfl
theorem E3 {S:List (List Int)}{N:Nat}{i:Int}{z:List Int×List Int}(h0:0<=i)(h:JH o W S N i.toNat=some z):JH o W S N (i+1).toNat=Xe o W S z i.toNat:=by
 rw[show(i+1).toNat=i.toNat+1 by omega];show(JH o W S N i.toNat).bind _=_;rw[h];rfl
theorem yz {S:List (List Int)}{N:Nat}{i:Int}{z:List Int×List Int}(h0:0<=i)(hi:i<(S.length:Int))(h:JH o W S N i.toNat=some z)(hb:Xe o W S z i.toNat=none):JH o W S N S.length=none:=
 Mt (k:=(i+1).toNat) (by rw[E3 h0 h,hb]) (by omega)
theorem Mu {S:List (List Int)}{i:Int}{z:List Int×List Int}(h0:0<=i)(h:((S.getD i.toNat []).length:Int)<2\/(0<i/\(S.getD i.toNat []).getD 0 0<=(S.getD (i-1).toNat []).getD 0 0)):Xe o W S z i.toNat=none:=by
 refine ak (h.imp (λq=>by omega) λq=>?_);rw[show i.toNat-1=(i-1).toNat by omega];exact⟨by omega,q.2⟩
theorem BC {S:List (List Int)}{i:Int}{z:List Int×List Int}(h0:0<=i)(h:¬(((S.getD i.toNat []).length:Int)<2)/\(¬(0<i)\/¬((S.getD i.toNat []).getD 0 0<=(S.getD (i-1).toNat []).getD 0 0))):Xe o W S z i.toNat=(vj W (S.getD i.toNat []) z.2 (S.getD i.toNat []).length).bind λm=>(Fz o (S.getD i.toNat []) z.1 ((S.getD i.toNat []).length-1)).bind λg=>some (g,m):=by
 refine ah ?_;rintro(q|⟨q1,q2⟩)
 .exact h.1 (by omega)
 rw[show i.toNat-1=(i-1).toNat by omega] at q2;exact h.2.elim (λz=>z (by omega)) λz=>z q2
theorem QD {S:List (List Int)}{N:Nat}:∀ {i:Nat} {z:List Int×List Int},JH o W S N i=some z->∀j,j<i->2<=(S.getD j []).length
 |0,z,_,j,hj=>by omega
 |i+1,z,h,j,hj=>by
  have h:(JH o W S N i).bind (λs=>Xe o W S s i)=some z:=h;cases hq:JH o W S N i with
  |none=>rw[hq] at h;cases h
  |some y=>
   by_cases e:j=i
   .subst e;rw[hq] at h;have h:Xe o W S y j=some z:=h;unfold Xe at h;split at h
    .cases h
    rename_i q;exact dL λz=>q (.inl z)
   exact QD hq j (by omega)
theorem aaP {i:Int}(hi:0<=i)(hl:i<(g.length:Int))(h:¬g.getD i.toNat 0=g.getD 0 0):7=Xf g:=(ah λq=>h (q _ (iG (by omega)))).symm
theorem aaQ {i:Int}(hl:(g.length:Int)<=i)(h:∀j:Nat,(j:Int)<i->g.getD j 0=g.getD 0 0):0=Xf g:=(ak λx hx=>by obtain⟨j,hj,e⟩:=iT (z:=(0:Int)).1 hx;rw[<-e];exact h j (by omega)).symm
end
theorem E4 {g:List Int}{a b:Int}:∀k,k<=g.length->∀j,(vh g a b k).getD j 0=if j<k/\g.getD j 0=b then a else g.getD j 0
 |0,_,j=>by rw[ah (by omega)];rfl
 |k+1,hk,j=>by
  have ih:=E4 (g:=g) (a:=a) (b:=b) k (by omega);have hl:=rR (g:=g) (a:=a) (b:=b) k;have RB:(vh g a b k).getD k 0=g.getD k 0:=by rw[ih,ah (by omega)]
  unfold vh;rw[RB]
  by_cases q:g.getD k 0=b
  .rw[ak q,aJ,ak7]
   by_cases e:k=j
   .subst e;rw[ak rfl,ak (by omega),ak ⟨cX _,q⟩];rfl
   rw[ah e,<-aJ,ih]
   by_cases w:j<k/\g.getD j 0=b
   .rw[ak w,ak ⟨by omega,w.2⟩]
   rw[ah w,ah λz=>w ⟨by omega,z.2⟩]
  rw[ah q,ih]
  by_cases w:j<k/\g.getD j 0=b
  .rw[ak w,ak ⟨by omega,w.2⟩]
  rw[ah w,ah λz=>w ⟨by
   rcases dw.1 z.1 with y|y
   .exact y
   subst y;exact absurd z.2 q,z.2⟩]
structure Oz (ow:p9)(N:Nat)(g m:List Int)(z:S4×p9):Prop where
 rt:Fy ow N z
 len:g.length=N
 wo:∀x,(iA z.1.1 x).isSome=true->0<=x/\x<(N:Int)
 eq:∀a b:Int,0<=a->a<(N:Int)->0<=b->b<(N:Int)->(g.getD a.toNat 0=g.getD b.toNat 0↔Rl z.1 a b)
 me:∀x,(iA z.2 x).isSome=true↔x∈m
section
variable {ow:p9}{N:Nat}{W:List (Int×List Int)}{o:Int->Int}{l g m:List Int}{s:S4×p9}{S:List (List Int)}
theorem Oz.start:Oz ow N (F3 N) [] (vc N,[]):=by
 obtain⟨h1,h2,h3,h4⟩:=C0 N;have hg:∀a:Int,0<=a->a<(N:Int)->(F3 N).getD a.toNat 0=a:=λa h0 h1=>by
  unfold F3;rw[aJ,b9,List.getElem?_range (by omega)];show((a.toNat:Nat):Int)=a;omega
 refine⟨Fy.start,E1 N,λx h=>(h3 x).1 h,λa b a0 a1 b0 b1=>?_,λx=>⟨λh=>(by cases h),λh=>(by cases h)⟩⟩;rw[hg a a0 a1,hg b b0 b1,h4];exact⟨λe=>⟨a0,a1,e⟩,λe=>e.2.2⟩
theorem Oz.met (h:Oz ow N g m s){x i:Int}(hx:(iA ow x).isSome=true):Oz ow N g (m++[x]) (s.1,lD s.2 x i):=
 ⟨h.rt.met hx,h.len,h.wo,h.eq,λy=>by
  show(iA (lD s.2 x i) y).isSome=true↔_;rw[jT,aK,av]
  by_cases q:x=y
  .rw[ak q];exact⟨λ_=>.inr q.symm,λ_=>rfl⟩
  rw[ah q,h.me];exact⟨.inl,λw=>w.elim id λw=>absurd w.symm q⟩⟩
theorem Oz.jn (h:Oz ow N g m s){x y:Int}(x0:0<=x)(x1:x<(N:Int))(y0:0<=y)(y1:y<(N:Int)):(jnT s.1 x y=true↔¬g.getD x.toNat 0=g.getD y.toNat 0)/\Oz ow N (vh g (g.getD x.toNat 0) (g.getD y.toNat 0) g.length) m (M4 s.1 x y,s.2):=by
 have hx:=h.rt.all x x0 x1;have hy:=h.rt.all y y0 y1;obtain⟨j1,j2,j3⟩:=h.rt.ok.jn x y;obtain⟨k1,k2,k3⟩:=h.rt.jn x0 x1 y0 y1;have Tq:=h.eq x y x0 x1 y0 y1;have wO:∀a b,Rl (mA (mA s.1 x) y) a b↔Rl s.1 a b:=λa b=>by
  rw[((h.rt.ok.add x).1.add y).2,(h.rt.ok.add x).2];constructor
  .rintro((z|⟨z1,z2⟩)|⟨z1,z2⟩)
   .exact z
   .rw[z1,z2];exact Rl.refl hx
   rw[z1,z2];exact Rl.refl hy
  exact λz=>.inl (.inl z)
 refine⟨?_,⟨k1,k2,λz h0 h1=>by show(iA (M4 s.1 x y).1 z).isSome=true;rw[k3];exact h.rt.all z h0 h1,h.rt.kn,h.rt.sub⟩,by rw[rR];exact h.len,λz hz=>h.wo z (by have hz:(iA (M4 s.1 x y).1 z).isSome=true:=hz;rw[k3] at hz;exact hz),λa b a0 a1 b0 b1=>?_,h.me⟩
 .rw[j2,Tq];exact⟨λz w=>z (.inl w),λz w=>z (w.elim id λe=>e▸Rl.refl hx)⟩
 have Cw:=h.eq a b a0 a1 b0 b1;have hax:=h.eq a x a0 a1 x0 x1;have hay:=h.eq a y a0 a1 y0 y1;have hbx:=h.eq b x b0 b1 x0 x1;have CE:=h.eq b y b0 b1 y0 y1;have hl:=h.len;rw[E4 _ (az _),E4 _ (az _),j3,wO,wO,wO,wO,wO];have e1:(a.toNat<g.length/\g.getD a.toNat 0=g.getD y.toNat 0)↔Rl s.1 a y:=by rw[hay];exact⟨λz=>z.2,λz=>⟨by omega,z⟩⟩
 have e2:(b.toNat<g.length/\g.getD b.toNat 0=g.getD y.toNat 0)↔Rl s.1 b y:=by rw[CE];exact⟨λz=>z.2,λz=>⟨by omega,z⟩⟩
 by_cases q1:Rl s.1 a y<;>by_cases q2:Rl s.1 b y
 .rw[ak (e1.2 q1),ak (e2.2 q2)];exact⟨λ_=>.inl (q1.trans q2.symm),λ_=>rfl⟩
 .rw[ak (e1.2 q1),ah (λz=>q2 (e2.1 z))];constructor
  .exact λe=>.inr (.inr ⟨q1,(hbx.1 e.symm).symm⟩)
  rintro(z|⟨z1,z2⟩|⟨z1,z2⟩)
  .exact absurd (z.symm.trans q1) q2
  .exact absurd z2.symm q2
  exact(hbx.2 z2.symm).symm
 .rw[ah (λz=>q1 (e1.1 z)),ak (e2.2 q2)];constructor
  .exact λe=>.inr (.inl ⟨hax.1 e,q2.symm⟩)
  rintro(z|⟨z1,z2⟩|⟨z1,z2⟩)
  .exact absurd (z.trans q2) q1
  .exact hax.2 z1
  exact absurd z1 q1
 rw[ah (λz=>q1 (e1.1 z)),ah (λz=>q2 (e2.1 z)),Cw];constructor
 .exact .inl
 rintro(z|⟨z1,z2⟩|⟨z1,z2⟩)
 .exact z
 .exact absurd z2.symm q2
 exact absurd z1 q1
variable (hk:∀x,(iA ow x).isSome=true↔0<=l9 W x)(ho:∀x,(iA ow x).isSome=true->(iA ow x).getD 0=o x/\0<=o x/\o x<(N:Int))
include hk ho in
theorem Mv {i:Int}(h:Oz ow N g m s):∀k,(∀m' g',vj W l m k=some m'->Fz o l g (k-1)=some g'->∃z,runK ow l i s k=some z/\Oz ow N g' m' z)/\(vj W l m k=none\/Fz o l g (k-1)=none->runK ow l i s k=none)
 |0=>⟨λm' g' e1 e2=>by
  have e1:some m=some m':=e1;have e2:some g=some g':=e2;cases e1;cases e2;exact⟨s,rfl,h⟩,λq=>q.elim (λz=>by cases z) λz=>by cases z⟩
 |k+1=>by
  obtain⟨h1,h2⟩:=Mv h k;have er:runK ow l i s (k+1)=(runK ow l i s k).bind λz=>uz ow l i z k:=rfl;have em:vj W l m (k+1)=(vj W l m k).bind λz=>if(l9 W (l.getD k 0)<0\/l.getD k 0∈z)\/(0<k/\l.getD k 0<=l.getD (k-1) 0) then none else some (z++[l.getD k 0]):=rfl;rw[ald,er,em];cases hm:vj W l m k with
  |none=>rw[h2 (.inl hm)];exact⟨λm' g' e=>(by cases e),λ_=>rfl⟩
  |some m'=>
   cases hj:Fz o l g (k-1) with
   |none=>
    rw[h2 (.inr hj)];exact⟨λm' g' _ e=>(by rw[AD hj (j:=k) (by omega)] at e;cases e),λ_=>rfl⟩
   |some g'=>
    obtain⟨z,hz,hg⟩:=h1 m' g' hm hj;rw[hz];simp only[Option.bind_some];unfold uz;have hx:((iA ow (l.getD k 0)).isSome=false\/(iA z.2 (l.getD k 0)).isSome=true\/(0<k/\l.getD k 0<=l.getD (k-1) 0))↔((l9 W (l.getD k 0)<0\/l.getD k 0∈m')\/(0<k/\l.getD k 0<=l.getD (k-1) 0)):=by
     have:=hk (l.getD k 0);rw[hg.me,or_assoc,show(iA ow (l.getD k 0)).isSome=false↔l9 W (l.getD k 0)<0 from⟨λq=>by rw[q] at this;exact Int.not_le.1 λw=>absurd (this.2 w) (by decide),λq=>by cases e:(iA ow (l.getD k 0)).isSome;rfl;have:=this.1 e;omega⟩]
    by_cases q:(l9 W (l.getD k 0)<0\/l.getD k 0∈m')\/(0<k/\l.getD k 0<=l.getD (k-1) 0)
    .rw[ak q,ak (hx.2 q)];exact⟨λm' g' e=>(by cases e),λ_=>rfl⟩
    rw[ah q,ah λw=>q (hx.1 w)];have uD:(iA ow (l.getD k 0)).isSome=true:=(hk _).2 (Int.not_lt.1 λw=>q (.inl (.inl w)))
    by_cases e0:k=0
    .subst e0;rw[ak rfl];refine⟨λm'' g'' e1 e2=>?_,λw=>w.elim (λw=>by cases w) λw=>by rw[w] at hj;cases hj⟩;have e2:Fz o l g (0-1)=some g'':=e2;rw[hj] at e2;cases e1;cases e2;exact⟨_,rfl,hg.met uD⟩
    have hh:(iA ow (l.getD 0 0)).isSome=true:=vY (by omega) hz;obtain⟨a1,a2,a3⟩:=ho _ hh;obtain⟨b1,b2,b3⟩:=ho _ uD;rw[ah e0,a1,b1];obtain⟨t1,t2⟩:=hg.jn a2 a3 b2 b3;have ej:Fz o l g k=if g'.getD (o (l.getD 0 0)).toNat 0=g'.getD (o (l.getD k 0)).toNat 0 then none else some (vh g' (g'.getD (o (l.getD 0 0)).toNat 0) (g'.getD (o (l.getD k 0)).toNat 0) g'.length):=by
     have e:k=(k-1)+1:=by omega
     rw[e];show(Fz o l g (k-1)).bind _=_;rw[hj,<-e];rfl
    rw[ej]
    by_cases w:g'.getD (o (l.getD 0 0)).toNat 0=g'.getD (o (l.getD k 0)).toNat 0
    .rw[ak w,ah λy=>t1.1 y w];exact⟨λm' g' _ e=>(by cases e),λ_=>rfl⟩
    rw[ah w,ak (t1.2 w)];refine⟨λm'' g'' e1 e2=>?_,λy=>y.elim (λy=>by cases y) λy=>by cases y⟩;cases e1;cases e2;exact⟨_,rfl,t2.met uD⟩
include hk ho in
theorem Mw:∀i,match JH o W S N i with
  |some (g,m)=> ∃z,qu ow S N i=some z/\Oz ow N g m z
  |none=>qu ow S N i=none
 |0=>⟨_,rfl,Oz.start⟩
 |i+1=>by
  have ih:=Mw i;show match(JH o W S N i).bind λs=>Xe o W S s i with|some (g,m)=> ∃z,(qu ow S N i).bind (λs=>uA ow S s i)=some z/\Oz ow N g m z|none=>(qu ow S N i).bind (λs=>uA ow S s i)=none
  cases hq:JH o W S N i with
  |none=>
   rw[hq] at ih;have ih:qu ow S N i=none:=ih;rw[ih];rfl
  |some p=>
   obtain⟨g,m⟩:=p;rw[hq] at ih;have⟨z,hz,hg⟩:=ih;rw[hz];show match Xe o W S (g,m) i with|some (g,m)=> ∃y,uA ow S z i=some y/\Oz ow N g m y|none=>uA ow S z i=none
   unfold Xe uA
   by_cases q:(S.getD i []).length<2\/(0<i/\(S.getD i []).getD 0 0<=(S.getD (i-1) []).getD 0 0)
   .rw[ak q,ak q]
   rw[ah q,ah q];obtain⟨k1,k2⟩:=Mv (l:=S.getD i []) hk ho (i:=(i:Int)) hg (S.getD i []).length;dsimp only;cases hm:vj W (S.getD i []) m (S.getD i []).length with
   |none=>exact k2 (.inl hm)
   |some m'=>
    cases hj:Fz o (S.getD i []) g ((S.getD i []).length-1) with
    |none=>exact k2 (.inr hj)
    |some g'=>exact k1 m' g' hm hj
theorem aaR (h:Oz ow N g m s):Xf g=if 1<s.1.2.2.2 then 7 else 0:=by
 have ho:=h.rt.ok.one;have hl:=h.len;unfold Xf
 by_cases q:∀x∈g,x=g.getD 0 0
 .rw[ak q,ah];intro w;have:s.1.2.2.2<=1:=ho.2 λa b ha hb=>by
   obtain⟨a0,a1⟩:=h.wo a ha;obtain⟨b0,b1⟩:=h.wo b hb;refine(h.eq a b a0 a1 b0 b1).1 ?_;rw[q _ (iG (l:=g) (i:=a.toNat) (d:=0) (by omega)),q _ (iG (l:=g) (i:=b.toNat) (d:=0) (by omega))]
  omega
 rw[ah q,ak];refine Int.not_le.1 λw=>q λx hx=>?_;obtain⟨j,hj,e⟩:=iT (z:=(0:Int)).1 hx;have hr:=ho.1 w (j:Int) 0 (h.rt.all _ (by omega) (by omega)) (h.rt.all _ (by omega) (by omega));have:=(h.eq (j:Int) 0 (by omega) (by omega) (by omega) (by omega)).2 hr;rw[cH,e] at this;exact this
end
theorem ad9 {W:List (Int×List Int)}{x:Int}:0<=l9 W x↔∃w∈W,w.1=x:=by
 constructor
 .intro h;have hb:=(QA W x).2;refine⟨W.getD (l9 W x).toNat (0,[]),iG (by omega),?_⟩;unfold l9 zx at h ⊢;split at h
  .rename_i i hi;exact aA (akq.1 hi).1
  omega
 rintro⟨w,hw,e⟩;obtain⟨j,hj,e2⟩:=iT (z:=((0:Int),([]:List Int))).1 hw;obtain⟨k,e3,_⟩:=Qz (N:=W.length) (p:=λi=>decide ((W.getD i (0,[])).1=x)) hj (bB (by rw[e2];exact e));show 0<=zx _ _;rw[e3];omega
theorem aea {W:List (Int×List Int)}{x:Int}(h:0<=l9 W x):(W.getD (l9 W x).toNat (0,[]))∈W/\(W.getD (l9 W x).toNat (0,[])).1=x:=by
 have hb:=(QA W x).2;refine⟨iG (by omega),?_⟩;unfold l9 zx at h ⊢;split at h
 .rename_i i hi;exact aA (akq.1 hi).1
 omega
theorem QE {E:List (Int×Int)}{P:tI}{W:List (Int×List Int)}(hk:(W.map (·.1)).Nodup){w:Int×List Int}:∀ {k:Nat},k<=W.length->w∈W.take k->iA (jL E P W k) w.1=some ((iA (Bo P P.length) (oa E w)).getD 0)
 |0,_,h=>by simp at h
 |k+1,hl,h=>by
  show iA (lD (jL E P W k) (W.getD k (0,[])).1 _) w.1=_;rw[mK (show k<W.length by omega) (0,[])] at h;rw[jT];rcases aK.1 h with q|q
  .obtain⟨j,hj,e⟩:=iT (z:=((0:Int),([]:List Int))).1 q;have hjk:j<k:=by rw[aW] at hj;omega
   rw[aJ,anX hjk,<-aJ] at e;rw[ah]
   .exact QE hk (by omega) q
   intro z;rw[<-e] at z;have hm:∀i,i<W.length->(W.map (·.1)).getD i 0=(W.getD i (0,[])).1:=λi hi=>by rw[aJ,b9,aJ,aY hi];rfl
   have:=mJ (z:=0) hk (i:=k) (j:=j) (by rw[bp];omega) (by rw[bp];omega) (by rw[hm k (by omega),hm j (by omega)];exact z);omega
  rw[av.1 q,ak rfl]
theorem Xg {n:Int}{E:List (Int×Int)}{V L:List Int}{T S:List (List Int)}:AB n E V L T S=th n E V L T S:=by
 by_cases h:(kC n E V L T).2=0
 .by_cases hs:CB n E V L T=true
  .have hf:ox n E V L T=0:=by rw[AA,ah (λq=>q h),ak hs]
   obtain⟨hp,hT,_⟩:=vP h;have hw:=vZ hf;obtain⟨_,_,hW⟩:=oJ hw;have hP:=ug hp;have hkn:=WZ hw;rw[qy h hs rfl,Qv hp,C8 h];have hk:∀x,(iA (jL E (iF n E V L) (iy n E V L T).1 (iy n E V L T).1.length) x).isSome=true↔0<=l9 (iy n E V L T).1 x:=λx=>by rw[Oy (az _),bU,ad9]
   have ho:∀x,(iA (jL E (iF n E V L) (iy n E V L T).1 (iy n E V L T).1.length) x).isSome=true->(iA (jL E (iF n E V L) (iy n E V L T).1 (iy n E V L T).1.length) x).getD 0=owK E (iF n E V L) (iy n E V L T).1 x/\0<=owK E (iF n E V L) (iy n E V L T).1 x/\owK E (iF n E V L) (iy n E V L T).1 x<((iF n E V L).length:Int):=λx hx=>by
    obtain⟨m1,m2⟩:=aea ((hk x).1 hx);obtain⟨o0,o1,o2⟩:=acN hp hP hW m1;obtain⟨i,i1,i2,i3⟩:=Jn hP (yf hp hW m1);have hv:=QE (E:=E) (P:=iF n E V L) hkn (w:=(iy n E V L T).1.getD (l9 (iy n E V L T).1 x).toNat (0,[])) (az _) (by rw[bU];exact m1);rw[m2,i3] at hv;have hu:=hP.uq i (vr E (iF n E V L) ((iy n E V L T).1.getD (l9 (iy n E V L T).1 x).toNat (0,[]))).toNat i1 (by omega) _ i2 o2;refine⟨?_,o0,o1⟩;rw[hv];show(i:Int)=vr _ _ _;omega
   have hr:=Mw (S:=S) hk ho S.length;cases hq:JH (owK E (iF n E V L) (iy n E V L T).1) (iy n E V L T).1 S (iF n E V L).length S.length with
   |none=>
    rw[hq] at hr;rw[oK hf hr];rfl
   |some p=>
    rw[hq] at hr;have⟨z,hz,hg⟩:=hr;rw[v7 hf hz];exact aaR hg
  have TA:CB n E V L T=false:=by simpa using hs
  have hf:ox n E V L T=6:=by rw[AA,ah (λq=>q h),ah hs]
  rw[HJ h TA,tj (by rw[hf];decide),hf]
 have hf:ox n E V L T=(kC n E V L T).2:=by rw[AA,ak h]
 rw[HI h,tj (by rw[hf];exact h),hf]
def SI (n:Int)(E:List (Int×Int))(V L:List Int)(T S:List (List Int)):Int:=if jm n E≠0 then jm n E else AB n E V L T S
section
variable {n:Int}{E:List (Int×Int)}{V L:List Int}{T S:List (List Int)}
theorem aeb:SI n E V L T S=wB n E V L T S:=by
 unfold SI wB;rw[Xg]
 by_cases h:jm n E=0
 .rw[ah (λq=>q h)]
  by_cases k:iM n E V L=0
  .rw[ah (λq=>q k)]
  have e:=HG (T:=T) k;have hf:ox n E V L T=iM n E V L:=by rw[AA,ak (by rw[e];exact k),e]
  rw[ak k,tj (by rw[hf];exact k),hf]
 have e:iM n E V L=jm n E:=ak h;rw[ak h,e,ak h]
end
theorem ag1 (s:ByteArray)(pos:Nat):(aH s pos).2<=4:=by
 simp only[aH]
 repeat' split
 all_goals simp_all [Utf8.runeError]
theorem QF (s:ByteArray):∀(f pos:Nat) (n k:Int),s.size-pos<=f->0<=n->n<=16->lK (pL s pos) n k=true->((s.size-pos:Nat):Int)<=4*(16-n)
 |0,pos,n,k,h,h0,h1,_=>by omega
 |f+1,pos,n,k,h,h0,h1,hn=>by
  by_cases hp:pos<s.size
  .rw[jr s pos hp] at hn;have hw:=mG s pos hp;have h4:=ag1 s pos;have key:∀k',n+1<=16->lK (pL s (pos+(aH s pos).2)) (n+1) k'=true->((s.size-pos:Nat):Int)<=4*(16-n):=λk' q1 q2=>by
    have:=QF s f _ (n+1) k' (by omega) (by omega) q1 q2;omega
   unfold lK at hn;split at hn
   .split at hn
    .cases hn
    split at hn
    .cases hn
    split at hn
    .cases hn
    exact key _ (by omega) hn
   split at hn
   .split at hn
    .cases hn
    split at hn
    .cases hn
    split at hn
    .cases hn
    split at hn
    .cases hn
    exact key _ (by omega) hn
   split at hn
   .split at hn
    .cases hn
    split at hn
    .cases hn
    split at hn
    .cases hn
    exact key _ (by omega) hn
   cases hn
  omega
theorem HK {s:ByteArray}(h:ob s=true):s.size<=64:=by
 have:=QF s s.size 0 0 0 (by omega) (by omega) (by omega) h;omega
section
variable {ow:p9}{S:List (List Int)}{N:Nat}{l:List Int}{s z:S4×p9}
theorem HL {i:Int}:∀ {k:Nat} {z:S4×p9},runK ow l i s k=some z->∀j,0<j->j<k->l.getD (j-1) 0<l.getD j 0
 |0,z,_,j,_,hj=>by omega
 |k+1,z,h,j,h0,hj=>by
  have h:(runK ow l i s k).bind (λy=>uz ow l i y k)=some z:=h;cases hq:runK ow l i s k with
  |none=>rw[hq] at h;cases h
  |some y=>
   by_cases e:j=k
   .subst e;rw[hq] at h;have h:uz ow l i y j=some z:=h;unfold uz at h;split at h
    .cases h
    rename_i q;exact Int.lt_of_not_ge λw=>q (.inr (.inr ⟨h0,w⟩))
   exact HL hq j h0 (by omega)
theorem HM:∀ {i:Nat} {z:S4×p9},qu ow S N i=some z->∀j,j<i->∀k,0<k->k<(S.getD j []).length->(S.getD j []).getD (k-1) 0<(S.getD j []).getD k 0
 |0,z,_,j,hj=>by omega
 |i+1,z,h,j,hj=>by
  have h:(qu ow S N i).bind (λs=>uA ow S s i)=some z:=h;cases hq:qu ow S N i with
  |none=>rw[hq] at h;cases h
  |some y=>
   by_cases e:j=i
   .subst e;rw[hq] at h;have h:uA ow S y j=some z:=h;unfold uA at h;split at h
    .cases h
    exact HL h
   exact HM hq j (by omega)
theorem aaS {l:List Int}(h:∀k,0<k->k<l.length->l.getD (k-1) 0<l.getD k 0):Z5 l:=by
 refine dJ.2 λi j hi hj J2=>?_;have:=Qo (f:=λk=>l.getD k 0) (N:=l.length) h J2 hj;rw[getD_eq hi,getD_eq hj] at this;exact this
end
section
variable {n:Int}{E:List (Int×Int)}{V L:List Int}{T S:List (List Int)}
theorem Xh (h:th n E V L T S=0):S.flatten.Nodup:=by
 obtain⟨_,z,hz,_⟩:=xE h;obtain⟨_,_,m3⟩:=E0 hz;have key:∀k,k<=S.length->(S.take k).flatten.Nodup:=λk=>by
  induction k with
  |zero=>exact λ_=>ajW
  |succ k ih=>
   intro hk;rw[mK (show k<S.length by omega) [],List.flatten_append,ak9,List.flatten_nil,aZ,cY];refine⟨ih (by omega),pZ (aaS (HM hz k (by omega))),λa ha b hb e=>?_⟩;subst e;obtain⟨u,hu,hx⟩:=(sL (by omega)).1 ha;exact m3 u k hu (by omega) a hx hb
 have:=key S.length (az _);rwa[bU] at this
theorem Xi (h:th n E V L T S=0){x:Int}(hx:x∈S.flatten):∃w∈(iy n E V L T).1,w.1=x:=by
 obtain⟨_,z,hz,_⟩:=xE h;obtain⟨_,m2,_⟩:=E0 hz;obtain⟨l,hl,hx⟩:=List.mem_flatten.1 hx;obtain⟨j,hj,rfl⟩:=iT (z:=([]:List Int)).1 hl;have:=(Oy (az _) x).1 (m2 j hj x hx);rwa[bU] at this
theorem Db {l:List Int}{a b:Int}(hn:l.Nodup)(h:∀x∈l,a<=x/\x<b):l.length<=(b-a).toNat:=by
 have:=hn.length_le_of_subset (l₂:=(bH (b-a).toNat).map λi:Nat=>a+(i:Int)) λx hx=>by
  have:=h x hx;exact aV.2 ⟨(x-a).toNat,b5.2 (by omega),by omega⟩
 rwa[bp,akp] at this
theorem Xj (h:th n E V L T S=0):S.flatten.length<=(n+2*(E.length:Int)).toNat:=by
 obtain⟨hp,_,hw⟩:=oJ (vZ (xE h).1);obtain⟨hr,hV,hL,_⟩:=jt hp;have hn0:=(jD hr).1;have:=Db (a:= -n) (b:=2*(E.length:Int)) (Xh h) λx hx=>by
  obtain⟨w,hm,rfl⟩:=Xi h hx;rcases hw.key w hm with⟨_,q⟩|⟨_,q⟩
  .have:=(jf.1 hV).2 _ q;omega
  have:=(jf.1 hL).2 _ q;omega
 rwa[show 2*(E.length:Int)- -n=n+2*(E.length:Int) by omega] at this
theorem SJ (hp:iM n E V L=0)(hT:mN n E L T):(V.flatMap λv=>T.getD v.toNat []).length<=(2*(E.length:Int)).toNat:=by
 obtain⟨_,hV,hL,_⟩:=jt hp;have hVm:=(jf.1 hV).2;have hl:=hT.len;have key:∀l:List Int,l.Nodup->(∀v∈l,0<=v/\v<n)->(l.flatMap λv=>T.getD v.toNat []).Nodup:=λl=>by
  induction l with
  |nil=>exact λ_ _=>ajW
  |cons v l ih=>
   intro hn hm;rw[cE,cY];obtain⟨n1,n2⟩:=ajZ.1 hn;have hv:=hm v aE;refine⟨hT.nd _ (by omega),ih n2 λw hw=>hm w (aI _ hw),λa ha b hb e=>?_⟩;subst e;obtain⟨w,hw,hb⟩:=dG.1 hb;have M0:=hm w (aI _ hw);have e1:=((hT.mem _ (by omega) a).1 ha).2;have e2:=((hT.mem _ (by omega) a).1 hb).2;have:v=w:=by omega
   exact n1 (this▸hw)
 have:=Db (a:=0) (b:=2*(E.length:Int)) (key V (pZ (jf.1 hV).1) hVm) λx hx=>by
  obtain⟨v,hv,hx⟩:=dG.1 hx;have h1:=hVm v hv;have:=(jf.1 hL).2 _ ((hT.mem _ (by omega) x).1 hx).1;omega
 rwa[Int.sub_zero] at this
end
def Xk (ls:List (List ByteArray)):Nat:=(ls.map λws=>(jd ws zo).size+1).sum
theorem Mx:∀(ls:List (List ByteArray)) (q:ByteArray),(mO q ls).size=q.size+Xk ls
 |[],q=>rfl
 |ws::ls,q=>by
  show(mO (wL q ws) ls).size=_;rw[Mx ls,yt];show _=q.size+(((jd ws zo).size+1)+Xk ls);omega
theorem OA (A B:List (List ByteArray)):Xk (A++B)=Xk A+Xk B:=by unfold Xk;rw[cg,List.sum_append]
theorem qX:∀(a:ByteArray) (l:List ByteArray) (N:Nat),(∀x∈l,x.size<=N)->(jd (a::l) zo).size+1<=a.size+1+l.length*(N+1)
 |a,[],N,_=>by rw[join_one];simp
 |a,b::l,N,h=>by
  have h1:=qX b l N λx hx=>h x (aI _ hx);have h2:=h b aE;rw[join_cons,qV,qV];have h3:zo.size=1:=rfl;rw[bf,bS];omega
theorem E5 {α β:Type}{f:α->List (List ByteArray)}{g:α->List β}{c:Nat}:∀ {l:List α},(∀x∈l,Xk (f x)<=c+66*(g x).length)->Xk (l.flatMap f)<=c*l.length+66*(l.flatMap g).length
 |[],_=>az _
 |x::l,h=>by
  have h1:=E5 (l:=l) λy hy=>h y (aI _ hy);have h2:=h x aE;rw[cE,cE,OA,aN,bf,anZ,anZ];omega
theorem Xl {α β:Type}(l:List α):(l.flatMap λ_=>([]:List β))=[]:=by induction l with
 |nil=>rfl
 |cons x l ih=>rw[cE,ih];rfl
theorem E6 {α β:Type}{f g:α->List β}:∀ {l:List α},(∀x∈l,f x=g x)->l.flatMap f=l.flatMap g
 |[],_=>rfl
 |x::l,h=>by rw[cE,cE,h x aE,E6 λy hy=>h y (aI _ hy)]
section
variable {K:Int}{W:List ByteArray}{E:List m8}{V L:List Int}{T S:List (List Int)}
theorem E7 (h:nj K W E V L T S=0):K=0\/K=1:=by
 unfold nj at h;split at h
 .cases h
 clear h;omega
theorem Xm (h:nj K W E V L T S=0):∀j:Nat,j<(tJ W E).length->ob ((tJ W E).getD j b0)=true:=λj hj=>by
 unfold nj at h;split at h
 .cases h
 split at h
 .cases h
 rename_i q;cases e:ob ((tJ W E).getD j b0) with
 |true=>rfl
 |false=>exact absurd ⟨j,hj,e⟩ q
theorem My (h:nj K W E V L T S=0)(hk:K=0):jz K W E V L T S=((((W.length:Int),FV E),((V,L),(T,S))),0)/\wB (W.length:Int) (FV E) V L T S=0:=by
 unfold nj at h;split at h
 .cases h
 split at h
 .cases h
 split at h
 .cases h
 rw[ah (by omega)] at h;split at h
 .rename_i q;exact absurd h q
 rename_i q;have hc:=Bt (ajV.1 q);rw[hc] at h;exact⟨hc,h⟩
theorem AF (h:nj K W E V L T S=0)(hk:K=1):(jE K W E V L T S).2=0/\jm (jE K W E V L T S).1.1.1 (jE K W E V L T S).1.1.2=0/\jm (jE K W E V L T S).1.2.1.1 (jE K W E V L T S).1.2.1.2=0:=by
 unfold nj at h;split at h
 .cases h
 split at h
 .cases h
 split at h
 .cases h
 split at h
 .rename_i q;exact absurd h q
 rename_i q;refine⟨ajV.1 q,?_⟩;unfold rN at h;split at h
 .rename_i z;exact absurd h z
 rename_i z;split at h
 .rename_i y;exact absurd h y
 rename_i y;exact⟨ajV.1 z,ajV.1 y⟩
theorem AG (h:(jE K W E V L T S).2=0):jE K W E V L T S=((((W.length:Int),(Aw E).1),(((W.length:Int),(Aw E).2.1),(Aw E).2.2)),0)/\V.length=0/\L.length=0/\S.length=0/\Wl E:=by
 unfold jE at h ⊢;split at h
 .rename_i q1;rw[ak q1];split at h
  .cases h
  rename_i q2;rw[ah q2];split at h
  .rename_i q3;rw[ak q3];exact⟨rfl,by omega,by omega,by omega,q3⟩
  cases h
 cases h
theorem aaT (E:List m8):∀l∈E,((l.2.1,l.2.2.1)∈(Aw E).1)\/(l.2.1,l.2.2.1)∈(Aw E).2.1:=by
 have key:∀(E:List m8) (z:Av),(∀p∈z.1,p∈(E.foldl mU z).1)/\(∀p∈z.2.1,p∈(E.foldl mU z).2.1)/\∀l∈E,((l.2.1,l.2.2.1)∈(E.foldl mU z).1)\/(l.2.1,l.2.2.1)∈(E.foldl mU z).2.1:=by
  intro E
  induction E with
  |nil=>intro z;exact⟨λ_ h=>h,λ_ h=>h,λ_ h=>by cases h⟩
  |cons l E ih=>
   intro z;obtain⟨a,b,c⟩:=ih (mU z l);have h:(∀p∈z.1,p∈(mU z l).1)/\(∀p∈z.2.1,p∈(mU z l).2.1)/\(((l.2.1,l.2.2.1)∈(mU z l).1)\/(l.2.1,l.2.2.1)∈(mU z l).2.1):=by
    unfold mU;split
    .exact⟨λp hp=>aQ _ hp,λp hp=>aQ _ hp,.inl (bq _ (av.2 rfl))⟩
    split
    .exact⟨λp hp=>aQ _ hp,λp hp=>hp,.inl (bq _ (av.2 rfl))⟩
    exact⟨λp hp=>hp,λp hp=>aQ _ hp,.inr (bq _ (av.2 rfl))⟩
   refine⟨λp hp=>a p (h.1 p hp),λp hp=>b p (h.2.1 p hp),λx hx=>?_⟩;rcases aD.1 hx with rfl|hx
   .rcases h.2.2 with q|q
    .exact .inl (a _ q)
    exact .inr (b _ q)
   exact c x hx
 exact(key E ([],([],[]))).2.2
theorem JJ {n:Int}{A:List (Int×Int)}(h:jm n A=0){p:Int×Int}(hp:p∈A):NY n p:=by
 obtain⟨j,hj,rfl⟩:=iT (z:=((0:Int),(0:Int))).1 hp;exact(jD h).2.2.2 j hj
theorem OB (h:nj K W E V L T S=0):ET W E:=λj hj=>by
 have hm:E.getD j mD∈E:=iG hj;rcases E7 h with hk|hk
 .obtain⟨hc,hh⟩:=My h hk;have uD:(E.getD j mD).2.2.2=0:=by
   have:P8 E:=by
    unfold jz at hc;rw[ak hk] at hc;split at hc
    .assumption
    have q:(1:Int)=0:=aL (·.2) hc;omega
   exact this j (by omega)
  have ho:=JJ (jt (Qq hh).1).1 (p:=((E.getD j mD).2.1,(E.getD j mD).2.2.1)) (aV.2 ⟨_,hm,rfl⟩);exact⟨⟨ho.1,ho.2.1⟩,⟨ho.2.2.1,ho.2.2.2⟩,by omega,by omega⟩
 obtain⟨h1,h2,h3⟩:=AF h hk;obtain⟨hv,_,_,_,hi⟩:=AG h1;rw[hv] at h2 h3;have ho:NY (W.length:Int) ((E.getD j mD).2.1,(E.getD j mD).2.2.1):=by
  rcases aaT E _ hm with q|q
  .exact JJ h2 q
  exact JJ h3 q
 have:=hi j (by omega);exact⟨⟨ho.1,ho.2.1⟩,⟨ho.2.2.1,ho.2.2.2⟩,this.1,this.2⟩
theorem OC (h:nj K W E V L T S=0)(hk:K=0):iM (W.length:Int) (FV E) V L=0/\th (W.length:Int) (FV E) V L T S=0/\mN (W.length:Int) (FV E) L T:=by
 obtain⟨_,hh⟩:=My h hk;obtain⟨h1,h2⟩:=Qq hh;exact⟨h1,h2,(oJ (vZ (xE h2).1)).2.1⟩
theorem AH (E:List m8):(FV E).length=E.length:=by unfold FV;rw[bp]
theorem JK (h:nj K W E V L T S=0)(hk:K=0):EU W E V L T:=by
 obtain⟨h1,_,h3⟩:=OC h hk;obtain⟨_,hV,hL,_⟩:=jt h1;have hl:=h3.len;refine⟨λv hv=>?_,λe he=>?_⟩
 .have:=(jf.1 hV).2 v hv;omega
 have:=(jf.1 hL).2 e he;rw[AH] at this;exact this
theorem Xn (h:nj K W E V L T S=0)(hk:K=0){v:Int}(hv:v∈V):hE E L v=sn T v:=by
 obtain⟨h1,_,h3⟩:=OC h hk;obtain⟨Of,Tx⟩:=JK h hk;obtain⟨v0,v1,v2⟩:=Of v hv;unfold hE sn;refine decide_eq_decide.2 ⟨λhm=>?_,λhn=>?_⟩
 .obtain⟨e,he,hx⟩:=dG.1 hm;obtain⟨e0,e1⟩:=Tx e he;have hg:(FV E).getD e.toNat (0,0)=((E.getD e.toNat mD).2.1,(E.getD e.toNat mD).2.2.1):=by
   rw[getD_eq (by rw[AH];omega),getD_eq (by omega)];unfold FV;rw[amC]
  have hd:∃d,d∈T.getD v.toNat []:=by
   rcases aD.1 hx with q|q
   .refine⟨2*e,(h3.mem _ (by omega) _).2 ⟨show 2*e/2∈L by rw[show 2*e/2=e by omega];exact he,?_⟩⟩;unfold iC;rw[ak (by omega),show 2*e/2=e by omega,hg];show(E.getD e.toNat mD).2.1=_;omega
   have q:=av.1 q;refine⟨2*e+1,(h3.mem _ (by omega) _).2 ⟨show(2*e+1)/2∈L by rw[show(2*e+1)/2=e by omega];exact he,?_⟩⟩;unfold iC;rw[ah (by omega),show(2*e+1)/2=e by omega,hg];show(E.getD e.toNat mD).2.2.1=_;omega
  have⟨d,hd⟩:=hd;intro z;rw[akM.1 z] at hd;cases hd
 obtain⟨d,hd⟩:=List.exists_mem_of_length_pos (alx hn);obtain⟨d1,d2⟩:=(h3.mem _ (by omega) d).1 hd;have he:d/2∈L:=d1;obtain⟨e0,e1⟩:=Tx _ he;have hg:(FV E).getD (d/2).toNat (0,0)=((E.getD (d/2).toNat mD).2.1,(E.getD (d/2).toNat mD).2.2.1):=by
  rw[getD_eq (by rw[AH];omega),getD_eq (by omega)];unfold FV;rw[amC]
 refine dG.2 ⟨d/2,he,?_⟩;unfold iC at d2;rw[hg] at d2;split at d2
 .have d2:(E.getD (d/2).toNat mD).2.1=_:=d2;exact aD.2 (.inl (by omega))
 have d2:(E.getD (d/2).toNat mD).2.2.1=_:=d2;exact aD.2 (.inr (av.2 (by omega)))
theorem aaU (h:nj K W E V L T S=0)(hk:K=0):yD W E V L T S (hE E L)=yD W E V L T S (sn T):=by
 unfold yD;rw[E6 (f:=fW W (hE E L)) (g:=fW W (sn T)) λv hv=>by unfold fW;rw[Xn h hk hv],E6 (f:=fA W E T (hE E L)) (g:=fA W E T (sn T)) λv hv=>by unfold fA;rw[Xn h hk hv]]
theorem QG (h:nj K W E V L T S=0):J8 K W E V L T S (sn T)=Ol K W E V L T S (hE E L):=by
 rcases E7 h with hk|hk
 .rw[aax hk];unfold J8;rw[aaU h hk]
 obtain⟨_,h1,h2,h3,_⟩:=AG (AF h hk).1;rw[aay (by omega)];unfold J8 yD;rw[akM.1 h1,akM.1 h2,akM.1 h3];simp
theorem aaV (h:nj K W E V L T S=0):∀j:Nat,j<W.length->(W.getD j b0).size<=64:=λj hj=>by
 have:=Xm h j (by simp[tJ];omega);rw[show(tJ W E).getD j b0=W.getD j b0 by simp[tJ,aJ,cO hj]] at this;exact HK this
theorem aaW (h:nj K W E V L T S=0):∀j:Nat,j<E.length->(E.getD j mD).1.size<=64:=λj hj=>by
 have:=Xm h (W.length+j) (by simp[tJ];omega);rw[show(tJ W E).getD (W.length+j) b0=(E.getD j mD).1 by simp[tJ,aJ,cP,hj]] at this;exact HK this
theorem aec {S:List (List Int)}(h:∀l∈S,2<=l.length):S.length<=S.flatten.length:=by
 induction S with
 |nil=>exact az _
 |cons l S ih=>
  have h1:=ih λx hx=>h x (aI _ hx);have h2:=h l aE;rw[ak9,aN,bf];omega
theorem zy (ws:List ByteArray):Xk [ws]=(jd ws zo).size+1:=by unfold Xk;simp
theorem AI (h:nj K W E V L T S=0)(hW:W.length<=40)(hE':E.length<=40):(mO b0 (Ol K W E V L T S (hE E L))).size<=65536:=by
 have sW:=aaV h;have sE:=aaW h;have sg:∀x:Int,(W.getD x.toNat b0).size<=64:=λx=>by
  by_cases q:x.toNat<W.length
  .exact sW _ q
  rw[aJ,dF (by omega)];exact bF _
 have eg:∀x:Int,(E.getD x.toNat mD).1.size<=64:=λx=>by
  by_cases q:x.toNat<E.length
  .exact sE _ q
  rw[aJ,dF (by omega)];exact bF _
 have w0:Xk (kL K)=5:=by
  unfold kL;rw[zy,join_one];split<;>rfl
 have w1:=E5 (f:=fV) (g:=λ_=>([]:List Int)) (c:=72) (l:=W) λv hv=>by
  unfold fV;rw[zy];have hs:v.size<=64:=by obtain⟨j,hj,rfl⟩:=iT (z:=b0).1 hv;exact sW j hj
  have:=qX HA [v] 64 λx hx=>by rw[av.1 hx];exact hs
  have e:HA.size=6:=rfl;rw[cz] at this;simp only[bP];omega
 have w2:=E5 (f:=fE W) (g:=λ_=>([]:List Int)) (c:=202) (l:=E) λe he=>by
  unfold fE;rw[zy];have hs:e.1.size<=64:=by obtain⟨j,hj,rfl⟩:=iT (z:=mD).1 he;exact sE j hj
  have:=qX (kE e.2.2.2) [e.1,W.getD e.2.1.toNat b0,W.getD e.2.2.1.toNat b0] 64 λx hx=>by
   simp only[aD,ako,or_false] at hx;rcases hx with rfl|rfl|rfl
   .exact hs
   .exact sg _
   exact sg _
  have ek:(kE e.2.2.2).size<=6:=by unfold kE;split;decide;split<;>decide
  simp only[bf,bP] at this ⊢;omega
 rw[Xl,bP] at w1 w2;rw[Mx];have hb:b0.size=0:=rfl;rcases E7 h with hk|hk
 .obtain⟨hp,VE,hT⟩:=OC h hk;obtain⟨hr,hV,hL,_⟩:=jt hp;have c1:L.length<=40:=by
   have:=Db (a:=0) (pZ (jf.1 hL).1) (jf.1 hL).2;rw[AH] at this;omega
  have c2:V.length<=40:=by
   have:=Db (a:=0) (pZ (jf.1 hV).1) (jf.1 hV).2;omega
  have c3:=Xj VE;have c4:=SJ hp hT;rw[AH] at c3 c4;have c5:S.length<=S.flatten.length:=aec λl hl=>by
   obtain⟨_,z,hz,_⟩:=xE VE;obtain⟨j,hj,rfl⟩:=iT (z:=([]:List Int)).1 hl;exact EH hz j hj
  have w3:=E5 (f:=fH E) (g:=λ_=>([]:List Int)) (c:=70) (l:=L) λe _=>by
   unfold fH;rw[zy];have:=qX wD [(E.getD e.toNat mD).1] 64 λx hx=>by rw[av.1 hx];exact eg _
   have e4:wD.size=4:=rfl;rw[cz] at this;simp only[bP];omega
  have w4:=E5 (f:=fW W (hE E L)) (g:=λ_=>([]:List Int)) (c:=70) (l:=V) λv _=>by
   unfold fW;split
   .exact bF _
   rw[zy];have:=qX wD [W.getD v.toNat b0] 64 λx hx=>by rw[av.1 hx];exact sg _
   have e4:wD.size=4:=rfl;rw[cz] at this;simp only[bP];omega
  have w5:=E5 (f:=fA W E T (hE E L)) (g:=λv=>T.getD v.toNat []) (c:=73) (l:=V) λv _=>by
   unfold fA;split
   .rw[zy];have:=qX wAr (W.getD v.toNat b0::(iK (T.getD v.toNat [])).map (rq W E)) 65 λx hx=>by
     rcases aD.1 hx with rfl|hx
     .exact alJ (sg _)
     obtain⟨d,_,rfl⟩:=aV.1 hx;exact C7 sW sE d
    have e6:wAr.size=6:=rfl;rw[bf,bp,kJ,bS] at this;omega
   exact bF _
  have w6:=E5 (f:=fR W E) (g:=λl=>l) (c:=7) (l:=S) λl _=>by
   unfold fR;rw[zy];have:=qX wRg (l.map (rq W E)) 65 λx hx=>by obtain⟨d,_,rfl⟩:=aV.1 hx;exact C7 sW sE d
   have e6:wRg.size=6:=rfl;rw[bp] at this;omega
  rw[Xl,bP] at w3 w4;have e6:(S.flatMap λl=>l)=S.flatten:=by rw[List.flatMap_def,List.map_id']
  rw[e6] at w6;rw[aax hk];unfold yD;simp only[OA];omega
 rw[aay (by omega)];simp only[OA];omega
end
theorem nI (s:ByteArray)(pos k:Nat):jk s ((pos:Int)+(k:Int))=((s.get! (pos+k)).toNat:Int):=by
 unfold jk;rw[show((pos:Int)+(k:Int)).toNat=pos+k by omega];rfl
def qE (b0 b1 b2 b3:Nat)(s1 s2 s3:Prop)[Decidable s1][Decidable s2][Decidable s3]:Nat×Nat:=
 if b0<128 then(b0,1)
 else if b0/32=6/\s1/\b1/64=2 then
  (if 128<=b0%32*64+b1%64 then(b0%32*64+b1%64,2) else(65533,1))
 else if(b0/16=14/\s1/\b1/64=2)/\s2/\b2/64=2 then
  (if 2048<=b0%16*4096+b1%64*64+b2%64/\amF ((b0%16*4096+b1%64*64+b2%64:Nat):Int)=true then(b0%16*4096+b1%64*64+b2%64,3) else(65533,1))
 else if((b0/8=30/\s1/\b1/64=2)/\s2/\b2/64=2)/\s3/\b3/64=2 then
  (if 65536<=b0%8*262144+b1%64*4096+b2%64*64+b3%64/\amF ((b0%8*262144+b1%64*4096+b2%64*64+b3%64:Nat):Int)=true then(b0%8*262144+b1%64*4096+b2%64*64+b3%64,4) else(65533,1))
 else(65533,1)
theorem oL {α:Type}{b:Bool}{p:Prop}[Decidable p]{x y x' y':α}(h:b=true↔p)(hx:x=x')(hy:y=y'):(if b=true then x else y)=(if p then x' else y'):=by
 subst hx;subst hy
 by_cases hp:p
 .rw[ak hp,ak (h.2 hp)]
 rw[ah hp,ah (λe=>hp (h.1 e))]
theorem sM (s:ByteArray)(pos:Nat):aH s pos=qE (s.get! (pos+0)).toNat (s.get! (pos+1)).toNat (s.get! (pos+2)).toNat (s.get! (pos+3)).toNat (pos+1<s.size) (pos+2<s.size) (pos+3<s.size):=by
 unfold Utf8.decode qE;refine ite_congr rfl (λ_=>rfl) λ_=>?_;refine oL (by simp only[aR,beq_iff_eq,decide_eq_true_eq]) rfl ?_;refine oL (by simp only[aR,beq_iff_eq,decide_eq_true_eq]) (oL (by simp only[aR,decide_eq_true_eq,ge_iff_le]) rfl rfl) ?_;exact oL (by simp only[aR,beq_iff_eq,decide_eq_true_eq]) (oL (by simp only[aR,decide_eq_true_eq,ge_iff_le]) rfl rfl) rfl
theorem BD (n:Nat):amF (n:Int)=true↔n<55296\/(57344<=n/\n<=1114111):=by
 unfold Utf8.valid;simp only[dQ,aR,decide_eq_true_eq];omega
def JL (b0 b1 b2 b3:Int)(left:Int):Int×Int:=
 if b0<128 then(b0,1) else
 match xB b0 with
 |none=>(-1,1)
 |some (n,c,least)=>if left<=n then(-1,1) else
  Ju n least (if b1<128\/191<b1 then none else if n=1 then some (c*64+b1-128) else if b2<128\/191<b2 then none else if n=2 then some ((c*64+b1-128)*64+b2-128) else if b3<128\/191<b3 then none else some (((c*64+b1-128)*64+b2-128)*64+b3-128))
theorem Xo (s:ByteArray)(a:Int):jY s a=JL (jk s a) (jk s (a+1)) (jk s (a+2)) (jk s (a+3)) ((s.size:Int)-a):=by
 unfold jY JL;split
 .rfl
 split
 .rename_i h;rw[h]
 rename_i n c l h;rw[h];simp only;split
 .rfl
 congr 1
 have hb:=tE s a;obtain⟨h1,h2,_⟩:=zn h hb.2;have:n=1\/n=2\/n=3:=by omega
 rcases this with rfl|rfl|rfl
 .rw[show(1:Int).toNat=0+1 from rfl];simp only[wC,if_true]
 .rw[show(2:Int).toNat=0+1+1 from rfl];simp only[wC,if_true,show((2:Int)=1)=False from by simp,if_false,show a+(1+1)=a+2 from by omega]
 rw[show(3:Int).toNat=0+1+1+1 from rfl];simp only[wC,if_true,show((3:Int)=1)=False from by simp,show((3:Int)=2)=False from by simp,if_false,show a+(1+1)=a+2 from by omega,show a+(1+1+1)=a+3 from by omega]
def Agree (r:Int×Int)(d:Nat×Nat):Prop:=r.2=(d.2:Int)/\(r.1=(d.1:Int)\/(r.1= -1/\d.1=65533))
theorem l6:Agree (-1,1) (65533,1):=⟨rfl,.inr ⟨rfl,rfl⟩⟩
theorem aed (b0 b1 b2 b3:Nat)(left:Int)(s1 s2 s3:Prop)[Decidable s1][Decidable s2][Decidable s3](l0:b0<256)(l1:b1<256)(l2:b2<256)(l3:b3<256)(h1:s1↔1<left)(h2:s2↔2<left)(h3:s3↔3<left):
  Agree (JL b0 b1 b2 b3 left) (qE b0 b1 b2 b3 s1 s2 s3):=by
 have key:∀(r:Int×Int) (d:Nat×Nat),JL b0 b1 b2 b3 left=r->qE b0 b1 b2 b3 s1 s2 s3=d->Agree r d->Agree (JL b0 b1 b2 b3 left) (qE b0 b1 b2 b3 s1 s2 s3):=by
  rintro r d rfl rfl h;exact h
 have dn:∀ {d:Nat×Nat},d=(65533,1)->JL b0 b1 b2 b3 left=(-1,1)->qE b0 b1 b2 b3 s1 s2 s3=d->Agree (JL b0 b1 b2 b3 left) (qE b0 b1 b2 b3 s1 s2 s3):=by
  rintro d rfl h1 h2;exact key _ _ h1 h2 l6
 by_cases c0:b0<128
 .exact key (b0,1) (b0,1) (by unfold JL;rw[ak (by omega)]) (by unfold qE;rw[ak c0]) ⟨rfl,.inl rfl⟩
 unfold JL qE xB;rw[ah (show ¬((b0:Int)<128) by omega),ah c0];clear dn key
 by_cases d1:194<=b0/\b0<224
 .rw[ak (show(194:Int)<=b0/\(b0:Int)<224 by omega)];simp only
  by_cases hs:s1/\b1/64=2
  .have hl:=h1.1 hs.1;rw[ak (show b0/32=6/\s1/\b1/64=2 from⟨by omega,hs⟩),ak (show 128<=b0%32*64+b1%64 by omega),ah (show ¬left<=1 by omega),ah (show ¬((b1:Int)<128\/191<(b1:Int)) by omega),ak tv];unfold Ju;simp only;rw[ah (by omega)];exact⟨rfl,.inl (by simp only;omega)⟩
  rw[ah (show ¬(b0/32=6/\s1/\b1/64=2) from λq=>hs q.2),ah (show ¬((b0/16=14/\s1/\b1/64=2)/\s2/\b2/64=2) from λq=>hs q.1.2),ah (show ¬(((b0/8=30/\s1/\b1/64=2)/\s2/\b2/64=2)/\s3/\b3/64=2) from λq=>hs q.1.1.2)]
  by_cases hl:left<=1
  .rw[ak hl];exact l6
  have ZV:=h1.2 (by omega);rw[ah hl,ak (show(b1:Int)<128\/191<(b1:Int) by have:¬b1/64=2:=λq=>hs ⟨ZV,q⟩;omega)];exact l6
 rw[ah (show ¬((194:Int)<=b0/\(b0:Int)<224) by omega)]
 by_cases d1':b0/32=6/\s1/\b1/64=2
 .rw[ak d1',ah (by omega),ah (by omega),ah (by omega)];exact l6
 rw[ah d1']
 by_cases d2:224<=b0/\b0<240
 .rw[ak (show(224:Int)<=b0/\(b0:Int)<240 by omega)];simp only
  by_cases hs:(s1/\b1/64=2)/\s2/\b2/64=2
  .have hl:=h2.1 hs.2.1;rw[ak (show(b0/16=14/\s1/\b1/64=2)/\s2/\b2/64=2 from⟨⟨by omega,hs.1⟩,hs.2⟩),ah (show ¬left<=2 by omega),ah (show ¬((b1:Int)<128\/191<(b1:Int)) by omega),ah (show ¬((2:Int)=1) by decide),ah (show ¬((b2:Int)<128\/191<(b2:Int)) by omega),ak tv];unfold Ju;simp only[BD]
   by_cases hv:2048<=b0%16*4096+b1%64*64+b2%64/\¬(55296<=b0%16*4096+b1%64*64+b2%64/\b0%16*4096+b1%64*64+b2%64<=57343)
   .rw[ah (by omega),ak (by omega)];exact⟨rfl,.inl (by simp only;omega)⟩
   rw[ak (by omega),ah (by omega)];exact l6
  rw[ah (show ¬((b0/16=14/\s1/\b1/64=2)/\s2/\b2/64=2) from λq=>hs ⟨q.1.2,q.2⟩),ah (show ¬(((b0/8=30/\s1/\b1/64=2)/\s2/\b2/64=2)/\s3/\b3/64=2) from λq=>hs ⟨q.1.1.2,q.1.2⟩)]
  by_cases hl:left<=2
  .rw[ak hl];exact l6
  have ZV:=h1.2 (by omega);have TA:=h2.2 (by omega);rw[ah hl]
  by_cases q:b1/64=2
  .have q2:¬b2/64=2:=λz=>hs ⟨⟨ZV,q⟩,TA,z⟩;rw[ah (by omega),ah (by decide),ak (by omega)];exact l6
  rw[ak (by omega)];exact l6
 rw[ah (show ¬((224:Int)<=b0/\(b0:Int)<240) by omega),ah (show ¬((b0/16=14/\s1/\b1/64=2)/\s2/\b2/64=2) by omega)]
 by_cases d3:240<=b0/\b0<245
 .rw[ak (show(240:Int)<=b0/\(b0:Int)<245 by omega)];simp only
  by_cases hs:((s1/\b1/64=2)/\s2/\b2/64=2)/\s3/\b3/64=2
  .have hl:=h3.1 hs.2.1;rw[ak (show((b0/8=30/\s1/\b1/64=2)/\s2/\b2/64=2)/\s3/\b3/64=2 from⟨⟨⟨by omega,hs.1.1⟩,hs.1.2⟩,hs.2⟩),ah (show ¬left<=3 by omega),ah (show ¬((b1:Int)<128\/191<(b1:Int)) by omega),ah (show ¬((3:Int)=1) by decide),ah (show ¬((b2:Int)<128\/191<(b2:Int)) by omega),ah (show ¬((3:Int)=2) by decide),ah (show ¬((b3:Int)<128\/191<(b3:Int)) by omega)];unfold Ju;simp only[BD]
   by_cases hv:65536<=b0%8*262144+b1%64*4096+b2%64*64+b3%64/\b0%8*262144+b1%64*4096+b2%64*64+b3%64<=1114111
   .rw[ah (by omega),ak (by omega)];exact⟨rfl,.inl (by simp only;omega)⟩
   rw[ak (by omega),ah (by omega)];exact l6
  rw[ah (show ¬(((b0/8=30/\s1/\b1/64=2)/\s2/\b2/64=2)/\s3/\b3/64=2) from λq=>hs ⟨⟨q.1.1.2,q.1.2⟩,q.2⟩)]
  by_cases hl:left<=3
  .rw[ak hl];exact l6
  have ZV:=h1.2 (by omega);have TA:=h2.2 (by omega);have hs3:=h3.2 (by omega);rw[ah hl]
  by_cases q:b1/64=2
  .rw[ah (by omega),ah (by decide)]
   by_cases q2:b2/64=2
   .have q3:¬b3/64=2:=λz=>hs ⟨⟨⟨ZV,q⟩,TA,q2⟩,hs3,z⟩;rw[ah (by omega),ah (by decide),ak (by omega)];exact l6
   rw[ak (by omega)];exact l6
  rw[ak (by omega)];exact l6
 rw[ah (show ¬((240:Int)<=b0/\(b0:Int)<245) by omega)];simp only[BD]
 by_cases hs:((b0/8=30/\s1/\b1/64=2)/\s2/\b2/64=2)/\s3/\b3/64=2
 .rw[ak hs,ah (by omega)];exact l6
 rw[ah hs];exact l6
theorem sH (s:ByteArray)(pos:Nat):Agree (jY s pos) (aH s pos):=by
 rw[Xo,sM];have e0:=nI s pos 0;have e1:=nI s pos 1;have e2:=nI s pos 2;have e3:=nI s pos 3;rw[show(pos:Int)=(pos:Int)+((0:Nat):Int) by simp,e0];simp only[Int.natCast_zero,Int.add_zero];rw[show(pos:Int)+1=(pos:Int)+((1:Nat):Int) from rfl,e1,show(pos:Int)+2=(pos:Int)+((2:Nat):Int) from rfl,e2,show(pos:Int)+3=(pos:Int)+((3:Nat):Int) from rfl,e3];exact aed _ _ _ _ _ _ _ _ (alQ _) (alQ _) (alQ _) (alQ _) (by omega) (by omega) (by omega)
theorem QH (s:ByteArray)(a:Int):1<=(jY s a).2/\(jY s a).2<=4:=by
 unfold jY;split
 .simp
 split
 .simp
 rename_i n c l h;obtain⟨h1,h2,_⟩:=zn h (tE s a).2;split
 .simp
 unfold Ju;split
 .simp
 split
 .simp
 simp only;omega
def rcl (s:ByteArray)(p:Nat×Int):Int:=if(jY s p.1).1<0 then 9 else cls (jY s p.1).1
def iL (s:ByteArray):List Int:=(pL s 0).map (rcl s)
theorem JM {s:ByteArray}{p:Nat}{r:Int}(h:(jY s p).1<0):rcl s (p,r)=9:=ak h
theorem JN {s:ByteArray}{p:Nat}{r:Int}(h:¬(jY s p).1<0):rcl s (p,r)=cls (jY s p).1:=ah h
theorem HN (s:ByteArray):∀(f pos:Nat),(tC s f pos).length<=f
 |0,_=>by simp[tC]
 |f+1,pos=>by
  unfold tC;split
  .simp only[bf];have:=HN s f (pos+(aH s pos).2);omega
  simp
theorem JO (s:ByteArray):(iL s).length<=s.size:=by
 unfold iL pL;rw[bp];exact bg (HN s _ _) (by omega)
def l8 (l:List Int):Nat->Nat
 |0=>0
 |n+1=>if l.getD n 0=3 then l8 l n else n+1
def okN (l:List Int)(n:Nat):Prop:=∀j,j<n->(l.getD j 0=1\/l.getD j 0=2)
instance (l:List Int) (n:Nat):Decidable (okN l n):=by unfold okN;infer_instance
def rS (l:List Int):Bool:=
 if l.length<1\/16<l.length\/l.getD 0 0≠1 then false
 else if 3<l.length-l8 l l.length then false else decide (okN l (l8 l l.length))
theorem BF (l:List Int):∀n,l8 l n<=n
 |0=>az _
 |n+1=>by unfold l8;split;exact alJ (BF l n);exact az _
theorem OD {l:List Int}{n:Int}(h0:0<n)(h:l.getD (n-1).toNat 0=3):l8 l n.toNat=l8 l (n-1).toNat:=by
 obtain⟨m,rfl⟩:∃m:Nat,n=(m:Int)+1:=⟨(n-1).toNat,by omega⟩;rw[show((m:Int)+1-1).toNat=m by omega] at h ⊢;rw[show((m:Int)+1).toNat=m+1 by omega];rw[l8,ak h]
theorem OE {l:List Int}{n:Int}(h:¬0<n\/¬l.getD (n-1).toNat 0=3):l8 l n.toNat=n.toNat:=by
 by_cases h0:0<n
 .obtain⟨m,rfl⟩:∃m:Nat,n=(m:Int)+1:=⟨(n-1).toNat,by omega⟩;rw[show((m:Int)+1-1).toNat=m by omega] at h;rw[show((m:Int)+1).toNat=m+1 by omega,l8,ah (h.resolve_left (λq=>q h0))]
 rw[show n.toNat=0 by omega];rfl
theorem SK {l:List Int}(h:((l.length:Int)<1\/16<(l.length:Int))\/¬l.getD (0:Int).toNat 0=1):false=rS l:=by
 unfold rS;rw[ak];rcases h with(h|h)|h
 .exact .inl (by omega)
 .exact .inr (.inl (by omega))
 exact .inr (.inr h)
theorem SL {l:List Int}{n:Int}(h:(¬(l.length:Int)<1/\¬16<(l.length:Int))/\l.getD (0:Int).toNat 0=1)(hn:0<=n)(h1:l8 l n.toNat=l8 l l.length)(h2:l8 l n.toNat=n.toNat):
  rS l=if 3<(l.length:Int)-n then false else decide (okN l n.toNat):=by
 unfold rS;have hl:=BF l l.length;rw[ah (by rintro(q|q|q);omega;omega;exact q h.2),<-h1,h2]
 by_cases c:3<(l.length:Int)-n
 .rw[ak c,ak (by omega)]
 rw[ah c,ah (by omega)]
def aiA (s:ByteArray):Nat->Nat->Int->Int
 |0,_,n=>n
 |f+1,i,n=>if jk s i<48\/57<jk s i then -1 else aiA s f (i+1) (n*10+jk s i-48)
def BG (r:Int):Prop:=¬(r<0\/r=65533\/(cls r=0/\r≠10/\(r<43\/47<r)/\r≠58/\r≠124))
instance (r:Int):Decidable (BG r):=by unfold BG;infer_instance
def aaX (s:ByteArray):List (Nat×Int)->Int
 |[]=> -1
 |(p,_)::l=>if BG (jY s p).1 then aaX s l else(p:Int)
def Xp (s:ByteArray):Int:=aaX s (pL s 0)
def QI (s:ByteArray):Nat->Nat->Int->List (Int×Int)
 |0,_,from_=>if from_<(s.size:Int) then[(from_,(s.size:Int))] else[]
 |f+1,i,from_=>if jk s i=10 then(from_,(i:Int))::QI s f (i+1) ((i:Int)+1) else QI s f (i+1) from_
def aee (s:ByteArray):List (Int×Int):=QI s s.size 0 0
theorem Tryz.ag2:Dh aq 104 135 (Data.size (Int×ByteArray)) 24:=O4 (z:=.agg #[.int .i64 0,.string ⟨#[]⟩]) Tryz.underlying104 (by kernel_rfl) rfl (by decide)
theorem Tryz.E24:Dh aq 24 3 (Data.size Int) 8:=O4 (z:=.int .i64 0) Tryz.underlying24 (by kernel_rfl) rfl (by decide)
theorem OG (r:Int)(w:aa):
 Calls aq 83 [.int .i32 r].toArray w (MU (.bool (Jt r)) w):=by
 refine enter f83 44 func83 λa hA=>?_;replace hA:=jN [(0,.int .i32 r)] hA;have H:=Fr.start (rU w);refine iz λK1 jZ=>?_;refine iE [(0,.int .i32 r)] hA H λa w2 hA H hG=>?_;refine jZ _ _ ?_;refine iz λK3 rV=>?_;refine lq 0 ?_;refine iz λK4 E8=>?_;refine iz λK5 OH=>?_;refine iE [(0,.int .i32 r),(3,.bool ((decide ((97:Int)<=r)) && (decide (r<=122))))] hA H λa w6 hA H hG=>?_;refine OH _ _ ?_;refine iY hA (.tmp 3) ((decide ((97:Int)<=r)) && (decide (r<=122))) (λhb7=>?_) (λhb7=>?_)
 .have aiB:=(⟨aA ((aT hb7).1),aA ((aT hb7).2)⟩:_/\_);refine go_skip ?_;refine E8 _ _ ?_;refine iY hA (.tmp 3) ((decide ((97:Int)<=r)) && (decide (r<=122))) (λ_=>?_) (λh=>absurd (h.symm.trans hb7) (by decide));refine iz λK9 hK9=>?_;refine iE [(2,.bool true)] hA H λa w10 hA H hG=>?_;refine hK9 _ _ ?_;refine jy ?_;refine j9 2 (.bool true) hA ?_;exact qJ (by rw[aj5,tB];unfold sF;simp<;>omega) H.below
 have aiB:=(aF hb7).imp (λh=>aG h) (λh=>aG h);refine iE [(0,.int .i32 r),(3,.bool ((decide ((65:Int)<=r)) && (decide (r<=90))))] hA H λa w11 hA H hG=>?_;refine E8 _ _ ?_;refine iY hA (.tmp 3) ((decide ((65:Int)<=r)) && (decide (r<=90))) (λJP=>?_) (λJP=>?_)
 .have Xq:=(⟨aA ((aT JP).1),aA ((aT JP).2)⟩:_/\_);refine iz λK13 aef=>?_;refine iE [(2,.bool true)] hA H λa w14 hA H hG=>?_;refine aef _ _ ?_;refine jy ?_;refine j9 2 (.bool true) hA ?_;exact qJ (by rw[aj5,tB];unfold sF;simp<;>omega) H.below
 have Xq:=(aF JP).imp (λh=>aG h) (λh=>aG h);refine iz λK15 Xr=>?_;refine iE [(0,.int .i32 r),(16,.bool ((decide ((192:Int)<=r)) && (decide (r<=591))))] hA H λa w16 hA H hG=>?_;refine Xr _ _ ?_;refine iY hA (.tmp 16) ((decide ((192:Int)<=r)) && (decide (r<=591))) (λJQ=>?_) (λJQ=>?_)
 .have Xs:=(⟨aA ((aT JQ).1),aA ((aT JQ).2)⟩:_/\_);refine iz λK18 E9=>?_;refine iE [(2,.bool ((!decide (r=215)) && (!decide (r=247))))] hA H λa w19 hA H hG=>?_;refine E9 _ _ ?_;refine jy ?_;refine j9 2 (.bool ((!decide (r=215)) && (!decide (r=247)))) hA ?_;exact qJ (by rw[aj5,tB];unfold sF;simp<;>omega) H.below
 have Xs:=(aF JQ).imp (λh=>aG h) (λh=>aG h);refine iz λK20 Xt=>?_;refine iE [(0,.int .i32 r),(29,.bool ((decide ((913:Int)<=r)) && (decide (r<=969))))] hA H λa w21 hA H hG=>?_;refine Xt _ _ ?_;refine iY hA (.tmp 29) ((decide ((913:Int)<=r)) && (decide (r<=969))) (λJR=>?_) (λJR=>?_)
 .have Xu:=(⟨aA ((aT JR).1),aA ((aT JR).2)⟩:_/\_);refine iz λK23 Mz=>?_;refine iE [(2,.bool (!decide (r=930)))] hA H λa w24 hA H hG=>?_;refine Mz _ _ ?_;refine jy ?_;refine j9 2 (.bool (!decide (r=930))) hA ?_;exact qJ (by rw[aj5,tB];unfold sF;simp<;>omega) H.below
 have Xu:=(aF JR).imp (λh=>aG h) (λh=>aG h);refine go_skip ?_;refine rV _ _ ?_;refine iz λK25 Fa=>?_;refine iE [(2,.bool ((decide ((1040:Int)<=r)) && (decide (r<=1103))))] hA H λa w26 hA H hG=>?_;refine Fa _ _ ?_;refine jy ?_;refine j9 2 (.bool ((decide ((1040:Int)<=r)) && (decide (r<=1103)))) hA ?_;exact qJ (by rw[aj5,tB];unfold sF;simp<;>omega) H.below
theorem Xv (r:Int)(w:aa):
 Calls aq 56 [.int .i32 r].toArray w (MU (.bool (Ay r)) w):=by
 refine enter f56 21 func56 λa hA=>?_;replace hA:=jN [(0,.int .i32 r)] hA;have H:=Fr.start (rU w);refine iz λK1 jZ=>?_;refine iE [(0,.int .i32 r)] hA H λa w2 hA H hG=>?_;refine jZ _ _ ?_;refine iz λK3 rV=>?_;refine iE [(2,.bool ((((decide (r=10))||((decide ((43:Int)<=r)) && (decide (r<=47))))||(decide (r=58)))||(decide (r=124))))] hA H λa w4 hA H hG=>?_;refine rV _ _ ?_;refine jy ?_;refine j9 2 (.bool ((((decide (r=10))||((decide ((43:Int)<=r)) && (decide (r<=47))))||(decide (r=58)))||(decide (r=124)))) hA ?_;exact qJ (by unfold Ay;rw[aj5];simp<;>omega) H.below
theorem BH (r:Int)(w:aa):
 Calls aq 55 [.int .i32 r].toArray w (MU (.int .i64 (cls r)) w):=by
 refine enter f55 25 func55 λa hA=>?_;replace hA:=jN [(0,.int .i32 r)] hA;have H:=Fr.start (rU w);refine iz λK1 jZ=>?_;refine iE [(0,.int .i32 r)] hA H λa w2 hA H hG=>?_;refine jZ _ _ ?_;refine iz λK3 rV=>?_;refine lq 0 ?_;refine iz λK4 E8=>?_;refine iE [(0,.int .i32 r),(3,.bool (decide (r=32)))] hA H λa w5 hA H hG=>?_;refine E8 _ _ ?_;refine iY hA (.tmp 3) (decide (r=32)) (λXw=>?_) (λXw=>?_)
 .have aeg:=aA Xw;refine iz λK7 TB=>?_;refine iE [(2,iv 4)] hA H λa w8 hA H hG=>?_;refine TB _ _ ?_;refine jy ?_;refine j9 2 (.int .i64 4) hA ?_;exact xA (by unfold cls sF;(repeat' split)<;>omega) H.below
 have aeg:=aG Xw;refine iz λK9 hK9=>?_;refine iE [(0,.int .i32 r),(6,.bool ((decide ((48:Int)<=r)) && (decide (r<=57))))] hA H λa w10 hA H hG=>?_;refine hK9 _ _ ?_;refine iY hA (.tmp 6) ((decide ((48:Int)<=r)) && (decide (r<=57))) (λaaY=>?_) (λaaY=>?_)
 .have ag3:=(⟨aA ((aT aaY).1),aA ((aT aaY).2)⟩:_/\_);refine iz λK12 aaZ=>?_;refine iE [(2,iv 2)] hA H λa w13 hA H hG=>?_;refine aaZ _ _ ?_;refine jy ?_;refine j9 2 (.int .i64 2) hA ?_;exact xA (by unfold cls sF;(repeat' split)<;>omega) H.below
 have ag3:=(aF aaY).imp (λh=>aG h) (λh=>aG h);refine iz λK14 zz=>?_;refine iz λK15 Xr=>?_;refine iE [(0,.int .i32 r),(13,.bool (decide (r=95)))] hA H λa w16 hA H hG=>?_;refine Xr _ _ ?_;refine iY hA (.tmp 13) (decide (r=95)) (λJQ=>?_) (λJQ=>?_)
 .have Xs:=aA JQ;refine go_skip ?_;refine zz _ _ ?_;refine iY hA (.tmp 13) (decide (r=95)) (λ_=>?_) (λh=>absurd (h.symm.trans JQ) (by decide));refine iz λK19 Xx=>?_;refine iE [(2,iv 3)] hA H λa w20 hA H hG=>?_;refine Xx _ _ ?_;refine jy ?_;refine j9 2 (.int .i64 3) hA ?_;exact xA (by unfold cls sF;(repeat' split)<;>omega) H.below
 have Xs:=aG JQ;refine iE [(0,.int .i32 r),(13,.bool ((decide ((8242:Int)<=r)) && (decide (r<=8244))))] hA H λa w21 hA H hG=>?_;refine zz _ _ ?_;refine iY hA (.tmp 13) ((decide ((8242:Int)<=r)) && (decide (r<=8244))) (λJR=>?_) (λJR=>?_)
 .have Xu:=(⟨aA ((aT JR).1),aA ((aT JR).2)⟩:_/\_);refine iz λK23 Mz=>?_;refine iE [(2,iv 3)] hA H λa w24 hA H hG=>?_;refine Mz _ _ ?_;refine jy ?_;refine j9 2 (.int .i64 3) hA ?_;exact xA (by unfold cls sF;(repeat' split)<;>omega) H.below
 have Xu:=(aF JR).imp (λh=>aG h) (λh=>aG h);refine iz λK25 Fa=>?_;refine q_reg [(24,.bool (Jt r))] [(22,.bool (Jt r))] ((oC aq 83/\vu aq (On w21) 83 [.int .i32 r].toArray (.bool (Jt r)))/\True) hA H ⟨⟨nQ,qL λw hw=>by exact OG r w⟩,tv⟩ λa w26 hA H hG=>?_;refine Fa _ _ ?_;refine iY hA (.tmp 22) (Jt r) (λBI=>?_) (λBI=>?_)
 .have nU:=BI;refine iz λK28 OI=>?_;refine iE [(2,iv 1)] hA H λa w29 hA H hG=>?_;refine OI _ _ ?_;refine jy ?_;refine j9 2 (.int .i64 1) hA ?_;exact xA (by simp only[tB,Hs] at nU;unfold sF at nU;unfold cls sF;(repeat' split)<;>omega) H.below
 have nU:=BI;refine go_skip ?_;refine rV _ _ ?_;refine iz λK30 aeh=>?_;refine iE [(2,iv 0)] hA H λa w31 hA H hG=>?_;refine aeh _ _ ?_;refine jy ?_;refine j9 2 (.int .i64 0) hA ?_;exact xA (by simp only[tB,Hs] at nU;unfold sF at nU;unfold cls sF;(repeat' split)<;>omega) H.below
theorem JS (r:Int)(w:aa):
 Calls aq 105 [.int .i64 r].toArray w (MU (.int .i64 (cls r)) w):=by
 refine enter f105 71 func105 λa hA=>?_;replace hA:=jN [(0,iv r)] hA;have H:=Fr.start (rU w);refine iz λK1 jZ=>?_;refine iE [(0,iv r)] hA H λa w2 hA H hG=>?_;refine jZ _ _ ?_;refine iz λK3 rV=>?_;refine iz λK4 E8=>?_;refine iE [(0,iv r),(52,.bool ((((((decide ((97:Int)<=r)) && (decide (r<=122)))||((decide ((65:Int)<=r)) && (decide (r<=90))))||((((decide ((192:Int)<=r)) && (decide (r<=591))) && (!decide (r=215))) && (!decide (r=247))))||(((decide ((913:Int)<=r)) && (decide (r<=969))) && (!decide (r=930))))||((decide ((1040:Int)<=r)) && (decide (r<=1103)))))] hA H λa w5 hA H hG=>?_;refine E8 _ _ ?_;refine iY hA (.tmp 52) ((((((decide ((97:Int)<=r)) && (decide (r<=122)))||((decide ((65:Int)<=r)) && (decide (r<=90))))||((((decide ((192:Int)<=r)) && (decide (r<=591))) && (!decide (r=215))) && (!decide (r=247))))||(((decide ((913:Int)<=r)) && (decide (r<=969))) && (!decide (r=930))))||((decide ((1040:Int)<=r)) && (decide (r<=1103)))) (λXw=>?_) (λXw=>?_)
 .have aeg:=(oT Xw).imp (λh=>(oT h).imp (λh=>(oT h).imp (λh=>(oT h).imp (λh=>(⟨aA ((aT h).1),aA ((aT h).2)⟩:_/\_)) (λh=>(⟨aA ((aT h).1),aA ((aT h).2)⟩:_/\_))) (λh=>(⟨(⟨(⟨aA ((aT ((aT ((aT h).1)).1)).1),aA ((aT ((aT ((aT h).1)).1)).2)⟩:_/\_),aG (nT ((aT ((aT h).1)).2))⟩:_/\_),aG (nT ((aT h).2))⟩:_/\_))) (λh=>(⟨(⟨aA ((aT ((aT h).1)).1),aA ((aT ((aT h).1)).2)⟩:_/\_),aG (nT ((aT h).2))⟩:_/\_))) (λh=>(⟨aA ((aT h).1),aA ((aT h).2)⟩:_/\_));refine iz λK7 TB=>?_;refine iE [(2,iv 1)] hA H λa w8 hA H hG=>?_;refine TB _ _ ?_;refine jy ?_;refine j9 2 (.int .i64 1) hA ?_;exact xA (by unfold cls sF;(repeat' split)<;>omega) H.below
 have aeg:=(⟨(⟨(⟨(⟨(aF ((oF ((oF ((oF ((oF Xw).1)).1)).1)).1)).imp (λh=>aG h) (λh=>aG h),(aF ((oF ((oF ((oF ((oF Xw).1)).1)).1)).2)).imp (λh=>aG h) (λh=>aG h)⟩:_/\_),(aF ((oF ((oF ((oF Xw).1)).1)).2)).imp (λh=>(aF h).imp (λh=>(aF h).imp (λh=>aG h) (λh=>aG h)) (λh=>aA (nF h))) (λh=>aA (nF h))⟩:_/\_),(aF ((oF ((oF Xw).1)).2)).imp (λh=>(aF h).imp (λh=>aG h) (λh=>aG h)) (λh=>aA (nF h))⟩:_/\_),(aF ((oF Xw).2)).imp (λh=>aG h) (λh=>aG h)⟩:_/\_);refine go_skip ?_;refine rV _ _ ?_;refine iz λK9 hK9=>?_;refine iz λK10 BJ=>?_;refine iE [(0,iv r),(58,.bool ((decide ((48:Int)<=r)) && (decide (r<=57))))] hA H λa w11 hA H hG=>?_;refine BJ _ _ ?_;refine iY hA (.tmp 58) ((decide ((48:Int)<=r)) && (decide (r<=57))) (λJP=>?_) (λJP=>?_)
 .have Xq:=(⟨aA ((aT JP).1),aA ((aT JP).2)⟩:_/\_);refine iz λK13 aef=>?_;refine iE [(2,iv 2)] hA H λa w14 hA H hG=>?_;refine aef _ _ ?_;refine jy ?_;refine j9 2 (.int .i64 2) hA ?_;exact xA (by unfold cls sF;(repeat' split)<;>omega) H.below
 have Xq:=(aF JP).imp (λh=>aG h) (λh=>aG h);refine go_skip ?_;refine hK9 _ _ ?_;refine iz λK15 Xr=>?_;refine iz λK16 AJ=>?_;refine iE [(0,iv r),(68,.bool ((decide (r=95))||((decide ((8242:Int)<=r)) && (decide (r<=8244)))))] hA H λa w17 hA H hG=>?_;refine AJ _ _ ?_;refine iY hA (.tmp 68) ((decide (r=95))||((decide ((8242:Int)<=r)) && (decide (r<=8244)))) (λaa0=>?_) (λaa0=>?_)
 .have ag4:=(oT aa0).imp (λh=>aA h) (λh=>(⟨aA ((aT h).1),aA ((aT h).2)⟩:_/\_));refine iz λK19 Xx=>?_;refine iE [(2,iv 3)] hA H λa w20 hA H hG=>?_;refine Xx _ _ ?_;refine jy ?_;refine j9 2 (.int .i64 3) hA ?_;exact xA (by unfold cls sF;(repeat' split)<;>omega) H.below
 have ag4:=(⟨aG ((oF aa0).1),(aF ((oF aa0).2)).imp (λh=>aG h) (λh=>aG h)⟩:_/\_);refine go_skip ?_;refine Xr _ _ ?_;refine iz λK21 OJ=>?_;refine iz λK22 BK=>?_;refine iE [(70,.bool (decide (r=32)))] hA H λa w23 hA H hG=>?_;refine BK _ _ ?_;refine iY hA (.tmp 70) (decide (r=32)) (λCC=>?_) (λCC=>?_)
 .have AK:=aA CC;refine iz λK25 Fa=>?_;refine iE [(2,iv 4)] hA H λa w26 hA H hG=>?_;refine Fa _ _ ?_;refine jy ?_;refine j9 2 (.int .i64 4) hA ?_;exact xA (by unfold cls sF;(repeat' split)<;>omega) H.below
 have AK:=aG CC;refine go_skip ?_;refine OJ _ _ ?_;refine iz λK27 aei=>?_;refine iE [(2,iv 0)] hA H λa w28 hA H hG=>?_;refine aei _ _ ?_;refine jy ?_;refine j9 2 (.int .i64 0) hA ?_;exact xA (by unfold cls sF;(repeat' split)<;>omega) H.below
theorem Xy (s:ByteArray)(w:aa):
 Calls aq 40 [.string s].toArray w (MU (.bool (ob s)) w):=by
 refine enter f40 42 func40 λa hA=>?_;replace hA:=jN [(0,.string s)] hA;have H:=Fr.start (rU w);refine iz λK1 jZ=>?_;refine iE [(0,.string s)] hA H λa w2 hA H hG=>?_;refine jZ _ _ ?_;refine iz λK3 rV=>?_;refine iE [(0,.string s),(3,iv 0),(4,iv 0)] hA H λa w4 hA H hG=>?_;refine rV _ _ ?_;refine iz λK5 OH=>?_;refine iz λK6 hK6=>?_;refine kV ?_;refine mV 0 1 [] [(3,iv 0),(4,iv 0),(7,.string s)] (True) hA H tv λa w7 hA H hG=>?_;refine mZ 1 ?_;refine CH 1 8 9 (.tmp 7) s [(3,iv 0),(4,iv 0)] hA H Tryz.underlying9 λb8 a w9 H hA hG aej=>?_;clear aej;refine lX ?_;refine hK6 _ _ ?_;refine lq 0 ?_;refine rB (Nat×Int×Int) (λx_ a W=>(λ(pos:Nat) (n:Int) (k:Int)=>jH 42 a (j8 [(3,iv n),(4,iv k),(8,pv b8)])/\(∃S,Fr (rU w) W S [.iter b8 s pos])/\0<=n/\n<=16/\0<=k/\k<=3/\lK (pL s pos) n k=ob s) x_.1 x_.2.1 x_.2.2) (λx_=>(λ(pos:Nat) (n:Int) (k:Int)=>s.size-pos) x_.1 x_.2.1 x_.2.2) (0,0,0) ?_ (λx_ a w11 hI=>?_)
 ·(try dsimp only);exact⟨jN _ hA,⟨_,H⟩,by omega,by omega,by omega,by omega,rfl⟩
 have⟨pos,n,k⟩:=x_;have⟨hA,⟨S,H⟩,h1,h2,h3,h4,hi⟩:=hI
 try dsimp only at h1 h2 h3 h4 hi
 replace H:Fr _ _ _ [.iter b8 s pos]:=H;refine iz λK12 aaZ=>?_;refine kV ?_;refine mZ 0 ?_;refine Il 0 9 (.tmp 8) 0 b8 s pos [(3,iv n),(4,iv k),(8,pv b8)] hA H rfl (λqz a w14 H hA hG=>?_) (λqz a hA=>?_)
 .replace H:Fr _ _ _ [.iter b8 s (pos+(aH s pos).2)]:=H;have hwd:=mG s pos qz;refine mV 1 1 [] [(3,iv n),(4,iv k),(8,pv b8),(9,.tuple #[.bool true,.int .i64 (pos:Int),.int .i32 ((aH s pos).1:Int)]),(10,.bool true)] (TT/\True) hA H ⟨tv,tv⟩ λa w15 hA H hG=>?_;refine lX ?_;refine aaZ _ _ ?_;refine iz λK16 AJ=>?_;refine iY hA (.tmp 10) true (λ_=>?_) (λh=>by cases h);refine go_skip ?_;refine AJ _ _ ?_;refine lq 1 ?_;refine iz λK18 E9=>?_;refine q_reg [] [(3,iv n),(4,iv k),(6,.int .i32 ((aH s pos).1:Int)),(8,pv b8)] (TT/\True) hA H ⟨tv,tv⟩ λa w19 hA H hG=>?_;refine E9 _ _ ?_;refine iz λK20 Xt=>?_;refine q_reg [] [(3,iv (n+1)),(4,iv k),(6,.int .i32 ((aH s pos).1:Int)),(8,pv b8)] ((jh .i64 (n+1))/\True) hA H ⟨⟨by omega,by omega⟩,tv⟩ λa w21 hA H hG=>?_;refine Xt _ _ ?_;refine iz λK22 BK=>?_;refine iz λK23 Mz=>?_;refine q_reg [(15,iv (cls ((aH s pos).1:Int)))] [(3,iv (n+1)),(4,iv k),(8,pv b8),(15,iv (cls ((aH s pos).1:Int)))] ((oC aq 55/\vu aq (On w21) 55 [.int .i32 ((aH s pos).1:Int)].toArray (.int .i64 (cls ((aH s pos).1:Int))))/\True) hA H ⟨⟨nQ,qL λw hw=>by exact BH ((aH s pos).1:Int) w⟩,tv⟩ λa w24 hA H hG=>?_;refine Mz _ _ ?_;refine lq 2 ?_;refine iz λK25 Fa=>?_;refine iE [(3,iv (n+1)),(4,iv k),(8,pv b8),(15,iv (cls ((aH s pos).1:Int))),(16,.bool (decide (cls ((aH s pos).1:Int)=1)))] hA H λa w26 hA H hG=>?_;refine Fa _ _ ?_;refine iY hA (.tmp 16) (decide (cls ((aH s pos).1:Int)=1)) (λBI=>?_) (λBI=>?_)
  .have nU:=aA BI;refine iz λK28 OI=>?_;refine iE [(3,iv (n+1)),(4,iv k),(8,pv b8),(19,.bool (decide ((0:Int)<k)))] hA H λa w29 hA H hG=>?_;refine OI _ _ ?_;refine iY hA (.tmp 19) (decide ((0:Int)<k)) (λaek=>?_) (λaek=>?_)
   .have HO:=aA aek;refine iz λK31 aiC=>?_;refine iE [(2,.bool false)] hA H λa w32 hA H hG=>?_;refine aiC _ _ ?_;refine jy ?_;refine j9 2 (.bool false) hA ?_;exact qJ (by rw[<-hi];first|(rw[jr s pos qz];simp only[lK];simp[nU,HO];done)|(rw[jr s pos qz];simp only[lK];simp[nU,HO];intros;omega)|(rw[lQ s pos qz];rfl)) H.below
   have HO:=aG aek;refine go_skip ?_;refine BK _ _ ?_;refine iz λK33 aa1=>?_;refine iE [(3,iv (n+1)),(4,iv k),(8,pv b8),(39,.bool ((decide ((16:Int)<n+1))||(decide ((3:Int)<k))))] hA H λa w34 hA H hG=>?_;refine aa1 _ _ ?_;refine iY hA (.tmp 39) ((decide ((16:Int)<n+1))||(decide ((3:Int)<k))) (λaa2=>?_) (λaa2=>?_)
   .have QJ:=(oT aa2).imp (λh=>aA h) (λh=>aA h);refine iz λK36 Xz=>?_;refine iE [(2,.bool false)] hA H λa w37 hA H hG=>?_;refine Xz _ _ ?_;refine jy ?_;refine j9 2 (.bool false) hA ?_;exact qJ (by rw[<-hi];first|(rw[jr s pos qz];simp only[lK];simp[nU,HO,QJ];done)|(rw[jr s pos qz];simp only[lK];simp[nU,HO,QJ];intros;omega)|(rw[lQ s pos qz];rfl)) H.below
   have QJ:=(⟨aG ((oF aa2).1),aG ((oF aa2).2)⟩:_/\_);refine go_skip ?_;refine⟨(pos+(aH s pos).2,n+1,k),⟨jN _ hA,⟨_,H⟩,?_⟩,?_⟩
   ·(try dsimp only);exact⟨by omega,by omega,by omega,by omega,by have o7:=hi;rw[jr s pos qz] at o7;simp only[lK] at o7;simp[nU,HO,QJ] at o7;exact o7⟩
   (try dsimp only);omega
  have nU:=aG BI;refine iz λK38 ael=>?_;refine iE [(3,iv (n+1)),(4,iv k),(8,pv b8),(15,iv (cls ((aH s pos).1:Int))),(20,.bool (decide (cls ((aH s pos).1:Int)=2)))] hA H λa w39 hA H hG=>?_;refine ael _ _ ?_;refine iY hA (.tmp 20) (decide (cls ((aH s pos).1:Int)=2)) (λOK=>?_) (λOK=>?_)
  .have tG:=aA OK;refine iz λK41 aem=>?_;refine iE [(3,iv (n+1)),(4,iv k),(8,pv b8),(27,.bool ((decide (n+1=1))||(decide ((0:Int)<k))))] hA H λa w42 hA H hG=>?_;refine aem _ _ ?_;refine iY hA (.tmp 27) ((decide (n+1=1))||(decide ((0:Int)<k))) (λaa3=>?_) (λaa3=>?_)
   .have HP:=(oT aa3).imp (λh=>aA h) (λh=>aA h);refine iz λK44 aa4=>?_;refine iE [(2,.bool false)] hA H λa w45 hA H hG=>?_;refine aa4 _ _ ?_;refine jy ?_;refine j9 2 (.bool false) hA ?_;exact qJ (by rw[<-hi];first|(rw[jr s pos qz];simp only[lK];simp[nU,tG,HP];done)|(rw[jr s pos qz];simp only[lK];simp[nU,tG,HP];intros;omega)|(rw[lQ s pos qz];rfl)) H.below
   have HP:=(⟨aG ((oF aa3).1),aG ((oF aa3).2)⟩:_/\_);refine go_skip ?_;refine BK _ _ ?_;refine iz λK46 aa5=>?_;refine iE [(3,iv (n+1)),(4,iv k),(8,pv b8),(39,.bool ((decide ((16:Int)<n+1))||(decide ((3:Int)<k))))] hA H λa w47 hA H hG=>?_;refine aa5 _ _ ?_;refine iY hA (.tmp 39) ((decide ((16:Int)<n+1))||(decide ((3:Int)<k))) (λaa6=>?_) (λaa6=>?_)
   .have QK:=(oT aa6).imp (λh=>aA h) (λh=>aA h);refine iz λK49 aen=>?_;refine iE [(2,.bool false)] hA H λa w50 hA H hG=>?_;refine aen _ _ ?_;refine jy ?_;refine j9 2 (.bool false) hA ?_;exact qJ (by rw[<-hi];first|(rw[jr s pos qz];simp only[lK];simp[nU,tG,HP,QK];done)|(rw[jr s pos qz];simp only[lK];simp[nU,tG,HP,QK];intros;omega)|(rw[lQ s pos qz];rfl)) H.below
   have QK:=(⟨aG ((oF aa6).1),aG ((oF aa6).2)⟩:_/\_);refine go_skip ?_;refine⟨(pos+(aH s pos).2,n+1,k),⟨jN _ hA,⟨_,H⟩,?_⟩,?_⟩
   ·(try dsimp only);exact⟨by omega,by omega,by omega,by omega,by have o7:=hi;rw[jr s pos qz] at o7;simp only[lK] at o7;simp[nU,tG,HP,QK] at o7;exact o7⟩
   (try dsimp only);omega
  have tG:=aG OK;refine iz λK51 aiD=>?_;refine iE [(3,iv (n+1)),(4,iv k),(8,pv b8),(28,.bool (decide (cls ((aH s pos).1:Int)=3)))] hA H λa w52 hA H hG=>?_;refine aiD _ _ ?_;refine iY hA (.tmp 28) (decide (cls ((aH s pos).1:Int)=3)) (λaeo=>?_) (λaeo=>?_)
  .have Cl:=aA aeo;refine iz λK54 aep=>?_;refine iz λK55 aiE=>?_;refine iE [(3,iv (n+1)),(4,iv k),(8,pv b8),(31,.bool (decide (n+1=1)))] hA H λa w56 hA H hG=>?_;refine aiE _ _ ?_;refine iY hA (.tmp 31) (decide (n+1=1)) (λaeq=>?_) (λaeq=>?_)
   .have HQ:=aA aeq;refine iz λK58 aer=>?_;refine iE [(2,.bool false)] hA H λa w59 hA H hG=>?_;refine aer _ _ ?_;refine jy ?_;refine j9 2 (.bool false) hA ?_;exact qJ (by rw[<-hi];first|(rw[jr s pos qz];simp only[lK];simp[nU,tG,Cl,HQ];done)|(rw[jr s pos qz];simp only[lK];simp[nU,tG,Cl,HQ];intros;omega)|(rw[lQ s pos qz];rfl)) H.below
   have HQ:=aG aeq;refine go_skip ?_;refine aep _ _ ?_;refine q_reg [] [(3,iv (n+1)),(4,iv (k+1)),(8,pv b8)] ((jh .i64 (k+1))/\True) hA H ⟨⟨by omega,by omega⟩,tv⟩ λa w60 hA H hG=>?_;refine BK _ _ ?_;refine iz λK61 aiF=>?_;refine iE [(3,iv (n+1)),(4,iv (k+1)),(8,pv b8),(39,.bool ((decide ((16:Int)<n+1))||(decide ((3:Int)<k+1))))] hA H λa w62 hA H hG=>?_;refine aiF _ _ ?_;refine iY hA (.tmp 39) ((decide ((16:Int)<n+1))||(decide ((3:Int)<k+1))) (λaa7=>?_) (λaa7=>?_)
   .have QL:=(oT aa7).imp (λh=>aA h) (λh=>aA h);refine iz λK64 aiG=>?_;refine iE [(2,.bool false)] hA H λa w65 hA H hG=>?_;refine aiG _ _ ?_;refine jy ?_;refine j9 2 (.bool false) hA ?_;exact qJ (by rw[<-hi];first|(rw[jr s pos qz];simp only[lK];simp[nU,tG,Cl,HQ,QL];done)|(rw[jr s pos qz];simp only[lK];simp[nU,tG,Cl,HQ,QL];intros;omega)|(rw[lQ s pos qz];rfl)) H.below
   have QL:=(⟨aG ((oF aa7).1),aG ((oF aa7).2)⟩:_/\_);refine go_skip ?_;refine⟨(pos+(aH s pos).2,n+1,k+1),⟨jN _ hA,⟨_,H⟩,?_⟩,?_⟩
   ·(try dsimp only);exact⟨by omega,by omega,by omega,by omega,by have o7:=hi;rw[jr s pos qz] at o7;simp only[lK] at o7;simp[nU,tG,Cl,HQ,QL] at o7;exact o7⟩
   (try dsimp only);omega
  have Cl:=aG aeo;refine iz λK66 aiH=>?_;refine iE [(2,.bool false)] hA H λa w67 hA H hG=>?_;refine aiH _ _ ?_;refine jy ?_;refine j9 2 (.bool false) hA ?_;exact qJ (by rw[<-hi];first|(rw[jr s pos qz];simp only[lK];simp[nU,tG,Cl];done)|(rw[jr s pos qz];simp only[lK];simp[nU,tG,Cl];intros;omega)|(rw[lQ s pos qz];rfl)) H.below
 skip
 refine mV 1 1 [] [(3,iv n),(4,iv k),(8,pv b8),(9,.tuple #[.bool false]),(10,.bool false)] (TT/\True) hA H ⟨tv,tv⟩ λa w68 hA H hG=>?_;refine lX ?_;refine aaZ _ _ ?_;refine iz λK69 ajB=>?_;refine iY hA (.tmp 10) false (λh=>by cases h) (λ_=>?_);refine sr 0 ?_;refine OH _ _ ?_;refine iz λK71 aiI=>?_;refine iE [(2,.bool (decide ((0:Int)<n)))] hA H λa w72 hA H hG=>?_;refine aiI _ _ ?_;refine jy ?_;refine j9 2 (.bool (decide ((0:Int)<n))) hA ?_;exact qJ (by rw[<-hi];first|(rw[jr s pos qz];simp only[lK];simp[];done)|(rw[jr s pos qz];simp only[lK];simp[];intros;omega)|(rw[lQ s pos qz];rfl)) H.below
theorem aa8 (s:ByteArray)(w:aa):
 Calls aq 33 [.string s].toArray w (MU (.tuple #[.int .i64 (L9 s).1,.bool (L9 s).2]) w):=by
 refine enter f33 21 func33 λa hA=>?_;replace hA:=jN [(0,.string s)] hA;have H:=Fr.start (rU w);refine iz λK1 jZ=>?_;refine iE [(0,.string s)] hA H λa w2 hA H hG=>?_;refine jZ _ _ ?_;refine iz λK3 rV=>?_;refine iz λK4 E8=>?_;refine kV ?_;refine mV 0 1 [] [(6,.string s)] (True) hA H tv λa w5 hA H hG=>?_;refine mZ 1 ?_;refine CH 1 7 9 (.tmp 6) s [] hA H Tryz.underlying9 λb6 a w7 H hA hG Fb=>?_;clear Fb;refine lX ?_;refine E8 _ _ ?_;refine lq 0 ?_;refine rB (Nat) (λx_ a W=>(λ(pos:Nat)=>jH 21 a (j8 [(7,pv b6)])/\(∃S,Fr (rU w) W S [.iter b6 s pos])/\EL (pL s pos)=L9 s) x_) (λx_=>(λ(pos:Nat)=>s.size-pos) x_) (0) ?_ (λpos a w9 hI=>?_)
 ·(try dsimp only);exact⟨jN _ hA,⟨_,H⟩,rfl⟩
 have⟨hA,⟨S,H⟩,hi⟩:=hI
 try dsimp only at hi
 refine iz λK10 BJ=>?_;refine kV ?_;refine mZ 0 ?_;refine Il 0 8 (.tmp 7) 0 b6 s pos [(7,pv b6)] hA H rfl (λzA a w12 H hA hG=>?_) (λzA a hA=>?_)
 .replace H:Fr _ _ _ [.iter b6 s (pos+(aH s pos).2)]:=H;have hwd:=mG s pos zA;refine mV 1 1 [] [(7,pv b6),(8,.tuple #[.bool true,.int .i64 (pos:Int),.int .i32 ((aH s pos).1:Int)]),(9,.bool true)] (TT/\True) hA H ⟨tv,tv⟩ λa w13 hA H hG=>?_;refine lX ?_;refine BJ _ _ ?_;refine iz λK14 zz=>?_;refine iY hA (.tmp 9) true (λ_=>?_) (λh=>by cases h);refine go_skip ?_;refine zz _ _ ?_;refine lq 1 ?_;refine iz λK16 AJ=>?_;refine q_reg [] [(4,iv (pos:Int)),(5,.int .i32 ((aH s pos).1:Int)),(7,pv b6)] (TT/\TT/\True) hA H ⟨tv,tv,tv⟩ λa w17 hA H hG=>?_;refine AJ _ _ ?_;refine iz λK18 E9=>?_;refine q_reg [(13,iv (cls ((aH s pos).1:Int))),(17,.bool (Ay ((aH s pos).1:Int)))] [(4,iv (pos:Int)),(7,pv b6),(19,.bool ((decide (cls ((aH s pos).1:Int)=0)) && (!(Ay ((aH s pos).1:Int)))))] ((oC aq 55/\vu aq (On w17) 55 [.int .i32 ((aH s pos).1:Int)].toArray (.int .i64 (cls ((aH s pos).1:Int))))/\((decide (cls ((aH s pos).1:Int)=0))=true->oC aq 56/\vu aq (On w17) 56 [.int .i32 ((aH s pos).1:Int)].toArray (.bool (Ay ((aH s pos).1:Int))))/\True) hA H ⟨⟨nQ,qL λw hw=>by exact BH ((aH s pos).1:Int) w⟩,λ_=>⟨nQ,qL λw hw=>by exact Xv ((aH s pos).1:Int) w⟩,tv⟩ λa w19 hA H hG=>?_;refine E9 _ _ ?_;refine iY hA (.tmp 19) ((decide (cls ((aH s pos).1:Int)=0)) && (!(Ay ((aH s pos).1:Int)))) (λaa9=>?_) (λaa9=>?_)
  .have QM:=(⟨aA ((aT aa9).1),(nT ((aT aa9).2))⟩:_/\_);refine iz λK21 OJ=>?_;refine iE [(2,iv (pos:Int)),(3,.bool true)] hA H λa w22 hA H hG=>?_;refine OJ _ _ ?_;refine jy ?_;refine tR 2 3 (.int .i64 (pos:Int)) (.bool true) hA ?_;exact Wt (by rw[<-hi,jr s pos zA];simp only[EL];rw[ak ⟨QM.1,QM.2⟩];exact⟨rfl,rfl⟩) H.below
  have QM:=(aF aa9).imp (λh=>aG h) (λh=>(nF h));refine go_skip ?_;refine⟨(pos+(aH s pos).2),⟨jN _ hA,⟨_,H⟩,?_⟩,?_⟩
  ·(try dsimp only);exact by have o7:=hi;rw[jr s pos zA] at o7;simp only[EL] at o7;rw[ah (by intro hh;have h:=QM;simp_all)] at o7;exact o7
  (try dsimp only);omega
 skip
 refine mV 1 1 [] [(7,pv b6),(8,.tuple #[.bool false]),(9,.bool false)] (TT/\True) hA H ⟨tv,tv⟩ λa w23 hA H hG=>?_;refine lX ?_;refine BJ _ _ ?_;refine iz λK24 aes=>?_;refine iY hA (.tmp 9) false (λh=>by cases h) (λ_=>?_);refine sr 0 ?_;refine rV _ _ ?_;refine iz λK26 XA=>?_;refine iE [(2,iv 0),(3,.bool false)] hA H λa w27 hA H hG=>?_;refine XA _ _ ?_;refine jy ?_;refine tR 2 3 (.int .i64 0) (.bool false) hA ?_;exact Wt (by rw[<-hi,lQ s pos zA];exact⟨rfl,rfl⟩) H.below
theorem SM (s:ByteArray)(o:Orig)(hs:s.size<=1000000000):
 Calls aq 36 [.string s].toArray o.w (Fv o (λS v w'=>Rd S w' v (Oh s))):=by
 refine enter f36 49 func36 λa hA=>?_;replace hA:=jN [(0,.string s)] hA;have H:=Fr.start o;refine iz λK1 jZ=>?_;refine iE [(0,.string s)] hA H λa w2 hA H hG=>?_;refine jZ _ _ ?_;refine iz λK3 rV=>?_;refine iE [(0,.string s),(3,(.slice none 0 0))] hA H λa w4 hA H hG=>?_;refine rV _ _ ?_;refine iz λK5 OH=>?_;refine iE [(0,.string s),(3,(.slice none 0 0)),(4,iv (-1))] hA H λa w6 hA H hG=>?_;refine OH _ _ ?_;refine iz λK7 TB=>?_;refine iz λK8 hK8=>?_;refine kV ?_;refine mV 0 1 [] [(0,.string s),(3,(.slice none 0 0)),(4,iv (-1)),(8,.string s)] (True) hA H tv λa w9 hA H hG=>?_;refine mZ 1 ?_;refine CH 1 9 9 (.tmp 8) s [(0,.string s),(3,(.slice none 0 0)),(4,iv (-1))] hA H Tryz.underlying9 λFA a w11 H hA hG aba=>?_;clear aba;refine lX ?_;refine hK8 _ _ ?_;refine lq 0 ?_;replace H:=H.newRow (α:=Int×ByteArray) 135;replace H:Fr _ _ _ [.iter FA s 0,.row 135 (.slice none 0 0) ([]:List (Int×ByteArray))]:=H.swap;refine rB (Nat×af×Int×List (Int×ByteArray)) (λx_ a W=>(λ(pos:Nat) (v:af) (b:Int) (l:List (Int×ByteArray))=>jH 49 a (j8 [(0,.string s),(3,v),(4,iv b),(9,pv FA)])/\(∃S,Fr o W S [.iter FA s pos,.row 135 v l])/\-1<=b/\b<=(pos:Int)/\b<=(s.size:Int)/\(l.length<=pos/\l.length<=s.size)/\EM s (pL s pos) b l=Oh s) x_.1 x_.2.1 x_.2.2.1 x_.2.2.2) (λx_=>(λ(pos:Nat) (v:af) (b:Int) (l:List (Int×ByteArray))=>s.size-pos) x_.1 x_.2.1 x_.2.2.1 x_.2.2.2) (0,.slice none 0 0,-1,[]) ?_ (λx_ a w13 hI=>?_)
 ·(try dsimp only);exact⟨jN _ hA,⟨_,H⟩,by omega,by omega,by omega,by simp,rfl⟩
 have⟨pos,v,b,l⟩:=x_;have⟨hA,⟨S,H⟩,h1,h2,h3,h4,hi⟩:=hI
 try dsimp only at h1 h2 h3 h4 hi
 replace H:Fr _ _ _ [.iter FA s pos,.row 135 v l]:=H;refine iz λK14 zz=>?_;refine kV ?_;refine mZ 0 ?_;refine Il 0 10 (.tmp 9) 0 FA s pos [(0,.string s),(3,v),(4,iv b),(9,pv FA)] hA H rfl (λOL a w16 H hA hG=>?_) (λOL a hA=>?_)
 .replace H:Fr _ _ _ [.iter FA s (pos+(aH s pos).2),.row 135 v l]:=H;have hwd:=mG s pos OL;refine mV 1 1 [] [(0,.string s),(3,v),(4,iv b),(9,pv FA),(10,.tuple #[.bool true,.int .i64 (pos:Int),.int .i32 ((aH s pos).1:Int)]),(11,.bool true)] (TT/\True) hA H ⟨tv,tv⟩ λa w17 hA H hG=>?_;refine lX ?_;refine zz _ _ ?_;refine iz λK18 E9=>?_;refine iY hA (.tmp 11) true (λ_=>?_) (λh=>by cases h);refine go_skip ?_;refine E9 _ _ ?_;refine lq 1 ?_;refine iz λK20 Xt=>?_;refine q_reg [] [(0,.string s),(3,v),(4,iv b),(5,iv (pos:Int)),(6,.int .i32 ((aH s pos).1:Int)),(9,pv FA)] (TT/\TT/\True) hA H ⟨tv,tv,tv⟩ λa w21 hA H hG=>?_;refine Xt _ _ ?_;refine iz λK22 BK=>?_;refine q_reg [(15,iv (cls ((aH s pos).1:Int)))] [(0,.string s),(3,v),(4,iv b),(5,iv (pos:Int)),(7,.bool (decide (cls ((aH s pos).1:Int)=4))),(9,pv FA)] ((oC aq 55/\vu aq (On w21) 55 [.int .i32 ((aH s pos).1:Int)].toArray (.int .i64 (cls ((aH s pos).1:Int))))/\True) hA H ⟨⟨nQ,qL λw hw=>by exact BH ((aH s pos).1:Int) w⟩,tv⟩ λa w23 hA H hG=>?_;refine BK _ _ ?_;refine iz λK24 aes=>?_;refine iz λK25 Fa=>?_;refine iE [(0,.string s),(3,v),(4,iv b),(5,iv (pos:Int)),(7,.bool (decide (cls ((aH s pos).1:Int)=4))),(9,pv FA),(21,.bool ((decide (cls ((aH s pos).1:Int)=4)) && (decide ((0:Int)<=b))))] hA H λa w26 hA H hG=>?_;refine Fa _ _ ?_;refine iY hA (.tmp 21) ((decide (cls ((aH s pos).1:Int)=4)) && (decide ((0:Int)<=b))) (λBI=>?_) (λBI=>?_)
  .have nU:=(⟨aA ((aT BI).1),aA ((aT BI).2)⟩:_/\_);refine iz λK28 OI=>?_;refine kV ?_;refine mV 0 7 [(27,.string (s.extract (b).toNat ((pos:Int)).toNat)),(28,.agg #[.int .i64 b,.string (s.extract (b).toNat ((pos:Int)).toNat)])] [(0,.string s),(5,iv (pos:Int)),(7,.bool (decide (cls ((aH s pos).1:Int)=4))),(9,pv FA),(22,v),(28,.agg #[.int .i64 b,.string (s.extract (b).toNat ((pos:Int)).toNat)])] ((∀w,(cA 9 (.string s) (some (.int .i64 b)) (some (.int .i64 (pos:Int))) none).run aq w= .ok (.string (s.extract (b).toNat ((pos:Int)).toNat)) w)/\(∀w,(alg 135 #[(0,iv b),(1,.string (s.extract (b).toNat ((pos:Int)).toNat))]).run aq w= .ok (.agg #[.int .i64 b,.string (s.extract (b).toNat ((pos:Int)).toNat)]) w)/\True) hA H ⟨λw=>zJ Tryz.underlying9 w (by omega) (by omega) (by omega),λw=>by kernel_rfl,tv⟩ λa w29 hA H hG=>?_;refine mZ 7 ?_;refine Pb 7 29 104 1 #[(0,.tmp 28)] 135 [(0,.agg #[.int .i64 b,.string (s.extract (b).toNat ((pos:Int)).toNat)])] [.int .i64 b,.string (s.extract (b).toNat ((pos:Int)).toNat)] [(0,.string s),(5,iv (pos:Int)),(7,.bool (decide (cls ((aH s pos).1:Int)=4))),(9,pv FA),(22,v)] hA H λb30 a w31 H hA hG abb=>?_;clear abb;refine mZ 8 ?_;refine Im 8 30 (.tmp 22) (.tmp 29) 2 0 b30 1 1 v l [(b,s.extract (b).toNat ((pos:Int)).toNat)] [.int .i64 b,.string (s.extract (b).toNat ((pos:Int)).toNat)] [(0,.string s),(5,iv (pos:Int)),(7,.bool (decide (cls ((aH s pos).1:Int)=4))),(9,pv FA)] hA H Tryz.ag2 rfl rfl (by exact(jW.single (α:=Int×ByteArray) ⟨[_],_,rfl,rfl,rfl⟩)) rfl (by simp only[bf,bP,aN];omega) (by decide) λv32 a w33 H hA hG=>?_;replace H:Fr _ _ _ [.iter FA s (pos+(aH s pos).2),.row 135 v32 (l++[(b,s.extract (b).toNat ((pos:Int)).toNat)])]:=H.drop 0;refine mV 9 1 [] [(0,.string s),(3,v32),(5,iv (pos:Int)),(7,.bool (decide (cls ((aH s pos).1:Int)=4))),(9,pv FA)] (True) hA H tv λa w34 hA H hG=>?_;refine lX ?_;refine OI _ _ ?_;refine iE [(0,.string s),(3,v32),(4,iv (-1)),(5,iv (pos:Int)),(7,.bool (decide (cls ((aH s pos).1:Int)=4))),(9,pv FA)] hA H λa w35 hA H hG=>?_;refine aes _ _ ?_;refine iz λK36 Xz=>?_;refine iE [(0,.string s),(3,v32),(4,iv (-1)),(5,iv (pos:Int)),(9,pv FA),(36,.bool ((!(decide (cls ((aH s pos).1:Int)=4))) && (decide ((-1:Int)<0))))] hA H λa w37 hA H hG=>?_;refine Xz _ _ ?_;refine iY hA (.tmp 36) ((!(decide (cls ((aH s pos).1:Int)=4))) && (decide ((-1:Int)<0))) (λh=>by simp[(aT BI).1] at h) (λ_=>?_);refine go_skip ?_;refine⟨(pos+(aH s pos).2,v32,-1,l++[(b,s.extract (b).toNat ((pos:Int)).toNat)]),⟨jN _ hA,⟨_,H⟩,?_⟩,?_⟩
   ·(try dsimp only);exact⟨by omega,by omega,by omega,by first|omega|(rw[aN];simp only[bf,bP];omega),by have o7:=hi;rw[jr s pos OL] at o7;simp only[EM] at o7;(repeat' split at o7)<;>first|exact o7|(exfalso;omega)⟩
   (try dsimp only);omega
  have nU:=(aF BI).imp (λh=>aG h) (λh=>aG h);refine go_skip ?_;refine aes _ _ ?_;refine iz λK39 aiJ=>?_;refine iE [(0,.string s),(3,v),(4,iv b),(5,iv (pos:Int)),(9,pv FA),(36,.bool ((!(decide (cls ((aH s pos).1:Int)=4))) && (decide (b<0))))] hA H λa w40 hA H hG=>?_;refine aiJ _ _ ?_;refine iY hA (.tmp 36) ((!(decide (cls ((aH s pos).1:Int)=4))) && (decide (b<0))) (λabc=>?_) (λabc=>?_)
  .have ag5:=(⟨aG (nT ((aT abc).1)),aA ((aT abc).2)⟩:_/\_);refine iE [(0,.string s),(3,v),(4,iv (pos:Int)),(9,pv FA)] hA H λa w42 hA H hG=>?_;refine⟨(pos+(aH s pos).2,v,(pos:Int),l),⟨jN _ hA,⟨_,H⟩,?_⟩,?_⟩
   ·(try dsimp only);exact⟨by omega,by omega,by omega,by first|omega|(rw[aN];simp only[bf,bP];omega),by have o7:=hi;rw[jr s pos OL] at o7;simp only[EM] at o7;(repeat' split at o7)<;>first|exact o7|(exfalso;omega)⟩
   (try dsimp only);omega
  have ag5:=(aF abc).imp (λh=>aA (nF h)) (λh=>aG h);refine go_skip ?_;refine⟨(pos+(aH s pos).2,v,b,l),⟨jN _ hA,⟨_,H⟩,?_⟩,?_⟩
  ·(try dsimp only);exact⟨by omega,by omega,by omega,by first|omega|(rw[aN];simp only[bf,bP];omega),by have o7:=hi;rw[jr s pos OL] at o7;simp only[EM] at o7;(repeat' split at o7)<;>first|exact o7|(exfalso;omega)⟩
  (try dsimp only);omega
 skip
 refine mV 1 1 [] [(0,.string s),(3,v),(4,iv b),(9,pv FA),(10,.tuple #[.bool false]),(11,.bool false)] (TT/\True) hA H ⟨tv,tv⟩ λa w43 hA H hG=>?_;refine lX ?_;refine zz _ _ ?_;refine iz λK44 aa4=>?_;refine iY hA (.tmp 11) false (λh=>by cases h) (λ_=>?_);refine sr 0 ?_;refine TB _ _ ?_;refine iz λK46 aa5=>?_;refine iz λK47 aet=>?_;refine iE [(0,.string s),(3,v),(4,iv b),(39,.bool (decide ((0:Int)<=b)))] hA H λa w48 hA H hG=>?_;refine aet _ _ ?_;refine iY hA (.tmp 39) (decide ((0:Int)<=b)) (λaeu=>?_) (λaeu=>?_)
 .have XB:=aA aeu;refine kV ?_;refine mV 0 6 [(44,.string (s.extract (b).toNat s.size)),(45,.agg #[.int .i64 b,.string (s.extract (b).toNat s.size)])] [(40,v),(45,.agg #[.int .i64 b,.string (s.extract (b).toNat s.size)])] ((∀w,(cA 9 (.string s) (some (.int .i64 b)) none none).run aq w= .ok (.string (s.extract (b).toNat s.size)) w)/\(∀w,(alg 135 #[(0,iv b),(1,.string (s.extract (b).toNat s.size))]).run aq w= .ok (.agg #[.int .i64 b,.string (s.extract (b).toNat s.size)]) w)/\True) hA H ⟨λw=>BR Tryz.underlying9 w (by omega) (by omega),λw=>by kernel_rfl,tv⟩ λa w50 hA H hG=>?_;refine mZ 6 ?_;refine Pb 6 46 104 1 #[(0,.tmp 45)] 135 [(0,.agg #[.int .i64 b,.string (s.extract (b).toNat s.size)])] [.int .i64 b,.string (s.extract (b).toNat s.size)] [(40,v)] hA H λb51 a w52 H hA hG abd=>?_;clear abd;refine mZ 7 ?_;refine Im 7 47 (.tmp 40) (.tmp 46) 2 0 b51 1 1 v l [(b,s.extract (b).toNat s.size)] [.int .i64 b,.string (s.extract (b).toNat s.size)] [] hA H Tryz.ag2 rfl rfl (by exact(jW.single (α:=Int×ByteArray) ⟨[_],_,rfl,rfl,rfl⟩)) rfl (by simp only[bf,bP,aN];omega) (by decide) λv53 a w54 H hA hG=>?_;replace H:Fr _ _ _ [.iter FA s pos,.row 135 v53 (l++[(b,s.extract (b).toNat s.size)])]:=H.drop 0;refine mV 8 1 [] [(3,v53)] (True) hA H tv λa w55 hA H hG=>?_;refine lX ?_;refine aa5 _ _ ?_;refine iz λK56 aiK=>?_;refine iE [(2,v53)] hA H λa w57 hA H hG=>?_;refine aiK _ _ ?_;refine jy ?_;refine j9 2 v53 hA ?_;have ho:=H.Y3 1 rfl;rw[lQ s pos OL] at hi;simp only[EM] at hi;simp only[XB,if_true,if_false] at hi;rw[hi] at ho;exact⟨_,rfl,ho,H.below⟩
 have XB:=aG aeu;refine go_skip ?_;refine aa5 _ _ ?_;refine iz λK58 aer=>?_;refine iE [(2,v)] hA H λa w59 hA H hG=>?_;refine aer _ _ ?_;refine jy ?_;refine j9 2 v hA ?_;have ho:=H.Y3 1 rfl;rw[lQ s pos OL] at hi;simp only[EM] at hi;simp only[XB,if_true,if_false] at hi;rw[hi] at ho;exact⟨_,rfl,ho,H.below⟩
def acO (ops:Array Oper):Bool:=ops.toList.all λo=>match o.op with| .defer _=>false|_=>true
theorem abe {ops:Array Oper}(h:acO ops=true){o:Oper}(ho:o∈ops.toList):∀c,o.op≠.defer c:=by
 intro c e;have:=aU.1 h o ho;rw[e] at this;cases this
abbrev Rnd (l:Nat):Fence:=aS.inRound l
section
variable {P:ay}{ops:Array Oper}{Q:Exit->Act->aa->Prop}{a:Act}{w:aa}
theorem ag6 {G:Fence}{n:Nat}(TU:∀f,G.fn f)(hd:G.depth=none)(wP:∀f args w R,Calls P f args w R->CallsIn G (n-1) P f args w R)(p7:∀row args w R,Rows P row args w R->RowsIn G (n-1) P row args w R)(hQ:¬LetsOut Q){o:Oper}{K:Act->aa->Prop}(hdf:∀c,o.op≠.defer c)
  (h:o.wp P a w K Q\/(o.asks P a w/\LetsOut Q)):o.wpIn G n P a w K Q:=by
 rcases h with h|⟨_,h⟩
 .refine⟨λf _=>TU f,?_⟩;rw[Oper.semAt_eq _ _ _ hdf];unfold Oper.wp at h;generalize (execOp a.eval o).run P w=r at*
  cases r with
  |ok x w'=>
   cases x<;>simp only[akf,akg] at h ⊢ <;>first
    |exact⟨λe=>(by rw[hd] at e;cases e),wP _ _ _ _ h⟩
    |exact⟨λe=>(by rw[hd] at e;cases e),p7 _ _ _ _ h⟩
    |exact h
    |exact(h:False).elim
  |halt x w'=>cases x<;>simp only[akf,akg] at h ⊢ <;>exact h
 exact(hQ h).elim
theorem QN {G:Fence}{n:Nat}(TU:∀f,G.fn f)(hd:G.depth=none)(wP:∀f args w R,Calls P f args w R->CallsIn G (n-1) P f args w R)(p7:∀row args w R,Rows P row args w R->RowsIn G (n-1) P row args w R)(hQ:¬LetsOut Q):
  ∀(l:List Oper) (a:Act) (w:aa),(∀o∈l,∀c,o.op≠.defer c)->wpList P ops Q l a w->wpListIn G n P ops Q l a w
 |[],a,w,_,h=>h
 |o::l,a,w,hl,h=>by
  simp only[wpList] at h;simp only[wpListIn];have ih:=λa w=>QN TU hd wP p7 hQ l a w (λo' J0=>hl o' (aI _ J0))
  by_cases hw:cL o (yielded ops a.tmps)=true
  .rw[ak hw] at h ⊢;exact an0 ih (ag6 TU hd wP p7 hQ (hl o aE) h)
  rw[ah hw] at h ⊢;exact⟨λf _=>TU f,ih _ _ h⟩
end
section
variable {P:ay}{B:Code}{p:List Nat}{Q:oh}{a:Act}{w:aa}{l n:Nat}
theorem ahQ (row:String)(args:Array af)(w:aa)(R:af->aa->Prop)(h:Rows P row args w R):RowsIn (Rnd l) n P row args w R:=
 λc cs _=>let⟨v,w',r,s⟩:=h c cs;⟨v,w',r,stepsIn_wide.2 s⟩
end
section
variable {P:ay}{ops:Array Oper}{Q:Exit->Act->aa->Prop}{n:Nat}
theorem XC {k:Nat}(row:String)(args:Array af)(w:aa)(R:af->aa->Prop)(h:Rows P row args w R):RowsIn aS k P row args w R:=
 λc cs _=>let⟨v,w',r,s⟩:=h c cs;⟨v,w',r,stepsIn_wide.2 s⟩
theorem uC {F:Fence}{rest:List Oper}:∀(l:List Oper) (a:Act) (w:aa),wpListIn F n P ops (Exit.then (wpListIn F n P ops Q rest) Q) l a w->wpListIn F n P ops Q (l++rest) a w
 |[],a,w,h=>h
 |o::l,a,w,h=>by
  simp only[wpListIn,dh] at h ⊢
  by_cases hw:cL o (yielded ops a.tmps)=true
  .rw[ak hw] at h ⊢;refine an0 (uC l) ⟨h.1,?_⟩;have h2:=h.2;generalize (o.semAt F.round a.eval).run P w=r at*
   cases r with
   |ok x w'=>cases x<;>exact h2
   |halt x w'=>cases x<;>exact h2
  rw[ah hw] at h ⊢;exact⟨h.1,uC l _ _ h.2⟩
variable {B:Code}{p:List Nat}{a:Act}{w:aa}
theorem HR (n:Nat)(k:wpListIn aS n P (opsOf (sub B p)) Q ((opsOf (sub B p)).toList.drop 0) a w)(hd:AU (sub B p)=some false:=by kernel_rfl):(sub B p).wp P Q a w:=by
 cases yY:sub B p<;>rw[yY] at hd<;>first|(cases hd;done)|skip
 rename_i id ops d;simp only[AU,bM] at hd;subst hd;rw[yY] at k;exact wpIn_wide.1 (wpIn_region_list k)
theorem Dc {m:Nat}{env:Env}{w0:Orig}{S:iD}{rs:List o5}(i k:Nat)(mF:List (Nat×af))(keep:List (Nat×af))(pr:Prop)(ha:jH m a env)(H:Fr w0 w S rs)(hp:pr)(hQ:¬LetsOut Q)
  (kk:∀a' w',jH m a' (j8 keep)->Fr w0 w' S rs->Below w.heap.size w w'->wpListIn aS n P ops Q (ops.toList.drop (i+k)) a' w')
  (h:zH P (On w) m ops mF ((ops.toList.drop i).take k) env keep pr:=by delta zH;kernel_rfl) (hc:acO ops=true:=by kernel_rfl):wpListIn aS n P ops Q (ops.toList.drop i) a w:=by
 obtain⟨uH,h1,hk⟩:=Du h;have h2:=su (P:=P) (ops:=ops) (Q:=Exit.then (wpListIn aS n P ops Q (ops.toList.drop (i+k))) Q) (rest:=[]) (K:=λa'=>jH m a' (j8 keep)) ((ops.toList.drop i).take k) a w (On.self w)
  (Dn ha h1 hp λa' Tn=>Ik keep Tn hk) (λa' w' xK Tn=>kk a' w' Tn (H.on xK) xK)
 rw[aZ] at h2;have h3:=QN (G:=aS) (n:=n) (Q:=Exit.then (wpListIn aS n P ops Q (ops.toList.drop (i+k))) Q) (λ_=>trivial) rfl (λf args w R h=>callsIn_wide.2 h) (λrow args w R h=>XC row args w R h) (λ⟨a,w,h⟩=>hQ ⟨a,w,h⟩) _ a w
  (λo ho=>abe hc (List.mem_of_mem_drop (cQ ho))) h2
 have h4:=uC _ a w h3;rw[<-List.drop_drop,dB] at h4;exact h4
theorem yA {i:Nat}(k:Q .normal a w)(h:decide (ops.size<=i)=true:=by kernel_rfl):wpListIn aS n P ops Q (ops.toList.drop i) a w:=by
 rw[List.drop_of_length_le (by simpa using aA h)];exact k
theorem QO {m:Nat}{env:Env}(i d l:Nat)(x:aM)(args:Array aM)(Y4:Array ax)(us:List af){R:Ending->aa->Prop}(keep:List (Nat×af))(ha:jH m a env)
  (hy:YieldAt aS (n-1) P l us.toArray w R)
  (k:∀e w',R e w'->∃v,e= .returned v/\∀a',jH m a' (j8 ((d,v)::keep))->wpListIn aS n P ops Q (ops.toList.drop (i+1)) a' w')
  (h:Kj ops i=some (.call {callee:=.value x,args:=args,argTypes:=Y4},some d,none):=by kernel_rfl) (hx:getOp env [] x=some (.func (.yield l) #[] #[]):=by kernel_rfl) (kW:(args.toList.map (getOp env [])).mapM id=some us:=by kernel_rfl)
  (hk:qN m d env keep:=by delta qN;kernel_rfl):wpListIn aS n P ops Q (ops.toList.drop i) a w:=by
 obtain⟨o,ho,he⟩:=aX.1 h;simp only[Prod.mk.injEq] at he;have⟨h1,h2,h3⟩:=he;obtain⟨Fu,J0⟩:=bW.1 ho;rw[akU Fu,J0];refine wpListIn_plain h3 λK hK=>⟨λf _=>trivial,?_⟩;have uG:nc a []:=λl hl=>by simp at hl
 have Dr:=sO (ρ:=a.eval) (λx u hx=>lW ha uG x u hx) args us kW;have⟨fn,tmps,assign,body,hy1,hy2⟩:=hy;have e:(o.semAt (aS).round a.eval).run P w= .ok (.round l fn tmps assign body) w:=by
  show(execOp a.eval o).run P w=_;have aiL:=hy1;simp[execOp,h1,resolve,Dr,lW ha uG _ _ hx,alj,invoke,aiL]
 rw[e];refine⟨λe=>(by cases e),hy2.mono λe w' hR=>?_⟩;obtain⟨v,rfl,hv⟩:=k e w' hR;exact hK _ _ (hv _ (zI (o:=o) keep ha h2 hk))
end
abbrev ag7 (w:aa):Orig:=⟨{w with heap:= #[]},λ_=>False,λ_ h=>h.elim⟩
theorem aev {w:aa}{b:Nat}{t:ax}{vs:List af}(hb:w.heap[b]?=some (.cells vs.toArray t (0,0))):Fr (ag7 w) w (λ_=>False) [.box b t vs] where
 below:=⟨rfl,rfl,rfl,bF _,λk hk=>absurd hk (amG k)⟩
 src _ h:=h.elim
 nN _ h:=h.elim
 ok r hr:=by rw[av.1 hr];exact hb
 own r hr b' qd:=by
  rw[av.1 hr] at qd;cases qd;exact⟨bF _,(cJ.1 hb).1,λh=>h⟩
 nodup:=by show List.Nodup [b];simp
structure KpB (b:Nat)(A C:aa):Prop where
 os:C.os=A.os
 tape:C.tape=A.tape
 output:C.output=A.output
 box:C.heap[b]?=A.heap[b]?
 size:A.heap.size<=C.heap.size
 walks:∀(r:Nat) (s:ByteArray) (p:Nat),A.heap[r]?=some (dx s p)->C.heap[r]?=some (dx s p)
def AbS {β:Type}(B:Nat)(J:β->aa->Prop):Prop:=
 ∀(x:β) (W W':aa) (row:Option Nat),J x W->W.grownBy W' row->(∀r,row=some r->B<=r/\∃s p,W.heap[r]?=some (dx s p))->J x W'
theorem QS {o:Orig}{w w':aa}{S:iD}{b bi pos:Nat}{s:ByteArray}{t:ax}{vs:List af}(ho:o.w.heap.size=0)(H:Fr o w S [.iter bi s pos,.box b t vs])(hk:KpB b w w'):Fr o w' (λ_=>False) [.iter bi s pos,.box b t vs] where
 below:=⟨hk.os.trans H.below.os,hk.tape.trans H.below.tape,hk.output.trans H.below.output,by rw[ho];exact bF _,λk hk=>by rw[ho] at hk;exact absurd hk (amG k)⟩
 src _ h:=h.elim
 nN _ h:=h.elim
 ok r hr:=by
  have:=H.ok r hr;simp only[aD,ako,or_false] at hr;rcases hr with rfl|rfl
  .exact hk.walks _ _ _ this
  exact hk.box.trans this
 own r hr k hk':=by
  obtain⟨h1,h2,h3⟩:=H.own r hr k hk';exact⟨h1,bh h2 hk.size,λh=>h⟩
 nodup:=H.nodup
abbrev Has {β:Type}(J:β->aa->Prop)(B:Nat)(x:β)(w:aa):Prop:=J x w/\B<=w.heap.size
theorem Has.on {β:Type}{J:β->aa->Prop}{B:Nat}{x:β}{w w':aa}(hJ:AbS B J)(h:Has J B x w)(hb:Below w.heap.size w w'):Has J B x w':=
 ⟨hJ x w w' none h.1 ⟨hb.os,hb.tape,hb.output,hb.size,λk hk _=>hb.block k hk⟩ (λr e=>by cases e),bg h.2 hb.size⟩
theorem Has.next {β:Type}{J:β->aa->Prop}{B b pos:Nat}{s:ByteArray}{x:β}{w w':aa}(hJ:AbS B J)(h:Has J B x w)(hb:B<=b)(hi:w.heap[b]?=some (dx s pos))(hg:w.grownBy w' (some b)):Has J B x w':=
 ⟨hJ x w w' (some b) h.1 hg (λr e=>by cases e;exact⟨hb,_,_,hi⟩),bg h.2 hg.size⟩
theorem jon {β:Type}{J:β->aa->Prop}{B:Nat}{x:β}{w w':aa}(hJ:AbS B J)(h:J x w)(hb:Below w.heap.size w w'):J x w':=
 hJ x w w' none h ⟨hb.os,hb.tape,hb.output,hb.size,λk hk _=>hb.block k hk⟩ (λr e=>by cases e)
theorem Has.kp {β:Type}{J:β->aa->Prop}{B b:Nat}{x:β}{w w':aa}(h:J x w')(hB:B<=w.heap.size)(hk:KpB b w w'):Has J B x w':=⟨h,bg hB hk.size⟩
theorem QT (b0 b1 b2 b3:Nat)(s1 s2 s3:Prop)[Decidable s1][Decidable s2][Decidable s3]:
  ((qE b0 b1 b2 b3 s1 s2 s3).1=10↔b0=10)/\(b0=10->(qE b0 b1 b2 b3 s1 s2 s3).2=1)/\1<=(qE b0 b1 b2 b3 s1 s2 s3).2/\(qE b0 b1 b2 b3 s1 s2 s3).2<=4/\
  (2<=(qE b0 b1 b2 b3 s1 s2 s3).2->b1≠10/\s1)/\(3<=(qE b0 b1 b2 b3 s1 s2 s3).2->b2≠10/\s2)/\(4<=(qE b0 b1 b2 b3 s1 s2 s3).2->b3≠10/\s3):=by
 unfold qE;split
 .exact⟨Iff.rfl,λ_=>rfl,by omega,by omega,λh=>by omega,λh=>by omega,λh=>by omega⟩
 split
 .rename_i h1 h2;split
  .simp only;refine⟨by omega,by omega,by omega,by omega,λ_=>⟨by omega,h2.2.1⟩,by omega,by omega⟩
  simp only;omega
 split
 .rename_i h1 h2 h3;split
  .rename_i h4;simp only;refine⟨by omega,by omega,by omega,by omega,λ_=>⟨by omega,h3.1.2.1⟩,λ_=>⟨by omega,h3.2.1⟩,by omega⟩
  simp only;omega
 split
 .rename_i h1 h2 h3 h4;split
  .rename_i h5;simp only;refine⟨by omega,by omega,by omega,by omega,λ_=>⟨by omega,h4.1.1.2.1⟩,λ_=>⟨by omega,h4.1.2.1⟩,λ_=>⟨by omega,h4.2.1⟩⟩
  simp only;omega
 simp only;omega
theorem tH {s:ByteArray}{i:Nat}{from_:Int}(hi:i<s.size)(h:jk s i≠10):QI s (s.size-i) i from_=QI s (s.size-(i+1)) (i+1) from_:=by
 rw[show s.size-i=(s.size-(i+1))+1 by omega];simp only[QI];rw[ah h]
theorem p6 (s:ByteArray)(i:Nat):jk s (i:Int)=((s.get! i).toNat:Int):=nI s i 0
theorem MA {s:ByteArray}{pos:Nat}{from_:Int}(hp:pos<s.size)(h:¬((aH s pos).1:Int)=10):
  QI s (s.size-pos) pos from_=QI s (s.size-(pos+(aH s pos).2)) (pos+(aH s pos).2) from_/\pos+(aH s pos).2<=s.size:=by
 rw[sM s pos] at h ⊢;obtain⟨h1,_,h3,h4,h5,h6,h7⟩:=QT (s.get! (pos+0)).toNat (s.get! (pos+1)).toNat (s.get! (pos+2)).toNat (s.get! (pos+3)).toNat (pos+1<s.size) (pos+2<s.size) (pos+3<s.size);generalize qE (s.get! (pos+0)).toNat (s.get! (pos+1)).toNat (s.get! (pos+2)).toNat (s.get! (pos+3)).toNat (pos+1<s.size) (pos+2<s.size) (pos+3<s.size)=d at h h1 h3 h4 h5 h6 h7 ⊢;obtain⟨r,k⟩:=d;simp only at h h1 h3 h4 h5 h6 h7 ⊢;have b0:jk s (pos:Int)≠10:=by rw[p6];intro e;apply h;rw[h1.2 (by rw[akl];omega)];rfl
 have e0:=tH (from_:=from_) hp b0;rcases(show k=1\/k=2\/k=3\/k=4 by omega) with rfl|rfl|rfl|rfl
 .exact⟨e0,hp⟩
 .obtain⟨c1,d1⟩:=h5 (by omega);have e1:=tH (from_:=from_) d1 (by rw[p6];omega);exact⟨e0.trans e1,d1⟩
 .obtain⟨c1,d1⟩:=h5 (by omega);obtain⟨c2,d2⟩:=h6 (by omega);have e1:=tH (from_:=from_) d1 (by rw[p6];omega);have e2:=tH (from_:=from_) d2 (by rw[p6];omega);exact⟨(e0.trans e1).trans e2,d2⟩
 obtain⟨c1,d1⟩:=h5 (by omega);obtain⟨c2,d2⟩:=h6 (by omega);obtain⟨c3,d3⟩:=h7 (by omega);have e1:=tH (from_:=from_) d1 (by rw[p6];omega);have e2:=tH (from_:=from_) d2 (by rw[p6];omega);have e3:=tH (from_:=from_) d3 (by rw[p6];omega);exact⟨((e0.trans e1).trans e2).trans e3,d3⟩
theorem Fc {s:ByteArray}{pos:Nat}{from_:Int}(hp:pos<s.size)(h:((aH s pos).1:Int)=10):
  QI s (s.size-pos) pos from_=(from_,(pos:Int))::QI s (s.size-(pos+(aH s pos).2)) (pos+(aH s pos).2) ((pos:Int)+1)/\(aH s pos).2=1:=by
 rw[sM s pos] at h ⊢;obtain⟨h1,h2,_⟩:=QT (s.get! (pos+0)).toNat (s.get! (pos+1)).toNat (s.get! (pos+2)).toNat (s.get! (pos+3)).toNat (pos+1<s.size) (pos+2<s.size) (pos+3<s.size);have hb:=h1.1 (by omega);rw[h2 hb];refine⟨?_,rfl⟩;rw[show s.size-pos=(s.size-(pos+1))+1 by omega];simp only[QI];rw[ak (by rw[p6];rw[akl] at hb;omega)]
def XD (s:ByteArray)(c:Int×Int):Int×ByteArray:=(c.1,s.extract c.1.toNat c.2.toNat)
def pT (s:ByteArray):List (Int×ByteArray):=(aee s).map (XD s)
def XE (s:ByteArray)(pre:List (Int×ByteArray)):Prop:=∃rest,pre++rest=pT s
theorem OM (l b:Nat)(s:ByteArray)(J Jx:List (Int×ByteArray)->aa->Prop)(w:aa)(hs:s.size<=1000000000)(hb:w.heap[b]?=some (.cells #[.string s] 9 (0,0)))(hJ:AbS w.heap.size J)(hJx:AbS w.heap.size Jx)(hY:∀(pre:List (Int×ByteArray)) (x:Int×ByteArray) (W1:aa),J pre W1->(∃rest,pre++x::rest=pT s)->YieldAt aS 0 aq l #[.int .i64 x.1,.string x.2] W1 λe W'=>(e= .returned (.bool true)/\J (pre++[x]) W'/\KpB b W1 W')\/(e= .returned (.bool false)/\Jx (pre++[x]) W'))(h0:J [] w):
 Calls aq 57 [.func (.yield l) #[] #[],.pointer (some ⟨b,0,none⟩)].toArray w (λe W'=>(∃v,e= .returned v)/\((∃xs,xs=pT s/\J xs W')\/(∃pre,XE s pre/\Jx pre W'))):=by
 refine enter f57 34 func57 λa hA=>?_;replace hA:=jN [(0,.func (.yield l) #[] #[]),(1,pv b)] hA;have H:=aev hb;have hj:Has J w.heap.size [] w:=⟨h0,az _⟩;refine iz λK1 jZ=>?_;refine iE [(0,.func (.yield l) #[] #[]),(1,pv b),(3,iv 0)] hA H λa w2 hA H hG=>?_;replace hj:=hj.on hJ hG;refine jZ _ _ ?_;refine iz λK3 rV=>?_;refine iz λK4 E8=>?_;refine kV ?_;refine mV 0 1 [(6,.string s)] [(0,.func (.yield l) #[] #[]),(1,pv b),(3,iv 0),(6,.string s)] ((qh (On w2) b (0) (.string s))/\True) hA H ⟨by exact zL H 0 rfl 0,tv⟩ λa w5 hA H hG=>?_;replace hj:=hj.on hJ hG;refine mZ 1 ?_;refine CH 1 7 9 (.tmp 6) s [(0,.func (.yield l) #[] #[]),(1,pv b),(3,iv 0)] hA H Tryz.underlying9 λb6 a w7 H hA hG Fb=>?_;replace Fb:=bg hj.2 Fb;replace hj:=hj.on hJ hG;refine lX ?_;refine E8 _ _ ?_;refine lq 0 ?_;refine rB (Nat×Int×List (Int×ByteArray)) (λx_ a W=>(λ(pos:Nat) (start:Int) (pre:List (Int×ByteArray))=>jH 34 a (j8 [(0,.func (.yield l) #[] #[]),(1,pv b),(3,iv start),(7,pv b6)])/\(∃S,Fr (ag7 w) W S [.iter b6 s pos,.box b 9 [.string s]])/\pos<=s.size/\0<=start/\start<=(pos:Int)/\(pre.length:Int)<=start/\pre++(QI s (s.size-pos) pos start).map (XD s)=pT s/\Has J w.heap.size pre W) x_.1 x_.2.1 x_.2.2) (λx_=>(λ(pos:Nat) (start:Int) (pre:List (Int×ByteArray))=>s.size-pos) x_.1 x_.2.1 x_.2.2) (0,0,[]) ?_ (λx_ a w9 hI=>?_)
 ·(try dsimp only);exact⟨jN _ hA,⟨_,H⟩,by omega,by omega,by omega,by simp,rfl,hj⟩
 have⟨pos,start,pre⟩:=x_;have⟨hA,⟨S,H⟩,h1,h2,h3,h4,hi,hj⟩:=hI
 try dsimp only at h1 h2 h3 h4 hi hj
 replace H:Fr _ _ _ [.iter b6 s pos,.box b 9 [.string s]]:=H;refine iz λK10 BJ=>?_;refine kV ?_;have YM:=H.O5 0 rfl;refine mZ 0 ?_;refine Il 0 8 (.tmp 7) 0 b6 s pos [(0,.func (.yield l) #[] #[]),(1,pv b),(3,iv start),(7,pv b6)] hA H rfl (λzA a w12 H hA hG=>?_) (λzA a hA=>?_)
 .replace H:Fr _ _ _ [.iter b6 s (pos+(aH s pos).2),.box b 9 [.string s]]:=H;have hwd:=mG s pos zA;replace hj:=hj.next hJ Fb YM hG;refine mV 1 1 [] [(0,.func (.yield l) #[] #[]),(1,pv b),(3,iv start),(7,pv b6),(8,.tuple #[.bool true,.int .i64 (pos:Int),.int .i32 ((aH s pos).1:Int)]),(9,.bool true)] (TT/\True) hA H ⟨tv,tv⟩ λa w13 hA H hG=>?_;replace hj:=hj.on hJ hG;refine lX ?_;refine BJ _ _ ?_;refine iz λK14 zz=>?_;refine iY hA (.tmp 9) true (λ_=>?_) (λh=>by cases h);refine go_skip ?_;refine zz _ _ ?_;refine lq 1 ?_;refine iz λK16 AJ=>?_;refine q_reg [] [(0,.func (.yield l) #[] #[]),(1,pv b),(3,iv start),(4,iv (pos:Int)),(5,.int .i32 ((aH s pos).1:Int)),(7,pv b6)] (TT/\TT/\True) hA H ⟨tv,tv,tv⟩ λa w17 hA H hG=>?_;replace hj:=hj.on hJ hG;refine AJ _ _ ?_;refine iz λK18 E9=>?_;refine iz λK19 Xx=>?_;refine iE [(0,.func (.yield l) #[] #[]),(1,pv b),(3,iv start),(4,iv (pos:Int)),(7,pv b6),(13,.bool (!decide (((aH s pos).1:Int)=10)))] hA H λa w20 hA H hG=>?_;replace hj:=hj.on hJ hG;refine Xx _ _ ?_;refine iY hA (.tmp 13) (!decide (((aH s pos).1:Int)=10)) (λaew=>?_) (λaew=>?_)
  .have QU:=aG (nT aew);refine sr 1 ?_;refine⟨(pos+(aH s pos).2,start,pre),⟨jN _ hA,⟨_,H⟩,?_⟩,?_⟩
   ·(try dsimp only);exact⟨by have:=(MA (from_:=start) zA QU).2;omega,by omega,by omega,by omega,by rw[(MA zA QU).1] at hi;exact hi,hj⟩
   (try dsimp only);omega
  have QU:=aA (nF aew);refine go_skip ?_;refine E9 _ _ ?_;refine iz λK22 BK=>?_;refine iz λK23 Mz=>?_;have N2:=QU;refine HR 1 ?_;refine Dc 0 6 [(16,.string s),(19,.string (s.extract (start).toNat ((pos:Int)).toNat))] [(0,.func (.yield l) #[] #[]),(1,pv b),(4,iv (pos:Int)),(7,pv b6),(14,.func (.yield l) #[] #[]),(15,iv start),(19,.string (s.extract (start).toNat ((pos:Int)).toNat))] ((qh (On w20) b (0) (.string s))/\(∀w,(cA 9 (.string s) (some (.int .i64 start)) (some (.int .i64 (pos:Int))) none).run aq w= .ok (.string (s.extract (start).toNat ((pos:Int)).toNat)) w)/\True) hA H ⟨by exact zL H 1 rfl 0,λw=>zJ Tryz.underlying9 w (by omega) (by omega) (by omega),tv⟩ (λ⟨_,_,h⟩=>by obtain⟨⟨v,hv⟩,_⟩:=h;cases hv) λa w24 hA H hG=>?_;replace hj:=hj.on hJ hG;refine QO 6 20 l (.tmp 14) #[.tmp 15,.tmp 19] #[3,9] [.int .i64 start,.string (s.extract (start).toNat ((pos:Int)).toNat)] [(0,.func (.yield l) #[] #[]),(1,pv b),(4,iv (pos:Int)),(7,pv b6)] hA (hY pre (start,s.extract (start).toNat ((pos:Int)).toNat) _ hj.1 ⟨_,by have o7:=hi;rw[(Fc zA N2).1,bn] at o7;exact o7⟩) λe w25 aiM=>?_;rcases aiM with⟨rfl,hjn,XF⟩|⟨rfl,hjx⟩
  .refine⟨_,rfl,λa hA=>?_⟩;replace H:=QS rfl H XF;replace hj:=Has.kp hjn hj.2 XF;refine Dc 7 1 [] [(0,.func (.yield l) #[] #[]),(1,pv b),(4,iv (pos:Int)),(7,pv b6),(21,.bool false)] (True) hA H tv (λ⟨_,_,h⟩=>by obtain⟨⟨v,hv⟩,_⟩:=h;cases hv) λa w27 hA H hG=>?_;replace hj:=hj.on hJ hG;refine yA ?_;refine Mz _ _ ?_;refine iY hA (.tmp 21) false (λh=>by cases h) (λ_=>?_);refine go_skip ?_;refine BK _ _ ?_;refine q_reg [] [(0,.func (.yield l) #[] #[]),(1,pv b),(3,iv ((pos:Int)+1)),(7,pv b6)] ((jh .i64 ((pos:Int)+1))/\True) hA H ⟨⟨by omega,by omega⟩,tv⟩ λa w29 hA H hG=>?_;replace hj:=hj.on hJ hG;refine⟨(pos+(aH s pos).2,(pos:Int)+1,pre++[(start,s.extract (start).toNat ((pos:Int)).toNat)]),⟨jN _ hA,⟨_,H⟩,?_⟩,?_⟩
   ·(try dsimp only);exact⟨by have:=(Fc (from_:=start) zA N2).2;omega,by omega,by have:=(Fc (from_:=start) zA N2).2;omega,by rw[aN,bf,bP];omega,by rw[(Fc zA N2).1,bn,an1] at hi;exact hi,hj⟩
   (try dsimp only);omega
  refine⟨_,rfl,λa hA=>?_⟩;clear H;have H:=Fr.start (rU w25);refine Dc 7 1 [] [(0,.func (.yield l) #[] #[]),(1,pv b),(4,iv (pos:Int)),(7,pv b6),(21,.bool true)] (True) hA H tv (λ⟨_,_,h⟩=>by obtain⟨⟨v,hv⟩,_⟩:=h;cases hv) λa w30 hA H hG=>?_;replace hjx:=jon hJx hjx hG;refine yA ?_;refine Mz _ _ ?_;refine iY hA (.tmp 21) true (λ_=>?_) (λh=>by cases h);refine jy ?_;refine Kn (P:=aq) (fn:=f57) (R:=(λe W'=>(∃v,e= .returned v)/\((∃xs,xs=pT s/\J xs W')\/(∃pre,XE s pre/\Jx pre W')))) hA ?_;exact⟨⟨_,rfl⟩,.inr ⟨_,⟨_,by rw[(Fc zA N2).1,bn,an1] at hi;exact hi⟩,hjx⟩⟩
 skip
 refine mV 1 1 [] [(0,.func (.yield l) #[] #[]),(1,pv b),(3,iv start),(7,pv b6),(8,.tuple #[.bool false]),(9,.bool false)] (TT/\True) hA H ⟨tv,tv⟩ λa w32 hA H hG=>?_;replace hj:=hj.on hJ hG;refine lX ?_;refine BJ _ _ ?_;refine iz λK33 aa1=>?_;refine iY hA (.tmp 9) false (λh=>by cases h) (λ_=>?_);refine sr 0 ?_;refine rV _ _ ?_;refine iz λK35 aiN=>?_;have FO:pos=s.size:=by omega
 refine q_reg [(25,.string s)] [(0,.func (.yield l) #[] #[]),(1,pv b),(3,iv start),(27,.bool (decide (start<(s.size:Int))))] ((qh (On w32) b (0) (.string s))/\TT/\True) hA H ⟨by exact zL H 1 rfl 0,tv,tv⟩ λa w36 hA H hG=>?_;replace hj:=hj.on hJ hG;refine aiN _ _ ?_;refine iY hA (.tmp 27) (decide (start<(s.size:Int))) (λaex=>?_) (λaex=>?_)
 .have ag8:=aA aex;have sZ:pre++[(start,s.extract (start).toNat s.size)]=pT s:=by rw[show s.size-pos=0 by omega] at hi;simp only[QI] at hi;rw[ak (by omega)] at hi;exact hi
  refine HR 1 ?_;refine Dc 0 5 [(30,.string s),(32,.string (s.extract (start).toNat s.size))] [(28,.func (.yield l) #[] #[]),(29,iv start),(32,.string (s.extract (start).toNat s.size))] ((qh (On w36) b (0) (.string s))/\(∀w,(cA 9 (.string s) (some (.int .i64 start)) none none).run aq w= .ok (.string (s.extract (start).toNat s.size)) w)/\True) hA H ⟨by exact zL H 1 rfl 0,λw=>BR Tryz.underlying9 w (by omega) (by omega),tv⟩ (λ⟨_,_,h⟩=>by obtain⟨⟨v,hv⟩,_⟩:=h;cases hv) λa w38 hA H hG=>?_;replace hj:=hj.on hJ hG;refine QO 5 33 l (.tmp 28) #[.tmp 29,.tmp 32] #[3,9] [.int .i64 start,.string (s.extract (start).toNat s.size)] [] hA (hY pre (start,s.extract (start).toNat s.size) _ hj.1 ⟨_,sZ⟩) λe w39 aiO=>?_;rcases aiO with⟨rfl,hjn,XF⟩|⟨rfl,hjx⟩
  .refine⟨_,rfl,λa hA=>?_⟩;replace H:=QS rfl H XF;replace hj:=Has.kp hjn hj.2 XF;refine yA ?_;refine AX (P:=aq) (fn:=f57) (R:=(λe W'=>(∃v,e= .returned v)/\((∃xs,xs=pT s/\J xs W')\/(∃pre,XE s pre/\Jx pre W')))) hA ?_;exact⟨⟨_,rfl⟩,.inl ⟨_,sZ,hj.1⟩⟩
  refine⟨_,rfl,λa hA=>?_⟩;clear H;have H:=Fr.start (rU w39);refine yA ?_;refine AX (P:=aq) (fn:=f57) (R:=(λe W'=>(∃v,e= .returned v)/\((∃xs,xs=pT s/\J xs W')\/(∃pre,XE s pre/\Jx pre W')))) hA ?_;exact⟨⟨_,rfl⟩,.inr ⟨_,⟨[],by rw[aZ];exact sZ⟩,hjx⟩⟩
 have ag8:=aG aex;refine go_skip ?_;refine AX (P:=aq) (fn:=f57) (R:=(λe W'=>(∃v,e= .returned v)/\((∃xs,xs=pT s/\J xs W')\/(∃pre,XE s pre/\Jx pre W')))) hA ?_;have ag9:pre=pT s:=by rw[show s.size-pos=0 by omega] at hi;simp only[QI] at hi;rw[ah (by omega),cr,aZ] at hi;exact hi
 exact⟨⟨_,rfl⟩,.inl ⟨_,ag9,hj.1⟩⟩
end Go.Proofs.YtnfdimfepbbbpaaGreatDoor
namespace Go.Proofs.YtnfdimfepbbbpaaGreatDoor
open Go.RowKit Go.Shelf
attribute [local go_sem] Oper.semAt_some
theorem MB (F:Fence)(n:Nat)(h7:F.fn 119)(FJ:F.round=none)(hn:1<=n)(l Bs rb b off cap:Nat)(zs:List Int)(aiP:zs.length<=9223372036854775807)(J:Nat->aa->Prop)
  (hBs:∀k W,J k W->W.cell? ⟨Bs,0,none⟩=some (.pointer (some ⟨rb,0,none⟩))) (hrb:∀k W,J k W->W.cell? ⟨rb,3,none⟩=some (.slice (some ⟨b,off,none⟩) zs.length cap))
  (hc:∀k W,J k W->∀j,j<zs.length->W.cell? ⟨b,off+j,none⟩=some (.int .i64 (zs.getD j 0)))
  (hY:∀k W,J k W->k<zs.length->YieldAt F (n-1) aq l #[.int .i64 (zs.getD k 0)] W λe W'=>e= .returned (.bool true)/\J (k+1) W')
  (W:aa) (h0:J 0 W):
  CallsIn F n aq 119 #[.func (.yield l) #[] #[],.pointer (some ⟨Bs,0,none⟩)] W λe W'=>(∃v,e= .returned v)/\J zs.length W':=by
 have aiQ:=hBs _ _ h0;have aiR:=hrb _ _ h0;refine callsIn_of_wp func119 rfl h7 ?_ FJ;simp only[Tryz.ntmps119,aj0,bf,bP,an2,an3,an4,an5,an6,an7,cm,dh]
 gi_wp2
 gi_loopw [12] (λi wr=> ∃k:Nat,k<=zs.length/\i= .int .i64 k/\J k wr)
  (λi _=>zs.length-(Go.RowKit.intOf i).toNat)
 case atStart=>exact⟨0,bF _,rfl,h0⟩
 case round=>
  obtain⟨k,hk,rfl,hJs⟩:=hrel;have hcx:k<zs.length->wr.cell? ⟨b,off+k,none⟩=some (.int .i64 (zs.getD k 0)):=λh=>hc k wr hJs k h
  by_cases oB:k<zs.length
  .obtain⟨fn,tmps,assign,body,hy,hR⟩:=hY _ wr hJs oB;have aiS:=hcx oB;generalize zs.getD k 0=x at hy hR aiS;clear hcx
   gi_wp2
   refine hR.mono ?_;rintro e W3 ⟨rfl,hJ3⟩
   gi_wp2
   go_roundw
   case rel=>exact⟨k+1,by omega,by simp,hJ3⟩
   case measure=>simp[Go.RowKit.intOf];omega
  obtain rfl:k=zs.length:=by omega
  gi_wp2
  go_end0
  exact⟨⟨_,rfl⟩,hJs⟩
theorem OO (F:Fence)(n:Nat)(h7:F.fn 119)(FJ:F.round=none)(hn:1<=n)(l Bs rb cap:Nat)(p:Option Addr)(J:Nat->aa->Prop)
  (hBs:∀k W,J k W->W.cell? ⟨Bs,0,none⟩=some (.pointer (some ⟨rb,0,none⟩))) (hrb:∀k W,J k W->W.cell? ⟨rb,3,none⟩=some (.slice p 0 cap))
  (W:aa) (h0:J 0 W):
  CallsIn F n aq 119 #[.func (.yield l) #[] #[],.pointer (some ⟨Bs,0,none⟩)] W λe W'=>(∃v,e= .returned v)/\J 0 W':=by
 have aiQ:=hBs _ _ h0;have aiR:=hrb _ _ h0;refine callsIn_of_wp func119 rfl h7 ?_ FJ;simp only[Tryz.ntmps119,aj0,bf,bP,an2,an3,an4,an5,an6,an7,cm,dh]
 gi_wp2
 gi_loopw [12] (λi wr=>i= .int .i64 0/\J 0 wr)
  (λi _=>0)
 case atStart=>exact⟨rfl,h0⟩
 case round=>
  obtain⟨rfl,hJs⟩:=hrel
  gi_wp2
  go_end0
  exact⟨⟨_,rfl⟩,hJs⟩
def QV (P:ay) (f:bA):Prop:=(∃fn,P.funcs[f]?=some fn/\fn.body.isSome=true/\(fn.name== "runtime.NumGoroutine")=false)/\∀(l Bs rb cap:Nat) (p:Option Addr) (zs:List Int) (J:Nat->aa->Prop),zs.length<=9223372036854775807->
 (∀k W,J k W->W.cell? ⟨Bs,0,none⟩=some (.pointer (some ⟨rb,0,none⟩)))->(∀k W,J k W->W.cell? ⟨rb,3,none⟩=some (.slice p zs.length cap))->
 (zs=[]\/∃b off,p=some ⟨b,off,none⟩/\∀k W,J k W->∀j,j<zs.length->W.cell? ⟨b,off+j,none⟩=some (.int .i64 (zs.getD j 0)))->
 (∀k W,J k W->k<zs.length->YieldAt aS 0 P l #[.int .i64 (zs.getD k 0)] W λe W'=>e= .returned (.bool true)/\J (k+1) W')->
 ∀W,J 0 W->CallsIn aS 0 P f #[.func (.yield l) #[] #[],.pointer (some ⟨Bs,0,none⟩)] W λe W'=>(∃v,e= .returned v)/\J zs.length W'
theorem MC:QV aq 119:=by
 refine⟨⟨f119,func119,by kernel_rfl,by kernel_rfl⟩,λl Bs rb cap p zs J hz hBs hrb hc hY W h0=>?_⟩;refine callsIn_wide.2 ((callsIn_wide (n:=1)).1 ?_);rcases hc with rfl|⟨b,off,rfl,hc⟩
 .exact OO aS 1 tv rfl (az _) l Bs rb cap p J hBs hrb W h0
 exact MB aS 1 tv rfl (az _) l Bs rb b off cap zs hz J hBs hrb hc hY W h0
abbrev CD:Ty:=.pair (.list (.list .int)) (.pair (.map .int .int) (.pair (.map .int .int) (.list .int)))
def cD (D:Nat):cR:={target:=.collected D,args:= #[]}
def OP (D:Nat)(Q:oh):oh:=λe a w=>Q e (kS a [cD D]) w
def SN:List It->Bool
 |[]=>true
 | .lp _::_=>false
 |_::r=>SN r
structure RGI where
 pt:List Nat
 r:List It
 p:Nat
 f:bA
 q:Nat
 j:Nat
 t:Nat
def BL (B:Code)(n:Nat)(σ:mM):List It->Option RGI
 | .run p::r=>match sub B p with
  | .rangeFunc (.tmp t) ps _ _=>match ps.toList,rI σ t with
   |[x],some ⟨[],.one (.uk f [(q,0)])⟩=>match nS σ q with
    |some (.box _ [.pd j])=>match bw x n && SN r with
     |true=>some ⟨p,r,x,f,q,j,t⟩
     |false=>none
    |_=>none
   |_,_=>none
  |_=>none
 |_=>none
def gI:Option RGI->RGI
 |some x=>x
 |none=>⟨[],[],0,0,0,0,0⟩
def qB (I:RGI)(σ:mM):Bool:=match nS σ I.q with
 |some (.box _ [.pd j])=>aP j I.j
 |_=>false
def scB (k:Nat):Sc->Bool
 | .v _=>true
 | .b _=>true
 | .own j=>bw j k
 | .mp j=>bw j k
 | .ptr j _=>bw j k
 | .pd j=>bw j k
 | .uk _ ko=>ko.all λc=>bw c.1 k
 |_=>false
def syB (k:Nat):Sy->Bool
 | .one c=>scB k c
 | .agg cs=>cs.all (scB k)
 | .tN ps=>ps.all λp=>p.2.all (scB k)
def aha (k:Nat)(env:List (Nat×Option E2)):Bool:=env.all λp=>match p.2 with
 |some e=>e.ch.isEmpty && syB k e.sy
 |none=>true
def QW (rs:List (Nat×Option R2)):Bool:=rs.all λp=>match p.2 with
 |some x=>!sB x
 |none=>true
def abf (p:Nat)(x:Int)(σ:mM):mM:=⟨(p,some ⟨[],.one (.v (.int .i64 x))⟩)::σ.env,σ.rs,σ.nx⟩
def ahb (D:Nat)(σ:mM):mM:=⟨σ.env,(σ.nx,some (.ext (.FF D)))::σ.rs,σ.nx+1⟩
def F4 (σ:mM):mM:=⟨[],σ.rs,σ.nx⟩
def aey:List It->Bool
 |[]=>true
 |_=>false
def abg:Option ZC->Bool
 |some x=>x.cs.isEmpty && (x.hs.isEmpty && (aey x.st && QW x.σ.rs))
 |none=>false
theorem vl {σ:mM}(h:QW σ.rs=true){j:Nat}{x:R2}(hj:nS σ j=some x):sB x=false:=by
 have:=aU.1 h _ (pR hj);simpa using this
theorem Fe (g:aM)(ps:Array Tmp)(x y:Code):sub (.rangeFunc g ps x y) [0]=x:=by simp only[sub];cases x<;>rfl
theorem Ff (g:aM)(ps:Array Tmp)(x y:Code):sub (.rangeFunc g ps x y) [1]=y:=by simp only[sub];cases y<;>rfl
theorem v8 {a b:Nat}(h:bw a b=true):a<b:=by simpa[bZ] using h
theorem Fg {k:Nat}:∀ {c:Sc},scB k c=true->c.all (· <k)/\∀A,c.ku A
 | .v _,_=>⟨tv,λ_=>trivial⟩
 | .b _,_=>⟨tv,λ_=>trivial⟩
 | .own j,h=>⟨v8 h,λ_=>trivial⟩
 | .mp j,h=>⟨v8 h,λ_=>trivial⟩
 | .ptr j _,h=>⟨v8 h,λ_=>trivial⟩
 | .pd j,h=>⟨v8 h,λ_=>trivial⟩
 | .uk _ ko,h=>⟨λc hc=>v8 (aU.1 h c hc),λ_=>trivial⟩
 | .el _ _ _ _,h=>by cases h
 | .hd _ _ _,h=>by cases h
theorem XG {k:Nat}:∀ {y:Sy},syB k y=true->y.all (· <k)/\∀A,y.ku A
 | .one c,h=>Fg h
 | .agg cs,h=>⟨λc hc=>(Fg (aU.1 h c hc)).1,λA c hc=>(Fg (aU.1 h c hc)).2 A⟩
 | .tN ps,h=>⟨λp hp c hc=>(Fg (aU.1 (aU.1 h p hp) c hc)).1,λA p hp c hc=>(Fg (aU.1 (aU.1 h p hp) c hc)).2 A⟩
theorem xG (a:Act)(x y:List cR):kS (kS a x) y=kS a (x++y):=by unfold kS;rw[bl]
section
variable {o:jw}{n:Nat}{A A' A0:jA}{S S' S0:iD}{F:Nat->Prop}{s:Nat->Option E2}{f g:Nat->Option Rs}{w w' W:aa}{a:Act}{kp l D:Nat}{σ σ2:mM}
def nM.rU (H:nM o w S f)(kp:Nat)(A:jA):jw:=
 ⟨⟨w,S,H.nN⟩,λb=> ∃j rr,f j=some rr/\rr.has b,λk ⟨j,rr,h1,h2⟩=>(H.own j rr k h1 h2).2.2,λk ⟨j,rr,h1,h2⟩=>(H.own j rr k h1 h2).2.1,(· <kp),A,kp⟩
theorem nM.abh (H:nM o w S f)(kp:Nat)(A:jA):nM (H.rU kp A) w S f:=
 ⟨qA.refl _ _,λ_ h=>.inl h,H.nN,H.ok,λj r b h1 h2=>⟨.inr ⟨j,r,h1,h2⟩,(H.own j r b h1 h2).2⟩,H.apart⟩
theorem nM.JT (H:nM o w S f){b:Nat}(h:(H.rU kp A).new b):o.new b:=h.elim (λq=>jw.Kw H.sj q) λ⟨j,rr,h1,h2⟩=>(H.own j rr b h1 h2).1
theorem nM.back (H:nM o w S f)(H2:nM (H.rU kp A) w' S' g):nM o w' S' g:=by
 refine⟨H.sj.trans H2.sj λj hj q=>?_,λk hk=>?_,H2.nN,H2.ok,λj r b h1 h2=>?_,H2.apart⟩
 .rcases H.JT (kp:=kp) (A:=A) (.inr q) with q|q
  .omega
  exact q
 .rcases H2.src k hk with q|q
  .exact H.src k q
  exact .inr (H.JT q)
 obtain⟨x,y⟩:=H2.own j r b h1 h2;exact⟨H.JT x,y⟩
theorem nM.other (H:nM o w S f)(hl:o.new l)(hS:¬S l)(hn:∀j r,f j=some r->¬r.has l)(hg:qA w w' (· =l)):nM o w' S f where
 sj:=H.sj.trans hg λj hj q=>by
  subst q;rcases hl with q|q
  .omega
  exact q
 src:=H.src
 nN k hk:=bh (H.nN k hk) hg.size
 ok j r hj:=r.keep _ _ _ (H.ok j r hj) (λk hk=>hg.block k (H.nN k hk) λe=>hS (e▸hk)) λb hb=>hg.block b (H.own j r b hj hb).2.1 λe=>hn j r hj (e▸hb)
 own j r b hj hb:=let⟨x,y,z⟩:=H.own j r b hj hb;⟨x,bh y hg.size,z⟩
 apart:=H.apart
theorem abi (w:aa)(l:Nat)(x:Obj):qA w (w.putObj l x) (· =l):=⟨rfl,rfl,rfl,by rw[akh];exact az _,λk _ hn=>dI hn⟩
def Lone (o:jw)(S:iD)(f:Nat->Option Rs)(w:aa)(l:Nat):Prop:=o.new l/\¬S l/\(∀j r,f j=some r->¬r.has l)/\l<w.heap.size
structure MS (o:jw)(kp:Nat)(A0:jA)(S0:iD)(l D:Nat)(σ:mM)(A:jA)(S:iD)(W:aa):Prop where
 jl:nM o W S (ji A (nS σ))
 kP:∀j x,nS σ j=some x->j<σ.nx/\x.all (· <σ.nx)/\x.ku A
 MD:kZ (· <kp) A0 A
 s0:∀k,S0 k->(∀j r,ji A (nS σ) j=some r->¬r.has k)/\k<W.heap.size
 l1:Lone o S (ji A (nS σ)) W l
 d1:Lone o S (ji A (nS σ)) W D
theorem MS.lone (m:MS o kp A0 S0 l D σ A S W){k:Nat}(hk:Lone o S (ji A (nS σ)) W k)(H2:nM (m.jl.rU kp A) w' S' g):Lone o S' g w' k/\w'.heap[k]?=W.heap[k]?:=by
 have⟨h1,h2,h3,h4⟩:=hk;have B4:¬(m.jl.rU kp A).new k:=λq=>q.elim (λq=>by have q:W.heap.size<=k:=q;omega) λ⟨j,r,q1,q2⟩=>h3 j r q1 q2;refine⟨⟨h1,λq=>?_,λj r q1 q2=>B4 (H2.own j r k q1 q2).1,bh h4 H2.sj.size⟩,H2.sj.block k h4 λq=>B4 (.inr q)⟩;rcases H2.src k q with q|q
 .exact h2 q
 exact B4 q
theorem MS.keeps (m:MS o kp A0 S0 l D σ A S W)(H2:nM (m.jl.rU kp A) w' S' g):kU S0 W w':=λk hk=>H2.sj.block k (m.s0 k hk).2 λ⟨j,r,q1,q2⟩=>(m.s0 k hk).1 j r q1 q2
theorem MS.next (m:MS o kp A0 S0 l D σ A S W){a:Act}(H2:kD (m.jl.rU kp A) n A' S' (· <σ2.nx) s (nS σ2) a w'):MS o kp A0 S0 l D σ2 A' S' w' where
 jl:=m.jl.back H2.jl
 kP:=H2.kP
 MD:=m.MD.trans H2.AP.2
 s0 k hk:=by
  obtain⟨h1,h2⟩:=m.s0 k hk;refine⟨λj r q1 q2=>?_,bh h2 H2.jl.sj.size⟩;rcases(H2.jl.own j r k q1 q2).1 with q|⟨j,r,q1,q2⟩
  .have q:W.heap.size<=k:=q;omega
  exact h1 j r q1 q2
 l1:=(m.lone m.l1 H2.jl).1
 d1:=(m.lone m.d1 H2.jl).1
theorem MS.put (m:MS o kp A0 S0 l D σ A S W)(x:Obj)(hlD:l≠D):MS o kp A0 S0 l D σ A S (W.putObj l x) where
 jl:=m.jl.other m.l1.1 m.l1.2.1 m.l1.2.2.1 (abi W l x)
 kP:=m.kP
 MD:=m.MD
 s0 k hk:=⟨(m.s0 k hk).1,by rw[akh];exact(m.s0 k hk).2⟩
 l1:=⟨m.l1.1,m.l1.2.1,m.l1.2.2.1,by rw[akh];exact m.l1.2.2.2⟩
 d1:=⟨m.d1.1,m.d1.2.1,m.d1.2.2.1,by rw[akh];exact m.d1.2.2.2⟩
end
theorem HS {S:iD}{w W:aa}{l:Nat}(x:Obj)(h:kU S w W)(hl:∀k,S k->k≠l):kU S w (W.putObj l x):=λk hk=>(dI (hl k hk)).trans (h k hk)
theorem XH {a:Act}(ha:a.defers=[])(D:Nat)(ds:List cR):({kS a ds with defers:=[cD D]++(kS a ds).defers}:Act)=kS (kS a [cD D]) ds:=by
 unfold kS;rw[ha];simp
section
variable {mo:Mode}{P:ay}{o:jw}{n:Nat}{σ:mM}{a:Act}{w:aa}{T:List (kI P)}{B:Code}{Q:oh}{st:List It}
theorem AL {ds:List cR}(D:Nat):∀ {r:List It} (e:Exit) (a:Act) (w:aa),SN r=true->post ⟨none,cD D::ds⟩ P B (OP D Q) r e a w->post ⟨none,ds⟩ P B Q r e (kS a [cD D]) w
 |[],e,a,w,_,h=>h
 | .lp _::_,_,_,_,hr,_=>by cases hr
 | .lV i::r,e,a,w,hr,h=>by
  have ih:=λe a w=>AL (ds:=ds) D (r:=r) e a w hr;cases e with
  |exit j=>
   have h:if j=i then post ⟨none,cD D::ds⟩ P B (OP D Q) r .normal a w else post ⟨none,cD D::ds⟩ P B (OP D Q) r (.exit j) a w:=h;show if j=i then post ⟨none,ds⟩ P B Q r .normal _ w else post ⟨none,ds⟩ P B Q r (.exit j) _ w;split
   .rename_i q;rw[ak q] at h;exact ih _ _ _ h
   rename_i q;rw[ah q] at h;exact ih _ _ _ h
  |_=>exact ih _ _ _ h
 | .run p::r,e,a,w,hr,h=>by
  have ih:=λe a w=>AL (ds:=ds) D (r:=r) e a w hr;cases e with
  |normal=>
   have h:(sub B p).wpIn aS 0 P (rH ⟨none,cD D::ds⟩ (post ⟨none,cD D::ds⟩ P B (OP D Q) r)) (kS a (cD D::ds)) w:=h;show(sub B p).wpIn aS 0 P (rH ⟨none,ds⟩ (post ⟨none,ds⟩ P B Q r)) (kS (kS a [cD D]) ds) w;rw[xG];refine wpIn_mono h λe a w ⟨a0,h1,h2⟩=>⟨kS a0 [cD D],?_,ih _ _ _ h2⟩;rw[h1,xG];rfl
  |_=>exact ih _ _ _ h
theorem ME {Y:Type}{f:bA}(YM:QV P f)(acc:Y->mM)(kp:Nat)(Inv:Nat->Y->Prop)(y0:Y)(ρ:List (Nat×Option Nat))(pd:tL (El CD))(d:List (List Int)×(List (Int×Int)×(List (Int×Int)×List Int)))
  (h:lE o n σ a w) (hpd:pd=(some d:Option (El CD))) (hI:Inv 0 y0)
  (round:∀(k:Nat) (y:Y) (og:Orig) (G:Nat->Prop) (gS:∀b,G b->¬og.S b) (Za:∀b,G b->b<og.w.heap.size) (A:jA) (l:Nat) (a:Act) (w:aa) (K:oh),
   (∀(y':Y) (ρ:List (Nat×Option Nat)) {uE:mM} {a:Act} {w:aa},lE ⟨og,G,gS,Za,(· <kp),A,kp⟩ n uE a w->Inv (k+1) y'->(h2:lU ρ uE (F4 (acc y')):=by delta lU;kernel_rfl)->(h3:qQ ρ (F4 (acc y'))=true:=by kernel_rfl)->(h4:zb ρ kp=true:=by kernel_rfl)->K .normal a w)->
   k<d.2.2.2.length->Inv k y->lE ⟨og,G,gS,Za,(· <kp),A,kp⟩ n (xS (r5 P T [] n B [.run ((gI (BL B n (acc y0) st)).pt++[0])] (abf (gI (BL B n (acc y0) st)).p (d.2.2.2.getD k 0) (acc y)))) a w->
   At ⟨some l,[]⟩ P T B K [.run ((gI (BL B n (acc y0) st)).pt++[1])] a w)
  (after:∀(y:Y) (D:Nat) (a:Act) (w:aa),Inv d.2.2.2.length y->lE o n (ahb D (acc y)) a w->At ⟨none,cD D::mo.ds⟩ P T B (OP D Q) (gI (BL B n (acc y0) st)).r a w)
  (FJ:mo.ro=none:=by rfl) (ht:(BL B n (acc y0) st).isSome=true:=by kernel_rfl) (hf:(gI (BL B n (acc y0) st)).f=f:=by kernel_rfl)
  (hj:nS (acc y0) (gI (BL B n (acc y0) st)).j=some (.ext (.zN CD pd)):=by kernel_rfl)
  (c1:∀y,(acc y).env=(acc y0).env:=by intro y;kernel_rfl) (c2:aha kp (acc y0).env=true:=by kernel_rfl) (c3:∀y,QW (acc y).rs=true:=by intro y;kernel_rfl)
  (c4:∀y,akb kp (acc y).nx=true:=by intro y;kernel_rfl) (c5:akb o.kp kp=true:=by kernel_rfl)
  (c6:(bw (gI (BL B n (acc y0) st)).q kp && bw (gI (BL B n (acc y0) st)).j kp)=true:=by kernel_rfl) (c7:∀y,qB (gI (BL B n (acc y0) st)) (acc y)=true:=by intro y;kernel_rfl)
  (c8:∀y x,abg (r5 P T [] n B [.run ((gI (BL B n (acc y0) st)).pt++[0])] (abf (gI (BL B n (acc y0) st)).p x (acc y)))=true:=by intro y x;kernel_rfl)
  (h1:kM ρ σ (acc y0):=by delta kM;kernel_rfl) (h2:lU ρ σ (acc y0):=by delta lU;kernel_rfl) (h3:qQ ρ (acc y0)=true:=by kernel_rfl) (h4:zb ρ o.kp=true:=by kernel_rfl):At mo P T B Q st a w:=by
 have hs:=uu ρ h h1 h2 h3 h4;clear h h1 h2 h3 h4;subst hpd;obtain⟨I,B9⟩:=bG.1 ht;simp only[B9,gI] at round after hf hj c6 c7 c8;clear ht;unfold BL at B9;split at B9
 .rename_i pt r;split at B9
  .rename_i t ps asg body oX;split at B9
   .rename_i x f' q Kl he;split at B9
    .rename_i bt j hR;split at B9
     .rename_i hg;cases B9;dsimp only at round after hf hj c6 c7 c8;subst hf;obtain⟨⟨A0,S0,H⟩,aiT,np⟩:=hs;rw[aR] at hg c6;have hxn:=v8 hg.1;have hq:=v8 c6.1;have hjk:=v8 c6.2;have XI:ps= #[x]:=by rw[<-akL,Kl]
      have hv:a.eval (.tmp t)= .func (.func f') #[] #[.pointer (some ⟨A0.b q,0,none⟩)]:=by
       have hv:=(H.env t _ he).1 (λl hl=>by cases hl);simp only[dz,cq];rw[show a.tmps[t]?=some (.func (.func f') #[] #[.pointer (some ⟨A0.b q,0,none⟩)]) from hv];rfl
      have we:∀y t e,rI (acc y) t=some e->e.ch=[]/\e.sy.all (· <kp)/\(∀A,e.sy.ku A)/\∀A,kZ (· <kp) A0 A->F9 a ⟨t,e.ch,e.sy.den A⟩:=λy t e ht=>by
       have ht:rI (acc y0) t=some e:=by unfold rI at ht ⊢;rw[<-c1 y];exact ht
       have hm:(t,some e)∈(acc y0).env:=(uO ht).resolve_left λq=>by cases q
       have:=aU.1 c2 _ hm;simp only[aR] at this;obtain⟨k1,k2⟩:=XG this.2;exact⟨dR.1 this.1,k1,k2,λA hA=>by rw[<-Sy.congr hA k1];exact H.env t e ht⟩
      have Vs:∀y j,j<kp->j<(acc y).nx:=λy j hj=>bh hj (akc (c4 y));have hm:ji A0 (nS (acc y0)) j=some (R2.den A0 j (.ext (.zN CD (show tL (El CD) from(some d:Option (El CD)))))):=by show(nS (acc y0) j).map _=_;rw[hj];rfl
      have nO:Rd S0 w (.pointer (A0.p j)) (show tL (El CD) from(some d:Option (El CD))):=H.jl.ok j _ hm;obtain⟨rb,cur,ct,fz,cs,e1,e2,e3,e4,e5⟩:=(show sP S0 w (.pointer (A0.p j)) (some d:Option (El CD)) from vB nO);obtain⟨v3,hv3,sI⟩:=(pO CD e4).get (j:=3) (c:=.l .int d.2.2.2) rfl;have sI:Rd S0 w v3 (show List Int from d.2.2.2):=sI;obtain⟨pp,cap,rfl,z1,z2,z3⟩:=jV sI;have e53:=(e5 3 (by decide)).trans hv3;generalize Tk:d.2.2.2=zs at*
      refine⟨?_⟩;show(sub B pt).qC mo P (post mo P B Q r) a w;rw[oX];have⟨ro,ds⟩:=mo;have FJ:ro=none:=FJ;subst FJ;show(an8 (.tmp t) ps asg body).wpIn aS 0 P (rH ⟨none,ds⟩ (post ⟨none,ds⟩ P B Q r)) (kS a ds) w;refine wpIn_rangeFunc λfn _=>?_;obtain⟨rec,yE⟩:∃rec:LoopState->Option Code->Loop,rec=λst pe=>{state:=st,pending:=pe,fn,tmps:=a.tmps,params:=ps,assign:=asg,body,defers:=w.heap.size}:=⟨_,rfl⟩;obtain⟨W1,XJ⟩:∃W1,(w.alloc (.deferred (some []))).alloc (.loop (rec .ready none))=W1:=⟨_,rfl⟩;have Tx:W1.heap[w.heap.size+1]?=some (.loop (rec .ready none)):=by
       rw[<-XJ];have:=alR (w.alloc (.deferred (some []))) (.loop (rec .ready none));rwa[an9] at this
      have jZ:W1.heap[w.heap.size]?=some (.deferred (some [])):=by
       rw[<-XJ];exact(Below.heap_alloc _ _ _ (by simp)).trans (alR w _)
      have F6:Below w.heap.size w W1:=by
       rw[<-XJ];exact((Below.refl _ w).alloc (az _) _).alloc (by simp) _
      have mu:W1.heap.size=w.heap.size+2:=by rw[<-XJ];simp
      have hSl:∀k,S0 k->k≠w.heap.size+1:=λk hk e=>by have:=H.jl.nN k hk;omega
      have eg:∀args w,(callFunc f' args).run P w= .ok (.enter f' args) w:=by
       obtain⟨⟨fn,q1,q2,q3⟩,_⟩:=YM;intro args w;have Rk:¬fn.name= "runtime.NumGoroutine" :=by simpa using q3
       have qd:¬fn.body=none:=by
        intro e;rw[e] at q2;cases q2
       simp[callFunc,program,cj,q1,Rk,qd]
      refine⟨w.heap.size+1,[cD w.heap.size],W1,{target:=.fn (.func f') #[.pointer (some ⟨A0.b q,0,none⟩)],args:= #[.func (.yield (w.heap.size+1)) #[] #[]]},W1,f',
       #[.func (.yield (w.heap.size+1)) #[] #[]]++ #[.pointer (some ⟨A0.b q,0,none⟩)],W1,?_,?_,?_,?_,(λq=>by cases q),?_⟩
      .rw[<-XJ,yE];exact run_enterLoop_outer _ _ _ _ _
      .simp only[resolve,xX,hv];simp[go_sem]
      .intro _ _;trivial
      .simp[invoke,go_sem,eg]
      obtain⟨J,hJ⟩:∃J:Nat->aa->Prop,J=λk W=> ∃y A S,Inv k y/\MS o kp A0 S0 (w.heap.size+1) w.heap.size (acc y) A S W/\kU S0 w W/\W.heap[w.heap.size+1]?=some (.loop (rec .ready none))/\W.heap[w.heap.size]?=some (.deferred (some [])):=⟨_,rfl⟩;refine(YM.2 (w.heap.size+1) (A0.b q) rb cap pp zs J (bg z1 (bg z2 (by decide))) ?_ ?_ ?_ ?_ W1 ?_).mono ?_
      .rw[hJ];rintro k W ⟨y,A,S,_,m,_,_,_⟩;have h7:=c7 y;unfold qB at h7;dsimp only at h7;split at h7
       .rename_i bt' j' hR';have:=jP h7;subst this;have Dw:ji A (nS (acc y)) q=some (Rs.of (.box (A.b q) bt' [.pointer (A.p j')])):=by simp[ji,hR',R2.den,Sc.den]
        have hb:W.heap[A.b q]?=some (.cells #[.pointer (A.p j')] bt' (0,0)):=m.jl.ok q _ Dw;have eb:A0.b q=A.b q:=(m.MD q hq).2.1;have ep:A0.p j'=A.p j':=by
         have:=(m.MD j' hjk).1;unfold jA.v at this;injection this
        rw[eb,cell_of_row W _ 0 _ _ _ hb];show some (cx (A.p j'))=_;rw[<-ep];exact aL some e1
       cases h7
      .rw[hJ];rintro k W ⟨y,A,S,_,m,hk,_,_⟩;rw[cell_of_row W rb 3 cur ct fz ((hk rb e2).trans e3)];exact e53
      .rcases z3 with z3|⟨g,off,ahc,t',fz',z4,z5,z6,z7⟩
       .exact .inl z3
       refine .inr ⟨g,off,z4,?_⟩;rw[hJ];rintro k W ⟨y,A,S,_,m,hk,_,_⟩ i hi;obtain⟨AO,q1,q2⟩:=z7 i hi;have q1:AO=[.int .i64 zs[i]]:=q1;have q2:=q2 0 (by decide);rw[cell_of_row W g (off+i) ahc t' fz' ((hk g z5).trans z6)];have q2:ahc[off+i*1+0]?=AO[0]?:=q2;rw[amD,akl] at q2;rw[q2,q1,aJ,aY hi];rfl
      ·
       subst hJ;rintro k W ⟨y,A,S,hi,m,hk,hl,hD⟩ oB;have hy:=run_yield (P:=P) (args:= #[.int .i64 (zs.getD k 0)]) hl (by rw[yE,XI];rfl);rw[yE] at hy;refine⟨fn,_,asg,body,hy,roundIn_of_wpIn tv ?_⟩;have aez:({tmps:=(ps.zip #[.int .i64 (zs.getD k 0)]).foldl (λt (p,v)=>t.setIfInBounds p v) a.tmps,defers:=[]}:Act)=a.put (some x) (.int .i64 (zs.getD k 0)):=by
        have hd:=H.lH;obtain⟨tm,df⟩:=a;simp only at hd;subst hd XI;simp[dA]
       have H1:kD (m.jl.rU kp A) n A S (· <(acc y).nx) (rI (acc y)) (nS (acc y)) a W:=
        ⟨H.size,H.lH,λt e he=>(we y t e he).2.2.2 A m.MD,λt e he _=>⟨Sy.mono (Vs y) (we y t e he).2.1,(we y t e he).2.2.1 A⟩,m.kP,m.jl.abh kp A,λj x hj=>nD (vl (c3 y) hj),⟨Vs y,kZ.refl _ _⟩⟩
       have H2:=H1.put (C:=[]) (d:=x) (y:=.one (.v (.int .i64 (zs.getD k 0)))) (u:=.int .i64 (zs.getD k 0)) hxn (λt e he l hl=>by rw[(we y t e he).1] at hl;cases hl) (λl hl=>by cases hl) (λ_=>⟨tv,tv⟩) ⟨λ_=>rfl,λq=>(q λl hl=>by cases hl).elim⟩;have O2:lE (m.jl.rU kp A) n (abf x (zs.getD k 0) (acc y)) (a.put (some x) (.int .i64 (zs.getD k 0))) W:=by
        refine⟨⟨A,S,H2⟩,λt e he=>?_,λj q=>q⟩;have he:rZ (rI (acc y)) x (some ⟨[],.one (.v (.int .i64 (zs.getD k 0)))⟩) t=some e:=he
        by_cases q:x=t
        .subst q;rw[mh] at he;cases he;rfl
        rw[qZ q] at he;exact(we y t e he).1
       have h8:=c8 y (zs.getD k 0);have nO:=round k y;cases hE:r5 P T [] n B [.run (pt++[0])] (abf x (zs.getD k 0) (acc y)) with
       |none=>rw[hE] at h8;cases h8
       |some ex=>
       rw[hE] at h8 nO;unfold abg at h8;simp only[aR] at h8;have⟨a1,a2,a3,a4⟩:=h8;have a1:=dR.1 a1;have a2:=dR.1 a2;have a3:ex.st=[]:=by cases AQ:ex.st<;>rw[AQ] at a3<;>first|rfl|cases a3
       have G1:=(go (mo:=⟨some (w.heap.size+1),[]⟩) (T:=T) (B:=B) (st:=[.run (pt++[0])]) (pr:=True) (Q:=λe a1 w1=>e= .normal/\lE (m.jl.rU kp A) n ex.σ a1 w1) [] O2 tv
        (λa w h=>by rw[hE] at h ⊢;show At _ P T B _ ex.st a w;rw[a3];exact⟨⟨rfl,h⟩⟩) (by rw[hE];rfl) (by rw[hE];show Ru ex.cs=True;rw[a1];rfl) (λA w=>by rw[hE];show ex.hs.map _=_;rw[show xH (some ex)=ex.hs from rfl,a2];rfl)).get
       have G1:(sub B (pt++[0])).qC ⟨some (w.heap.size+1),[]⟩ P (λe a1 w1=>e= .normal/\lE (m.jl.rU kp A) n ex.σ a1 w1) (a.put (some x) (.int .i64 (zs.getD k 0))) W:=by
        refine xg G1 λe a w h=>?_;cases e with
        |normal=>exact h
        |_=>exact h
       rw[kG,oX,Fe] at G1;have G1:asg.wpIn (aS.inRound (w.heap.size+1)) 0 P (rH ⟨some (w.heap.size+1),[]⟩ (λe a1 w1=>e= .normal/\lE (m.jl.rU kp A) n ex.σ a1 w1)) (kS (a.put (some x) (.int .i64 (zs.getD k 0))) []) W:=G1;rw[pE] at G1;rw[aez];refine wpIn_mono G1 ?_;rintro e XK w1 ⟨a0,ea,rfl,hq⟩;have ea:XK=kS a0 []:=ea;rw[pE] at ea;subst ea;obtain⟨⟨A1,S1,K2⟩,ch1,_⟩:=hq;have m1:=m.next K2;have oA:=(m.lone m.l1 K2.jl).2.trans hl;have hD1:=(m.lone m.d1 K2.jl).2.trans hD;have hk1:kU S0 w w1:=λi hi=>(m.keeps K2.jl i hi).trans (hk i hi);refine⟨_,run_beginRound oA (by rw[yE]),?_⟩;have m2:=m1.put (.loop {rec .ready none with state:=.busy}) (by omega);have oy:(w1.putObj (w.heap.size+1) (.loop {rec .ready none with state:=.busy})).heap[w.heap.size+1]?=some (.loop {rec .ready none with state:=.busy}):=alS m1.l1.2.2.2;have hD2:(w1.putObj (w.heap.size+1) (.loop {rec .ready none with state:=.busy})).heap[w.heap.size]?=some (.deferred (some [])):=(dI (by omega)).trans hD1;have hk2:=HS (.loop {rec .ready none with state:=.busy}) hk1 hSl;have H3:kD (m2.jl.rU kp A1) n A1 S1 (· <ex.σ.nx) (rI ex.σ) (nS ex.σ) XK _:=
        ⟨K2.size,K2.lH,K2.env,K2.rE,m2.kP,m2.jl.abh kp A1,λj x hj=>nD (vl a4 hj),⟨K2.AP.1,kZ.refl _ _⟩⟩
       have B2:=(nO (m2.jl.rU kp A1).toOrig (m2.jl.rU kp A1).G (m2.jl.rU kp A1).gS (m2.jl.rU kp A1).Za A1 (w.heap.size+1) XK _ (λe a3 w3=>e= .normal/\∃y',Inv (k+1) y'/\lE (m2.jl.rU kp A1) n (F4 (acc y')) a3 w3)
        (λy' nv _ _ _ hk Fu h2 h3 h4=>⟨rfl,y',Fu,uu nv hk rfl h2 h3 h4⟩) oB hi ⟨⟨A1,S1,H3⟩,ch1,λj q=>q⟩).get
       have B2:(sub B (pt++[1])).qC ⟨some (w.heap.size+1),[]⟩ P (λe a3 w3=>e= .normal/\∃y',Inv (k+1) y'/\lE (m2.jl.rU kp A1) n (F4 (acc y')) a3 w3) XK (w1.putObj (w.heap.size+1) (.loop {rec .ready none with state:=.busy})):=by
        refine xg B2 λe a w h=>?_;cases e with
        |normal=>exact h
        |_=>exact h
       rw[kG,oX,Ff] at B2;have B2:body.wpIn (aS.inRound (w.heap.size+1)) 0 P (rH ⟨some (w.heap.size+1),[]⟩ (λe a3 w3=>e= .normal/\∃y',Inv (k+1) y'/\lE (m2.jl.rU kp A1) n (F4 (acc y')) a3 w3)) (kS XK []) (w1.putObj (w.heap.size+1) (.loop {rec .ready none with state:=.busy})):=B2;rw[pE] at B2;refine wpIn_mono B2 ?_;rintro e a3 w3 ⟨a4',_,rfl,y',Fu,⟨A3,S3,K4⟩,_,_⟩;have m3:MS o kp A0 S0 (w.heap.size+1) w.heap.size (acc y') A3 S3 w3:=m2.next (σ2:=acc y') K4;have sI:=(m2.lone m2.l1 K4.jl).2.trans oy;have hD3:=(m2.lone m2.d1 K4.jl).2.trans hD2;have hk3:kU S0 w w3:=λi hi=>(m2.keeps K4.jl i hi).trans (hk2 i hi);refine⟨_,_,run_endRound (P:=P) none sI,rfl,y',A3,S3,Fu,m3.put _ (by omega),HS _ hk3 hSl,?_,(dI (by omega)).trans hD3⟩;rw[alS m3.l1.2.2.2,yE];rfl
      ·
       rw[hJ];have hS:∀k,S0 k->k<w.heap.size:=H.jl.nN;have kY:∀j r b,ji A0 (nS (acc y0)) j=some r->r.has b->b<w.heap.size:=λj r b q1 q2=>(H.jl.own j r b q1 q2).2.1;have aiU:=H.jl.sj.size;refine⟨y0,A0,S0,hI,⟨H.jl.on F6,H.kP,kZ.refl _ _,λk hk=>⟨λj r q1 q2=>(H.jl.own j r k q1 q2).2.2 hk,by have:=hS k hk;omega⟩,⟨.inl (by omega),λq=>by have:=hS _ q;omega,λj r q1 q2=>by have:=kY j r _ q1 q2;omega,by omega⟩,
        ⟨.inl (by omega),λq=>by have:=hS _ q;omega,λj r q1 q2=>by have:=kY j r _ q1 q2;omega,by omega⟩⟩,λk hk=>F6.block k (hS k hk),Tx,jZ⟩
      rw[hJ];rintro e W2 ⟨⟨v,rfl⟩,y,A,S,hi,m,hk,hl,hD⟩;refine⟨none,W2.putObj (w.heap.size+1) (.loop {rec .ready none with state:=.exhausted}),by have:=run_endLoop (P:=P) hl (by rw[yE];simp);rw[yE] at this ⊢;exact this,?_⟩;have m4:=m.put (.loop {rec .ready none with state:=.exhausted}) (by omega);have hD4:(W2.putObj (w.heap.size+1) (.loop {rec .ready none with state:=.exhausted})).heap[w.heap.size]?=some (.deferred (some [])):=(dI (by omega)).trans hD;have XF:=akc c5;have H5:kD o n A S (· <(acc y).nx+1) (rI (acc y)) (nS (acc y)) a (W2.putObj (w.heap.size+1) (.loop {rec .ready none with state:=.exhausted})):=
       ⟨H.size,H.lH,λt e he=>(we y t e he).2.2.2 A m.MD,λt e he _=>⟨Sy.mono (λj hj=>aki (Vs y j hj)) (we y t e he).2.1,(we y t e he).2.2.1 A⟩,
        λj x hj=>⟨aki (m4.kP j x hj).1,R2.mono (λj hj=>aki hj) (m4.kP j x hj).2.1,(m4.kP j x hj).2.2⟩,m4.jl,λj x hj=>nD (vl (c3 y) hj),
        ⟨λj hj=>aki (Vs y j (bh (np j hj) XF)),H.AP.2.trans (m.MD.mono λj hj=>bh (np j hj) XF)⟩⟩
      have H6:=H5.vp (w':=W2.putObj (w.heap.size+1) (.loop {rec .ready none with state:=.exhausted})) (S':=S) (acc y).nx (some (.ext (.FF w.heap.size))) (λy e=>by cases e;exact⟨cX _,tv,tv⟩) (λy e=>by cases e;exact nD rfl)
       (m4.jl.put _ (Pk w.heap.size) hD4 λb e=>by
        have e:b=w.heap.size:=e;subst e;exact⟨m4.d1.1,m4.d1.2.2.2,m4.d1.2.1,λi ri _ hi=>m4.d1.2.2.1 i ri hi⟩)
      refine⟨kS a [cD w.heap.size],XH H.lH _ _,AL w.heap.size _ _ _ hg.2 (after y w.heap.size a _ hi ⟨⟨A,S,H6⟩,λt e he=>(we y t e he).1,np⟩).get⟩
     cases B9
    cases B9
   cases B9
  cases B9
 cases B9
theorem rg_ (k:Q .normal a w)(ht:aey st=true:=by kernel_rfl):At mo P T B Q st a w:=by
 unfold aey at ht;split at ht
 .exact⟨k⟩
 cases ht
def Cm:List Nat->oh->oh
 |[],Q=>Q
 |D::Ds,Q=>OP D (Cm Ds Q)
theorem Fh:∀ {Ds:List Nat} {e:Exit} {a:Act} {w:aa},Cm Ds Q e a w↔Q e (kS a (Ds.map cD)) w
 |[],e,a,w=>by rw[cr,pE];exact Iff.rfl
 |D::Ds,e,a,w=>by
  show Cm Ds Q e (kS a [cD D]) w↔_;rw[Fh,xG];rfl
def SO (σ:mM)(j:Nat):mM:=⟨σ.env,(j,none)::σ.rs,σ.nx⟩
def lkD:List Nat->List Nat->mM->Prop
 |[],[],_=>True
 |j::js,D::Ds,σ=>nS σ j=some (.ext (.FF D))/\lkD js Ds (SO σ j)
 |_,_,_=>False
theorem und {D j:Nat}(h:lE o n σ a w)(hj:nS σ j=some (.ext (.FF D))):w.heap[D]?=some (.deferred (some []))/\lE o n (SO σ j) a (w.putObj D (.deferred none)):=by
 obtain⟨⟨A,S,H⟩,h0,np⟩:=h;have hm:ji A (nS σ) j=some (Pk D):=by show(nS σ j).map _=_;rw[hj];rfl
 refine⟨H.jl.ok j _ hm,⟨A,S,?_⟩,h0,np⟩;exact H.vp j none (λy e=>by cases e) (λy e=>by cases e) (H.jl.mut j hm ⟨rfl,rfl,rfl,by rw[akh];exact az _,λk _ hn=>dI λe=>hn e⟩)
theorem MF {fn:Func}{R:Ending->aa->Prop}:∀ {js Ds:List Nat} {σ:mM} {w:aa},lE o n σ a w->lkD js Ds σ->(∀w',lE o n (js.foldl SO σ) a w'->LeavesInM aS 2 P fn a.tmps R [] .returning w')->LeavesInM aS 2 P fn a.tmps R (Ds.map cD) .returning w
 |[],[],σ,w,h,_,k=>k w h
 |j::js,D::Ds,σ,w,h,hl,k=>by
  obtain⟨h1,h2⟩:=und h hl.1;exact⟨by simp,.inl ⟨D,_,rfl,run_takeDeferred h1,MF h2 hl.2 k⟩⟩
 |[],_::_,_,_,_,hl,_=>hl.elim
 |_::_,[],_,_,_,hl,_=>hl.elim
theorem ahd {o:Orig}{fn:Func}{rs:List Ty}{fx:oG rs}(js Ds:List Nat)(y:oG rs)(h:lE (jw.of o) n σ a w)(e:y=fx)(hl:lkD js Ds σ:=by first|exact tv|exact⟨by kernel_rfl,tv⟩|exact⟨by kernel_rfl,by kernel_rfl,tv⟩)(ht:D9 B st=true:=by kernel_rfl)(hy:ZG P fn rs (js.foldl SO σ)=some ⟨y⟩:=by kernel_rfl):At ⟨none,Ds.map cD⟩ P T B (Cm Ds (bodyPostM aS 2 P fn (Fv o λS v w'=>pg S w' rs v fx))) st a w:=by
 subst e;have PS:=h.ok.choose_spec.choose_spec.lH;have key:LeavesInM aS 2 P fn a.tmps (Fv o λS v w'=>pg S w' rs v y) (Ds.map cD) .returning w:=by
  refine MF h hl λw' h'=>?_;obtain⟨⟨A,S,H⟩,h0⟩:=h';obtain⟨ys,h1,hy⟩:=sY H hy;obtain⟨h2,hy⟩:=uU hy;obtain⟨x,h3,hy⟩:=xZ H (T':=wg o w') (λk hk=>uV hk) (λc hc j hj z hz=>(tU H h2 c hc j hj z hz).up λk hk=>uV hk) hy;have hx:x=y:=by have:=bD hy;exact aL ULift.down this
  subst hx;exact⟨_,rK (ys:=ys.map (Sy.den A)) h1,_,rfl,I5 h3,Ab H.jl.sj⟩
 have e1:∀e,(e= .normal\/e= .ret)->Cm Ds (bodyPostM aS 2 P fn (Fv o λS v w'=>pg S w' rs v y)) e a w:=λe he=>by
  rw[Fh];have:LeavesInM aS 2 P fn (kS a (Ds.map cD)).tmps (Fv o λS v w'=>pg S w' rs v y) (kS a (Ds.map cD)).defers .returning w:=by
   show LeavesInM aS 2 P fn a.tmps _ (a.defers++Ds.map cD) .returning w;rw[PS];exact key
  rcases he with rfl|rfl<;>exact this
 unfold D9 at ht;split at ht
 .rename_i p r;refine⟨?_⟩;show(sub B p).qC ⟨none,Ds.map cD⟩ P (post ⟨none,Ds.map cD⟩ P B _ r) a w;have hc:sub B p= .ret:=by
   cases hc:sub B p<;>rw[hc] at ht<;>first|rfl|cases ht
  rw[hc];exact zZ (rJ (e1 _ (.inr rfl)))
 .exact⟨e1 _ (.inl rfl)⟩
 cases ht
theorem aeA {f:bA}(fn:Func)(n:Nat){args:List af}{R:Ending->aa->Prop}(hf:P.funcs[f]?=some fn)
  (k:∀a,jH n a (j8 ((bH args.length).zip args))->(sub (fn.body.getD .skip) []).wp P (bodyPostM aS 2 P fn R) a w) (hb:fn.body.isSome=true:=by kernel_rfl) (hn:fn.ntmps=n:=by kernel_rfl) (hl:decide (args.length<=n)=true:=by kernel_rfl):Calls P f args.toArray w R:=by
 obtain⟨B,hb⟩:=bG.1 hb;rw[hb] at k;have hl:=aA hl;refine callsIn_wide.1 (callsIn_of_wp_marks (F:=aS) (n:=2) hf hb tv (wpIn_wide.2 ?_) rfl);rw[<-O8 B];refine k _ ⟨?_,rfl,λe he=>?_⟩
 .simp;omega
 obtain⟨x,hx,rfl⟩:=aV.1 he;obtain⟨j,hj,rfl⟩:=List.getElem_of_mem hx;have JZ:j<args.length:=by simp at hj;exact hj
 refine⟨λ_=>?_,λhn=>(hn (λl hl=>by simp at hl)).elim⟩;simp only[List.getElem_zip,al1];rw[Array.getElem?_append_left (by simpa using JZ)];simp[JZ]
theorem QX {f:bA}(fn:Func)(n:Nat)(T:List (kI P)){lg:List (Bool×Ty)}{rs:List Ty}{wo:qp lg->Prop}{fx:qp lg->oG rs}(hf:P.funcs[f]?=some fn)
  (k:∀(o:Orig) (x:qp lg),wo x->∀a w,lE (jw.of o) n (st0 lg x) a w->At ⟨none,([]:List Nat).map cD⟩ P T (fn.body.getD .skip) (Cm [] (bodyPostM aS 2 P fn (Fv o λS v w'=>pg S w' rs v (fx x)))) [.run []] a w)
  (hb:fn.body.isSome=true:=by kernel_rfl) (hn:fn.ntmps=n:=by kernel_rfl) (hl:decide (lg.length<=n)=true:=by kernel_rfl):je P f lg rs wo fx:=by
 intro o vs x hx IF;have hlen:=x5 hx;refine aeA fn n hf (λa ha=>?_) hb hn (by rw[hlen];exact hl);obtain⟨A,h1,h2,h3,h5,h4⟩:=x4 (o:=jw.of o) lg x vs 0 T5 (λ_=>False) (xj (λk hk=>⟨hk,λq=>q⟩) hx) λ_ _ q=>q;have qt:∀t e,rI (st0 lg x) t=some e->e.ch=[]/\∃y,(lB lg x 0).1[t]?=some y/\e=⟨[],y⟩:=λt e he=>by
  obtain⟨_,y,q1,q2⟩:=sK he;exact⟨by rw[q2],y,by simpa using q1,q2⟩
 have H0:kD (jw.of o) n A o.S (λ_=>False) (λ_=>none) (λ_=>none) a o.w:=⟨ha.1,ha.2.1,λ_ _ q=>(by cases q),λ_ _ q=>(by cases q),λ_ _ q=>(by cases q),nM.start (jw.of o),λ_ _ q=>(by cases q),⟨λ_ q=>q.elim,λ_ q=>q.elim⟩⟩;have H1:=H0.ro (kZ.refl _ _) h3;have hle:∀j,FU (λ_=>False) (lB lg x 0).2 j->j<(lB lg x 0).2.length:=λj hj=>by
  rcases hj with hj|⟨z,hz⟩
  .exact hj.elim
  have:=h5 _ hz;simpa using this
 have sZ:lE (jw.of o) n (st0 lg x) a o.w:=by
  refine⟨⟨A,o.S,H1.size,H1.lH,λt e he=>?_,λt e he _=>?_,λj y hj=>?_,H1.jl,H1.args,⟨λ_ q=>q.elim,λ_ q=>q.elim⟩⟩,λt e he=>(qt t e he).1,λ_ q=>q.elim⟩
  .obtain⟨_,y,q1,rfl⟩:=qt t e he;have hv:vs[t]?=some (y.den A):=by rw[<-h2,b9,q1];rfl
   have MY:=(bW.1 hv).1;refine ha.2.2 ⟨t,[],y.den A⟩ (aV.2 ⟨(t,y.den A),?_,rfl⟩);refine List.mem_iff_getElem?.2 ⟨t,?_⟩;rw[List.getElem?_zip_eq_some];exact⟨by simp[MY],hv⟩
  .obtain⟨_,y,q1,rfl⟩:=qt t e he;have:=h4 y (List.mem_of_getElem? q1);exact⟨Sy.mono hle this.1,this.2⟩
  have:=H1.kP j y hj;exact⟨hle j this.1,R2.mono hle this.2.1,this.2.2⟩
 have:=(k o x IF a o.w sZ).get;have this:(sub (fn.body.getD .skip) []).qC pl P (post pl P (fn.body.getD .skip) (bodyPostM aS 2 P fn (Fv o λS v w'=>pg S w' rs v (fx x))) []) a o.w:=this;exact D3.1 this
end
def OQ (d:cR)(Q:oh):oh:=λe a w=>Q e (kS a [d]) w
def JU (P:ay)(d:cR):Prop:=∀w,∃fv cap f args,d.target= .fn fv cap/\(invoke d.target d.args).run P w= .ok (.enter f args) w/\CallsDIn aS 1 P f args .returning w λe u w'=>(∃v,e= .returned v)/\u= .returning/\w'=w
def aeB (B:Code)(f m n:Nat)(σ:mM):List It->Option (List It)
 | .run p::r=>match sub B p with
  | .region _ ops false=>match ops.toList with
   |[⟨some t,.makeFunc (.func f') fi ca,_,_,_,none⟩,⟨none,.defer ⟨.value (.tmp t'),ar,_⟩,_,_,_,none⟩]=>
    match(aP f' f && aP t' t) && ((fi.toList.isEmpty && ar.toList.isEmpty) && (aP ca.size m && ((rI σ t).isNone && (bw t n && SN r)))) with
    |true=>some r
    |false=>none
   |_=>none
  |_=>none
 |_=>none
section
variable {mo:Mode}{P:ay}{o:jw}{n:Nat}{σ:mM}{a:Act}{w:aa}{T:List (kI P)}{B:Code}{Q:oh}{st:List It}
theorem BM {ds:List cR}(d:cR):∀ {r:List It} (e:Exit) (a:Act) (w:aa),SN r=true->post ⟨none,d::ds⟩ P B (OQ d Q) r e a w->post ⟨none,ds⟩ P B Q r e (kS a [d]) w
 |[],e,a,w,_,h=>h
 | .lp _::_,_,_,_,hr,_=>by cases hr
 | .lV i::r,e,a,w,hr,h=>by
  have ih:=λe a w=>BM (ds:=ds) d (r:=r) e a w hr;cases e with
  |exit j=>
   have h:if j=i then post ⟨none,d::ds⟩ P B (OQ d Q) r .normal a w else post ⟨none,d::ds⟩ P B (OQ d Q) r (.exit j) a w:=h;show if j=i then post ⟨none,ds⟩ P B Q r .normal _ w else post ⟨none,ds⟩ P B Q r (.exit j) _ w;split
   .rename_i q;rw[ak q] at h;exact ih _ _ _ h
   rename_i q;rw[ah q] at h;exact ih _ _ _ h
  |_=>exact ih _ _ _ h
 | .run p::r,e,a,w,hr,h=>by
  have ih:=λe a w=>BM (ds:=ds) d (r:=r) e a w hr;cases e with
  |normal=>
   have h:(sub B p).wpIn aS 0 P (rH ⟨none,d::ds⟩ (post ⟨none,d::ds⟩ P B (OQ d Q) r)) (kS a (d::ds)) w:=h;show(sub B p).wpIn aS 0 P (rH ⟨none,ds⟩ (post ⟨none,ds⟩ P B Q r)) (kS (kS a [d]) ds) w;rw[xG];refine wpIn_mono h λe a w ⟨a0,h1,h2⟩=>⟨kS a0 [d],?_,ih _ _ _ h2⟩;rw[h1,xG];rfl
  |_=>exact ih _ _ _ h
theorem XL (f m:Nat)(hq:∀cv:Array af,cv.size=m->JU P {target:=.fn (.func f) cv,args:= #[]})(h:lE o n σ a w)
  (k:∀(d:cR) (a:Act) (w:aa),JU P d->lE o n σ a w->At ⟨none,d::mo.ds⟩ P T B (OQ d Q) ((aeB B f m n σ st).getD []) a w)
  (FJ:mo.ro=none:=by rfl) (ht:(aeB B f m n σ st).isSome=true:=by kernel_rfl):At mo P T B Q st a w:=by
 obtain⟨r0,SC⟩:=bG.1 ht;rw[SC] at k;clear ht;unfold aeB at SC;split at SC
 .rename_i p r;split at SC
  .rename_i id ops oX;split at SC
   .rename_i t0 f' fi ca ty1 po1 af1 t ar J7 ty2 po2 af2 Cs;split at SC
    .rename_i hg;cases SC;simp only[aR] at hg;obtain⟨⟨g1,g2⟩,⟨g3,g4⟩,g5,g6,g7,g8⟩:=hg;have g1:=jP g1;have g2:=jP g2;have g5:=jP g5;subst g1 g2;have g3:fi= #[]:=by rw[<-akL];exact dR.1 g3
     have g4:ar= #[]:=by rw[<-akL];exact dR.1 g4
     subst g3 g4;have ahe:ops= #[⟨some t,.makeFunc (.func f') #[] ca,ty1,po1,af1,none⟩,⟨none,.defer ⟨.value (.tmp t),#[],J7⟩,ty2,po2,af2,none⟩]:=by rw[<-akL,Cs]
     subst ahe;have⟨ro,ds⟩:=mo;have FJ:ro=none:=FJ;subst FJ;obtain⟨⟨A,S,H⟩,h0,np⟩:=h;have htn:t<n:=v8 g7;have hse:rI σ t=none:=by cases hz:rI σ t<;>rw[hz] at g6<;>first|rfl|cases g6
     obtain⟨cv,J9⟩:∃cv,ca.map a.eval=cv:=⟨_,rfl⟩;have kF:cv.size=m:=by rw[<-J9,Array.size_map];exact g5
     obtain⟨v,hv⟩:∃v:af,.func (.func f') #[] cv=v:=⟨_,rfl⟩;have aaH:lE o n σ (a.put (some t) v) w:=by
      refine⟨⟨A,S,?_,?_,λq e he=>?_,λq e he _=>H.rE q e he (λl hl=>by rw[h0 q e he] at hl;cases hl),H.kP,H.jl,H.args,H.AP⟩,h0,np⟩
      .show(a.tmps.setIfInBounds t v).size=n;rw[Array.size_setIfInBounds];exact H.size
      .exact H.lH
      have mc:t≠q:=λz=>by rw[<-z,hse] at he;cases he
      exact xJ (by rw[h0 q e he];simpa using λz:q=t=>mc z.symm) (H.env q e he)
     have key:=(k {target:=.fn (.func f') cv,args:= #[]} (a.put (some t) v) w (hq cv kF) aaH).get;have PS:=H.lH;refine⟨?_⟩;show(sub B p).qC ⟨none,ds⟩ P (post ⟨none,ds⟩ P B Q _) a w;rw[oX];refine wpIn_region_list ?_;have zC:∀x,(kS a ds).eval x=a.eval x:=λx=>xX x ds;have e1:(execOp (kS a ds).eval ⟨some t,.makeFunc (.func f') #[] ca,ty1,po1,af1,none⟩).run P w= .ok (.value v) w:=by
      have:ca.map (kS a ds).eval=cv:=by rw[<-J9];congr 1
      simp[execOp,this,hv,Instr.makeFunc,go_sem]
     have e2:(execOp ((kS a ds).put (some t) v).eval ⟨none,.defer ⟨.value (.tmp t),#[],J7⟩,ty2,po2,af2,none⟩).run P w= .ok (.defer {target:=.fn (.func f') cv,args:= #[]}) w:=by
      have:((kS a ds).put (some t) v).eval (.tmp t)= .func (.func f') #[] cv:=by
       show((kS a ds).put (some t) v).tmps.getD t undef=_;rw[cq];show((a.tmps.setIfInBounds t v)[t]?).getD undef=_;rw[Array.getElem?_setIfInBounds,ak rfl,ak (by rw[H.size];exact htn),hv];rfl
      simp only[execOp,resolve,this];simp[go_sem]
     show wpListIn aS 0 P _ _ [_,_] (kS a ds) w;simp only[wpListIn];rw[ak (by simp[cL])];refine⟨λ_ _=>trivial,?_⟩;rw[show(aS).round=none from rfl,aoa,e1];simp only[Oper.uponIn_value];rw[ak (by simp[cL])];refine⟨λ_ _=>trivial,?_⟩;rw[show(aS).round=none from rfl,aoa,e2];simp only[Oper.uponIn_defer];refine⟨kS (a.put (some t) v) [_],?_,BM _ _ _ _ g8 key⟩;simp[kS,dA,PS]
    cases SC
   cases SC
  cases SC
 cases SC
theorem aiV {o:Orig}{fn:Func}{rs:List Ty}{fx:oG rs}(js Ds:List Nat)(d:cR)(hd:JU P d)(y:oG rs)(h:lE (jw.of o) n σ a w)(e:y=fx)(hl:lkD js Ds σ:=by first|exact tv|exact⟨by kernel_rfl,tv⟩|exact⟨by kernel_rfl,by kernel_rfl,tv⟩)(ht:D9 B st=true:=by kernel_rfl)(hy:ZG P fn rs (js.foldl SO σ)=some ⟨y⟩:=by kernel_rfl):
  At ⟨none,Ds.map cD++[d]⟩ P T B (Cm Ds (OQ d (bodyPostM aS 2 P fn (Fv o λS v w'=>pg S w' rs v fx)))) st a w:=by
 subst e;have PS:=h.ok.choose_spec.choose_spec.lH;have key:LeavesInM aS 2 P fn a.tmps (Fv o λS v w'=>pg S w' rs v y) (Ds.map cD++[d]) .returning w:=by
  have aux:∀ {js Ds:List Nat} {σ:mM} {w:aa} {R:Ending->aa->Prop},lE (jw.of o) n σ a w->lkD js Ds σ->(∀w',lE (jw.of o) n (js.foldl SO σ) a w'->LeavesInM aS 2 P fn a.tmps R [d] .returning w')->LeavesInM aS 2 P fn a.tmps R (Ds.map cD++[d]) .returning w:=by
   intro js
   induction js with
   |nil=>intro Ds σ w R h hl k;cases Ds with
    |nil=>exact k w h
    |cons _ _=>exact hl.elim
   |cons j js ih=>intro Ds σ w R h hl k;cases Ds with
    |nil=>exact hl.elim
    |cons D Ds=>
     obtain⟨h1,h2⟩:=und h hl.1;exact⟨by simp,.inl ⟨D,_,rfl,run_takeDeferred h1,ih h2 hl.2 k⟩⟩
  refine aux h hl λw' h'=>?_;obtain⟨fv,cap,f,args,q1,q2,q3⟩:=hd w';refine⟨by simp,.inr ⟨(λz=>by cases z),fv,cap,f,args,q1,q2,λ_ _=>trivial,q3.mono ?_⟩⟩;rintro e u w2 ⟨⟨v,rfl⟩,rfl,rfl⟩;obtain⟨⟨A,S,H⟩,h0⟩:=h';obtain⟨ys,h1,hy⟩:=sY H hy;obtain⟨h2,hy⟩:=uU hy;obtain⟨x,h3,hy⟩:=xZ H (T':=wg o w2) (λk hk=>uV hk) (λc hc j hj z hz=>(tU H h2 c hc j hj z hz).up λk hk=>uV hk) hy;have hx:x=y:=by have:=bD hy;exact aL ULift.down this
  subst hx;exact⟨_,rK (ys:=ys.map (Sy.den A)) h1,_,rfl,I5 h3,Ab H.jl.sj⟩
 have e1:∀e,(e= .normal\/e= .ret)->Cm Ds (OQ d (bodyPostM aS 2 P fn (Fv o λS v w'=>pg S w' rs v y))) e a w:=λe he=>by
  rw[Fh];have:LeavesInM aS 2 P fn (kS (kS a (Ds.map cD)) [d]).tmps (Fv o λS v w'=>pg S w' rs v y) (kS (kS a (Ds.map cD)) [d]).defers .returning w:=by
   show LeavesInM aS 2 P fn a.tmps _ ((a.defers++Ds.map cD)++[d]) .returning w;rw[PS];exact key
  rcases he with rfl|rfl<;>exact this
 unfold D9 at ht;split at ht
 .rename_i p r;refine⟨?_⟩;show(sub B p).qC ⟨none,Ds.map cD++[d]⟩ P (post ⟨none,Ds.map cD++[d]⟩ P B _ r) a w;have hc:sub B p= .ret:=by
   cases hc:sub B p<;>rw[hc] at ht<;>first|rfl|cases ht
  rw[hc];exact zZ (rJ (e1 _ (.inr rfl)))
 .exact⟨e1 _ (.inl rfl)⟩
 cases ht
end
def QY (P:ay) (f:bA) (ts:ax):Prop:=(∃fn,P.funcs[f]?=some fn/\fn.body.isSome=true/\(fn.name== "runtime.NumGoroutine")=false)/\∀(l b:Nat) (s:ByteArray) (J:List (Int×ByteArray)->aa->Prop) (w:aa),s.size<=1000000000->
 w.heap[b]?=some (.cells #[.string s] ts (0,0))->AbS w.heap.size J->
 (∀(pre:List (Int×ByteArray)) (x:Int×ByteArray) (W1:aa),J pre W1->(∃rest,pre++x::rest=pT s)->YieldAt aS 0 P l #[.int .i64 x.1,.string x.2] W1 λe W'=>e= .returned (.bool true)/\J (pre++[x]) W'/\KpB b W1 W')->
 J [] w->CallsIn aS 0 P f #[.func (.yield l) #[] #[],.pointer (some ⟨b,0,none⟩)] w λe W'=>(∃v,e= .returned v)/\J (pT s) W'
def SP (S:iD)(w:aa):iD:=λk=>S k/\∀s p,w.heap[k]?≠some (dx s p)
section
variable {S:iD}{w:aa}
theorem MG {g:Nat}{cur:Array af}{t:ax}{fz:Nat×Nat}(hS:S g)(h:w.heap[g]?=some (.cells cur t fz)):SP S w g:=⟨hS,λs p e=>by rw[h] at e;cases e⟩
def OR (α:Type)[Data α]:Prop:=∀(S:iD) (w:aa) (cs:List af) (x:α),Data.rd S w cs x->Data.rd (SP S w) w cs x
theorem OR.row {α:Type}[Data α](h:OR α){xs:List af}{l:List α}(k:jW S w xs l):jW (SP S w) w xs l:=⟨k.1,λi hi=>h _ _ _ _ (k.2 i hi)⟩
theorem OR.rd {α:Type}[Data α](h:OR α){v:af}{x:α}(k:Rd S w v x):Rd (SP S w) w v x:=let⟨cs,h1,h2⟩:=k;⟨cs,h _ _ _ _ h1,h2⟩
theorem OR.map {k:Kc}{α:Type}[Data α](h:OR α){b:Nat}{m:iU k α}(q:pX S w b m):pX (SP S w) w b m:=let⟨zs,h1,h2,h3⟩:=q;⟨zs,h1,h2,λz hz=>h.rd (h3 z hz)⟩
theorem HT {k:Kc}{α:Type}[Data α]{b:Nat}{m:iU k α}(q:pX S w b m):∀s p,w.heap[b]?≠some (dx s p):=by
 obtain⟨zs,⟨P,kt,_,es,clock,h1,_⟩,_⟩:=q;intro s p e;rw[h1] at e;cases e
theorem yR:∀t:Ty,OR (El t)
 | .int=>λ_ _ _ _ h=>h
 | .bool=>λ_ _ _ _ h=>h
 | .str=>λ_ _ _ _ h=>h
 | .unit=>λ_ _ _ _ h=>h
 | .list t=>by
  intro S w cs x ⟨v,e,p,c,e2,h1,h2,h3⟩;refine⟨v,e,p,c,e2,h1,h2,h3.imp id ?_⟩;rintro⟨g,off,cur,ty,fz,rfl,h4,h5,h6⟩;exact⟨g,off,cur,ty,fz,rfl,MG h4 h5,h5,λi hi=>let⟨cs,k1,k2⟩:=h6 i hi;⟨cs,yR t _ _ _ _ k1,k2⟩⟩
 | .pair a b=>by
  intro S w cs x ⟨c1,c2,e,h1,h2⟩;exact⟨c1,c2,e,yR a _ _ _ _ h1,yR b _ _ _ _ h2⟩
 | .map k t=>by
  intro S w cs x ⟨v,e,y,e2,h⟩;refine⟨v,e,y,e2,?_⟩;cases y with
  |none=>exact h
  |some b=>exact⟨⟨h.1,HT h.2⟩,(yR t).map h.2⟩
 | .ptr t=>by
  intro S w cs x ⟨v,e,h⟩;refine⟨v,e,?_⟩;cases x with
  |none=>exact h
  |some y=>have⟨b,cur,ty,fz,cs,h1,h2,h3,h4,h5⟩:=h;exact⟨b,cur,ty,fz,cs,h1,MG h2 h3,h3,yR t _ _ _ _ h4,h5⟩
end
def QZ:R2->Bool
 | .ro _ _=>true
 | .row _ _ _=>true
 | .box _ _=>true
 | .wE _ _ _=>true
 | .map _ _ _=>true
 | .ext (.zN _ _)=>true
 | .ext (.FF _)=>true
 |_=>false
def Fi (rs:List (Nat×Option R2)):Bool:=rs.all λp=>match p.2 with
 |some x=>QZ x
 |none=>true
theorem BN {σ:mM}(h:Fi σ.rs=true){j:Nat}{x:R2}(hj:nS σ j=some x):QZ x=true:=by
 have:=aU.1 h _ (pR hj);simpa using this
theorem XM {A:jA}{j:Nat}{S:iD}{w:aa}:∀ {x:R2},QZ x=true->(x.den A j).ok S w->(x.den A j).ok (SP S w) w
 | .ro t l,_,h=>(yR (.list t)).rd (show Rd S w (A.v j) l from h)
 | .row e t l,_,h=>by
  obtain⟨xs,h1,h2⟩:=(show mI S w e (A.v j) l from h);exact(show mI (SP S w) w e (A.v j) l from⟨xs,h1,(yR t).row h2⟩)
 | .box _ _,_,h=>h
 | .wE k t m,_,h=>(yR (.map k t)).rd (show Rd S w (.map (A.m j)) m from h)
 | .map k t m,_,h=>let⟨b,e,h1⟩:=(show ∃b,A.m j=some b/\pX S w b m from h);⟨b,e,(yR t).map h1⟩
 | .ext (.zN t x),_,h=>(yR (.ptr t)).rd (show Rd S w (.pointer (A.p j)) x from h)
 | .ext (.FF _),_,h=>h
 | .ar _ _,h,_=>by cases h
 | .BS _ _ _,h,_=>by cases h
 | .iter _ _ _ _ _ _,h,_=>by cases h
 | .ext (.nest _ _ _ _ _ _),h,_=>by cases h
 | .ext (.mW _ _ _ _ _ _),h,_=>by cases h
 | .ext (.par _ _),h,_=>by cases h
 | .ext (.Ir _ _),h,_=>by cases h
 | .ext (.CJ _ _),h,_=>by cases h
 | .ext (.Is _ _ _ _ _),h,_=>by cases h
 | .ext (.sJ _ _),h,_=>by cases h
theorem HU {A:jA}{j:Nat}{S:iD}{w:aa}{b:Nat}:∀ {x:R2},QZ x=true->(x.den A j).ok S w->(x.den A j).has b->∀s p,w.heap[b]?≠some (dx s p)
 | .ro t l,_,_,hb=>by cases hb
 | .row e t l,_,h,hb=>by
  obtain⟨xs,h1,h2⟩:=(show mI S w e (A.v j) l from h);have hb:(A.v j).ownBlock=some b:=hb;intro s p q;rcases h1.2 with⟨z,_⟩|⟨g,d,cap,cur,z,hg,_⟩
  .rw[z] at hb;cases hb
  rw[z] at hb;cases hb;rw[hg] at q;cases q
 | .box t cs,_,h,hb=>by
  have h:w.heap[A.b j]?=some (.cells _ t (0,0)):=h;have hb:some (A.b j)=some b:=hb;cases hb;intro s p q;rw[h] at q;cases q
 | .wE k t m,_,_,hb=>by cases hb
 | .map k t m,_,h,hb=>by
  obtain⟨b',e,h1⟩:=(show ∃b,A.m j=some b/\pX S w b m from h);have hb:A.m j=some b:=hb;rw[e] at hb;cases hb;exact HT h1
 | .ext (.zN t x),_,_,hb=>by cases hb
 | .ext (.FF D),_,h,hb=>by
  have h:w.heap[D]?=some (.deferred (some [])):=h;have hb:b=D:=hb;subst hb;intro s p q;rw[h] at q;cases q
 | .ar _ _,h,_,_=>by cases h
 | .BS _ _ _,h,_,_=>by cases h
 | .iter _ _ _ _ _ _,h,_,_=>by cases h
 | .ext (.nest _ _ _ _ _ _),h,_,_=>by cases h
 | .ext (.mW _ _ _ _ _ _),h,_,_=>by cases h
 | .ext (.par _ _),h,_,_=>by cases h
 | .ext (.Ir _ _),h,_,_=>by cases h
 | .ext (.CJ _ _),h,_,_=>by cases h
 | .ext (.Is _ _ _ _ _),h,_,_=>by cases h
 | .ext (.sJ _ _),h,_,_=>by cases h
structure RLI where
 pt:List Nat
 r:List It
 p1:Nat
 p2:Nat
 f:bA
 q:Nat
def BO (B:Code)(n:Nat)(σ:mM):List It->Option RLI
 | .run p::r=>match sub B p with
  | .rangeFunc (.tmp t) ps _ _=>match ps.toList,rI σ t with
   |[x,y],some ⟨[],.one (.uk f [(q,0)])⟩=>match(bw x n && bw y n) && (!Nat.beq x y && SN r) with
    |true=>some ⟨p,r,x,y,f,q⟩
    |false=>none
   |_,_=>none
  |_=>none
 |_=>none
def lI:Option RLI->RLI
 |some x=>x
 |none=>⟨[],[],0,0,0,0⟩
def abj (p1 p2:Nat)(x:Int×ByteArray)(σ:mM):mM:=⟨(p2,some ⟨[],.one (.v (.string x.2))⟩)::(p1,some ⟨[],.one (.v (.int .i64 x.1))⟩)::σ.env,σ.rs,σ.nx⟩
section
variable {o:jw}{n:Nat}{A A' A0:jA}{S S' S0:iD}{F:Nat->Prop}{s:Nat->Option E2}{f g:Nat->Option Rs}{w w' W:aa}{a:Act}{kp l D:Nat}{σ σ2:mM}
theorem nM.nw (H:nM o w S (ji A (nS σ)))(hc:Fi σ.rs=true):nM o w (SP S w) (ji A (nS σ)) where
 sj:=H.sj
 src k hk:=H.src k hk.1
 nN k hk:=H.nN k hk.1
 ok j r hj:=by
  obtain⟨x,hx,rfl⟩:=aX.1 hj;exact XM (BN hc hx) (H.ok j _ hj)
 own j r b hj hb:=let⟨x,y,z⟩:=H.own j r b hj hb;⟨x,y,λq=>z q.1⟩
 apart:=H.apart
theorem MS.still {S00:iD}(m:MS o kp A0 S00 l D σ A S W){k:Nat}(h2:¬S k)(h3:∀j r,ji A (nS σ) j=some r->¬r.has k)(h4:k<W.heap.size)(H2:nM (m.jl.rU kp A) w' S' g):
  (¬S' k/\(∀j r,g j=some r->¬r.has k)/\k<w'.heap.size)/\w'.heap[k]?=W.heap[k]?:=by
 have B4:¬(m.jl.rU kp A).new k:=λq=>q.elim (λq=>by have q:W.heap.size<=k:=q;omega) λ⟨j,r,q1,q2⟩=>h3 j r q1 q2;refine⟨⟨λq=>?_,λj r q1 q2=>B4 (H2.own j r k q1 q2).1,bh h4 H2.sj.size⟩,H2.sj.block k h4 λq=>B4 (.inr q)⟩;rcases H2.src k q with q|q
 .exact h2 q
 exact B4 q
abbrev noS:iD:=λ_=>False
def SQ (S:iD)(W:aa):Prop:=∀k,S k->∀s p,W.heap[k]?≠some (dx s p)
theorem MS.nw (m:MS o kp A0 noS l D σ A S W)(hc:Fi σ.rs=true):MS o kp A0 noS l D σ A (SP S W) W/\SQ (SP S W) W:=
 ⟨⟨m.jl.nw hc,m.kP,m.MD,λ_ h=>h.elim,⟨m.l1.1,λq=>m.l1.2.1 q.1,m.l1.2.2⟩,⟨m.d1.1,λq=>m.d1.2.1 q.1,m.d1.2.2⟩⟩,λk hk=>hk.2⟩
theorem MS.iter (m:MS o kp A0 noS l D σ A S W)(hi:SQ S W)(hc:Fi σ.rs=true){row:Option Nat}(hg:W.grownBy w' row)(hr:∀r,row=some r->o.w.heap.size<=r/\∃s p,W.heap[r]?=some (dx s p))
  (hl:∀s p,W.heap[l]?≠some (dx s p)) (hD:∀s p,W.heap[D]?≠some (dx s p)):(MS o kp A0 noS l D σ A S w'/\SQ S w')/\w'.heap[l]?=W.heap[l]?/\w'.heap[D]?=W.heap[D]?:=by
 have mc:∀k,(∀s p,W.heap[k]?≠some (dx s p))->row≠some k:=λk hk e=>let⟨_,s,p,q⟩:=hr k e;hk s p q
 have kY:∀j rr b,ji A (nS σ) j=some rr->rr.has b->row≠some b:=λj rr b h1 h2=>by
  obtain⟨x,hx,rfl⟩:=aX.1 h1;exact mc b (HU (BN hc hx) (m.jl.ok j _ h1) h2)
 have adx:nM o w' S (ji A (nS σ)):=by
  refine⟨m.jl.sj.trans (qA.of hg) λj hj q=>?_,m.jl.src,λk hk=>bh (m.jl.nN k hk) hg.size,λj r hj=>?_,λj r b hj hb=>?_,m.jl.apart⟩
  .have:=(hr j q).1;omega
  .exact r.keep _ _ _ (m.jl.ok j r hj) (λk hk=>hg.block k (m.jl.nN k hk) λe=>mc k (hi k hk) e.symm) λb hb=>hg.block b (m.jl.own j r b hj hb).2.1 λe=>kY j r b hj hb e.symm
  obtain⟨x,y,z⟩:=m.jl.own j r b hj hb;exact⟨x,bh y hg.size,z⟩
 have lone:∀k,Lone o S (ji A (nS σ)) W k->Lone o S (ji A (nS σ)) w' k:=λk hk=>⟨hk.1,hk.2.1,hk.2.2.1,bh hk.2.2.2 hg.size⟩;refine⟨⟨⟨adx,m.kP,m.MD,λ_ h=>h.elim,lone l m.l1,lone D m.d1⟩,λk hk s p=>?_⟩,hg.block l m.l1.2.2.2 λe=>mc l hl e.symm,hg.block D m.d1.2.2.2 λe=>mc D hD e.symm⟩;rw[hg.block k (m.jl.nN k hk) λe=>mc k (hi k hk) e.symm];exact hi k hk s p
end
theorem JV {a b:Nat}(h:bw a b=true):a<b:=by simpa[bZ] using h
section
variable {mo:Mode}{P:ay}{o:jw}{n:Nat}{σ:mM}{a:Act}{w:aa}{T:List (kI P)}{B:Code}{Q:oh}{st:List It}
theorem XN {Y:Type}{f:bA}{ts:ax}(YM:QY P f ts)(acc:Y->mM)(kp:Nat)(s:ByteArray)(mu:s.size<=1000000000)(Inv:List (Int×ByteArray)->Y->Prop)(y0:Y)(ρ:List (Nat×Option Nat))
  (h:lE o n σ a w) (hI:Inv [] y0)
  (round:∀(pre:List (Int×ByteArray)) (x:Int×ByteArray) (y:Y) (og:Orig) (G:Nat->Prop) (gS:∀b,G b->¬og.S b) (Za:∀b,G b->b<og.w.heap.size) (A:jA) (l:Nat) (a:Act) (w:aa) (K:oh),
   (∀(y':Y) (ρ:List (Nat×Option Nat)) {uE:mM} {a:Act} {w:aa},lE ⟨og,G,gS,Za,(· <kp),A,kp⟩ n uE a w->Inv (pre++[x]) y'->(h2:lU ρ uE (F4 (acc y')):=by delta lU;kernel_rfl)->(h3:qQ ρ (F4 (acc y'))=true:=by kernel_rfl)->(h4:zb ρ kp=true:=by kernel_rfl)->K .normal a w)->
   (∃rest,pre++x::rest=pT s)->Inv pre y->lE ⟨og,G,gS,Za,(· <kp),A,kp⟩ n (xS (r5 P T [] n B [.run ((lI (BO B n (acc y0) st)).pt++[0])] (abj (lI (BO B n (acc y0) st)).p1 (lI (BO B n (acc y0) st)).p2 x (acc y)))) a w->
   At ⟨some l,[]⟩ P T B K [.run ((lI (BO B n (acc y0) st)).pt++[1])] a w)
  (after:∀(y:Y) (D:Nat) (a:Act) (w:aa),Inv (pT s) y->lE o n (ahb D (acc y)) a w->At ⟨none,cD D::mo.ds⟩ P T B (OP D Q) (lI (BO B n (acc y0) st)).r a w)
  (FJ:mo.ro=none:=by rfl) (ht:(BO B n (acc y0) st).isSome=true:=by kernel_rfl) (hf:(lI (BO B n (acc y0) st)).f=f:=by kernel_rfl)
  (c1:∀y,(acc y).env=(acc y0).env:=by intro y;kernel_rfl) (c2:aha kp (acc y0).env=true:=by kernel_rfl) (c3:∀y,QW (acc y).rs=true:=by intro y;kernel_rfl)
  (c4:∀y,akb kp (acc y).nx=true:=by intro y;kernel_rfl) (c5:akb o.kp kp=true:=by kernel_rfl)
  (c6:bw (lI (BO B n (acc y0) st)).q kp=true:=by kernel_rfl) (c7:∀y,nS (acc y) (lI (BO B n (acc y0) st)).q=some (.box ts [.v (.string s)]):=by intro y;kernel_rfl)
  (c8:∀y x,abg (r5 P T [] n B [.run ((lI (BO B n (acc y0) st)).pt++[0])] (abj (lI (BO B n (acc y0) st)).p1 (lI (BO B n (acc y0) st)).p2 x (acc y)))=true:=by intro y x;kernel_rfl)
  (c9:∀y,Fi (acc y).rs=true:=by intro y;kernel_rfl)
  (h1:kM ρ σ (acc y0):=by delta kM;kernel_rfl) (h2:lU ρ σ (acc y0):=by delta lU;kernel_rfl) (h3:qQ ρ (acc y0)=true:=by kernel_rfl) (h4:zb ρ o.kp=true:=by kernel_rfl):At mo P T B Q st a w:=by
 have hs:=uu ρ h h1 h2 h3 h4;clear h h1 h2 h3 h4;obtain⟨I,B9⟩:=bG.1 ht;simp only[B9,lI] at round after hf c6 c7 c8;clear ht;unfold BO at B9;split at B9
 .rename_i pt r;split at B9
  .rename_i t ps asg body oX;split at B9
   .rename_i x1 x2 f' q Kl he;split at B9
    .rename_i hg;cases B9;dsimp only at round after hf c6 c7 c8;subst hf;obtain⟨⟨A0,S00,H0⟩,aiT,np⟩:=hs;have H:kD o n A0 (SP S00 w) (· <(acc y0).nx) (rI (acc y0)) (nS (acc y0)) a w:=⟨H0.size,H0.lH,H0.env,H0.rE,H0.kP,H0.jl.nw (c9 y0),H0.args,H0.AP⟩;have hni:SQ (SP S00 w) w:=λk hk=>hk.2;clear H0;generalize SP S00 w=S0 at H hni;simp only[aR,Bool.not_eq_true'] at hg;obtain⟨⟨g1,g2⟩,g3,g4⟩:=hg;have hxn:=JV g1;have hyn:=JV g2;have Tq:x1≠x2:=λe=>by rw[e] at g3;simp at g3
     have hq:=JV c6;have XI:ps= #[x1,x2]:=by rw[<-akL,Kl]
     have hv:a.eval (.tmp t)= .func (.func f') #[] #[.pointer (some ⟨A0.b q,0,none⟩)]:=by
      have hv:=(H.env t _ he).1 (λl hl=>by cases hl);simp only[dz,cq];rw[show a.tmps[t]?=some (.func (.func f') #[] #[.pointer (some ⟨A0.b q,0,none⟩)]) from hv];rfl
     have we:∀y t e,rI (acc y) t=some e->e.ch=[]/\e.sy.all (· <kp)/\(∀A,e.sy.ku A)/\∀A,kZ (· <kp) A0 A->F9 a ⟨t,e.ch,e.sy.den A⟩:=λy t e ht=>by
      have ht:rI (acc y0) t=some e:=by unfold rI at ht ⊢;rw[<-c1 y];exact ht
      have hm:(t,some e)∈(acc y0).env:=(uO ht).resolve_left λq=>by cases q
      have:=aU.1 c2 _ hm;simp only[aR] at this;obtain⟨k1,k2⟩:=XG this.2;exact⟨dR.1 this.1,k1,k2,λA hA=>by rw[<-Sy.congr hA k1];exact H.env t e ht⟩
     have Vs:∀y j,j<kp->j<(acc y).nx:=λy j hj=>bh hj (akc (c4 y));have zK:∀ {y:Y} {A:jA} {S:iD} {W:aa} {l D:Nat} {A1:jA},MS o kp A1 noS l D (acc y) A S W->kZ (· <kp) A0 A->W.heap[A0.b q]?=some (.cells #[.string s] ts (0,0)):=by
      intro y A S W l D A1 m hA;have Dw:ji A (nS (acc y)) q=some (R2.den A q (.box ts [.v (.string s)])):=by show(nS (acc y) q).map _=_;rw[c7 y];rfl
      have:=m.jl.ok q _ Dw;rw[(hA q hq).2.1];exact this
     refine⟨?_⟩;show(sub B pt).qC mo P (post mo P B Q r) a w;rw[oX];have⟨ro,ds⟩:=mo;have FJ:ro=none:=FJ;subst FJ;show(an8 (.tmp t) ps asg body).wpIn aS 0 P (rH ⟨none,ds⟩ (post ⟨none,ds⟩ P B Q r)) (kS a ds) w;refine wpIn_rangeFunc λfn _=>?_;obtain⟨rec,yE⟩:∃rec:LoopState->Option Code->Loop,rec=λst pe=>{state:=st,pending:=pe,fn,tmps:=a.tmps,params:=ps,assign:=asg,body,defers:=w.heap.size}:=⟨_,rfl⟩;obtain⟨W1,XJ⟩:∃W1,(w.alloc (.deferred (some []))).alloc (.loop (rec .ready none))=W1:=⟨_,rfl⟩;have Tx:W1.heap[w.heap.size+1]?=some (.loop (rec .ready none)):=by
      rw[<-XJ];have:=alR (w.alloc (.deferred (some []))) (.loop (rec .ready none));rwa[an9] at this
     have jZ:W1.heap[w.heap.size]?=some (.deferred (some [])):=by
      rw[<-XJ];exact(Below.heap_alloc _ _ _ (by simp)).trans (alR w _)
     have F6:Below w.heap.size w W1:=by
      rw[<-XJ];exact((Below.refl _ w).alloc (az _) _).alloc (by simp) _
     have abk:W1.heap.size=w.heap.size+2:=by rw[<-XJ];simp
     have eg:∀args w,(callFunc f' args).run P w= .ok (.enter f' args) w:=by
      obtain⟨⟨fn,q1,q2,q3⟩,_⟩:=YM;intro args w;have Rk:¬fn.name= "runtime.NumGoroutine" :=by simpa using q3
      have qd:¬fn.body=none:=by
       intro e;rw[e] at q2;cases q2
      simp[callFunc,program,cj,q1,Rk,qd]
     refine⟨w.heap.size+1,[cD w.heap.size],W1,{target:=.fn (.func f') #[.pointer (some ⟨A0.b q,0,none⟩)],args:= #[.func (.yield (w.heap.size+1)) #[] #[]]},W1,f',
      #[.func (.yield (w.heap.size+1)) #[] #[]]++ #[.pointer (some ⟨A0.b q,0,none⟩)],W1,?_,?_,?_,?_,(λq=>by cases q),?_⟩
     .rw[<-XJ,yE];exact run_enterLoop_outer _ _ _ _ _
     .simp only[resolve,xX,hv];simp[go_sem]
     .intro _ _;trivial
     .simp[invoke,go_sem,eg]
     obtain⟨J,hJ⟩:∃J:List (Int×ByteArray)->aa->Prop,J=λpre W=> ∃y A S,Inv pre y/\MS o kp A0 noS (w.heap.size+1) w.heap.size (acc y) A S W/\SQ S W/\W.heap[w.heap.size+1]?=some (.loop (rec .ready none))/\W.heap[w.heap.size]?=some (.deferred (some [])):=⟨_,rfl⟩;have aiU:=H.jl.sj.size;have hJ0:J [] W1:=by
      rw[hJ];have hS:∀k,S0 k->k<w.heap.size:=H.jl.nN;have kY:∀j r b,ji A0 (nS (acc y0)) j=some r->r.has b->b<w.heap.size:=λj r b q1 q2=>(H.jl.own j r b q1 q2).2.1;refine⟨y0,A0,S0,hI,⟨H.jl.on F6,H.kP,kZ.refl _ _,λk hk=>hk.elim,⟨.inl (by omega),λq=>by have:=hS _ q;omega,λj r q1 q2=>by have:=kY j r _ q1 q2;omega,by omega⟩,
       ⟨.inl (by omega),λq=>by have:=hS _ q;omega,λj r q1 q2=>by have:=kY j r _ q1 q2;omega,by omega⟩⟩,λk hk s' p=>by rw[F6.block k (hS k hk)];exact hni k hk s' p,Tx,jZ⟩
     have YR:W1.heap[A0.b q]?=some (.cells #[.string s] ts (0,0)):=by
      have:=hJ0;rw[hJ] at this;have⟨y,A,S,_,m,_⟩:=this;exact zK m m.MD
     refine(YM.2 (w.heap.size+1) (A0.b q) s J W1 mu YR ?_ ?_ hJ0).mono ?_
     ·
      rw[hJ];rintro pre W W' row ⟨y,A,S,hi,m,B4,hl,hD⟩ hg hr;obtain⟨⟨m2,aiW⟩,el,eD⟩:=m.iter B4 (c9 y) hg (λr e=>⟨by have:=(hr r e).1;omega,(hr r e).2⟩) (λs' p e=>by rw[hl] at e;cases e) (λs' p e=>by rw[hD] at e;cases e);exact⟨y,A,S,hi,m2,aiW,el.trans hl,eD.trans hD⟩
     ·
      subst hJ;rintro pre x W ⟨y,A,S,hi,m,B4,hl,hD⟩ hx;have hy:=run_yield (P:=P) (args:= #[.int .i64 x.1,.string x.2]) hl (by rw[yE,XI];rfl);rw[yE] at hy;refine⟨fn,_,asg,body,hy,roundIn_of_wpIn tv ?_⟩;have aez:({tmps:=(ps.zip #[.int .i64 x.1,.string x.2]).foldl (λt (p,v)=>t.setIfInBounds p v) a.tmps,defers:=[]}:Act)=(a.put (some x1) (.int .i64 x.1)).put (some x2) (.string x.2):=by
       have hd:=H.lH;obtain⟨tm,df⟩:=a;simp only at hd;subst hd XI;simp[dA]
      have H1:kD (m.jl.rU kp A) n A S (· <(acc y).nx) (rI (acc y)) (nS (acc y)) a W:=
       ⟨H.size,H.lH,λt e he=>(we y t e he).2.2.2 A m.MD,λt e he _=>⟨Sy.mono (Vs y) (we y t e he).2.1,(we y t e he).2.2.1 A⟩,m.kP,m.jl.abh kp A,λj x hj=>nD (vl (c3 y) hj),⟨Vs y,kZ.refl _ _⟩⟩
      have H2:=H1.put (C:=[]) (d:=x1) (y:=.one (.v (.int .i64 x.1))) (u:=.int .i64 x.1) hxn (λt e he l hl=>by rw[(we y t e he).1] at hl;cases hl) (λl hl=>by cases hl) (λ_=>⟨tv,tv⟩) ⟨λ_=>rfl,λq=>(q λl hl=>by cases hl).elim⟩;have ahf:∀t e,rZ (rI (acc y)) x1 (some ⟨[],.one (.v (.int .i64 x.1))⟩) t=some e->e.ch=[]:=λt e he=>by
       by_cases q:x1=t
       .subst q;rw[mh] at he;cases he;rfl
       rw[qZ q] at he;exact(we y t e he).1
      have H2:=H2.put (C:=[]) (d:=x2) (y:=.one (.v (.string x.2))) (u:=.string x.2) hyn (λt e he l hl=>by rw[ahf t e he] at hl;cases hl) (λl hl=>by cases hl) (λ_=>⟨tv,tv⟩) ⟨λ_=>rfl,λq=>(q λl hl=>by cases hl).elim⟩;have O2:lE (m.jl.rU kp A) n (abj x1 x2 x (acc y)) ((a.put (some x1) (.int .i64 x.1)).put (some x2) (.string x.2)) W:=by
       refine⟨⟨A,S,H2⟩,λt e he=>?_,λj q=>q⟩;have he:rZ (rZ (rI (acc y)) x1 (some ⟨[],.one (.v (.int .i64 x.1))⟩)) x2 (some ⟨[],.one (.v (.string x.2))⟩) t=some e:=he
       by_cases q:x2=t
       .subst q;rw[mh] at he;cases he;rfl
       rw[qZ q] at he;exact ahf t e he
      have h8:=c8 y x;have nO:=round pre x y;cases hE:r5 P T [] n B [.run (pt++[0])] (abj x1 x2 x (acc y)) with
      |none=>rw[hE] at h8;cases h8
      |some ex=>
      rw[hE] at h8 nO;unfold abg at h8;simp only[aR] at h8;have⟨a1,a2,a3,a4⟩:=h8;have a1:=dR.1 a1;have a2:=dR.1 a2;have a3:ex.st=[]:=by cases AQ:ex.st<;>rw[AQ] at a3<;>first|rfl|cases a3
      have G1:=(go (mo:=⟨some (w.heap.size+1),[]⟩) (T:=T) (B:=B) (st:=[.run (pt++[0])]) (pr:=True) (Q:=λe a1 w1=>e= .normal/\lE (m.jl.rU kp A) n ex.σ a1 w1) [] O2 tv
       (λa w h=>by rw[hE] at h ⊢;show At _ P T B _ ex.st a w;rw[a3];exact⟨⟨rfl,h⟩⟩) (by rw[hE];rfl) (by rw[hE];show Ru ex.cs=True;rw[a1];rfl) (λA w=>by rw[hE];show ex.hs.map _=_;rw[show xH (some ex)=ex.hs from rfl,a2];rfl)).get
      have G1:(sub B (pt++[0])).qC ⟨some (w.heap.size+1),[]⟩ P (λe a1 w1=>e= .normal/\lE (m.jl.rU kp A) n ex.σ a1 w1) ((a.put (some x1) (.int .i64 x.1)).put (some x2) (.string x.2)) W:=by
       refine xg G1 λe a w h=>?_;cases e with
       |normal=>exact h
       |_=>exact h
      rw[kG,oX,Fe] at G1;have G1:asg.wpIn (aS.inRound (w.heap.size+1)) 0 P (rH ⟨some (w.heap.size+1),[]⟩ (λe a1 w1=>e= .normal/\lE (m.jl.rU kp A) n ex.σ a1 w1)) (kS ((a.put (some x1) (.int .i64 x.1)).put (some x2) (.string x.2)) []) W:=G1;rw[pE] at G1;rw[aez];refine wpIn_mono G1 ?_;rintro e XK w1 ⟨a0,ea,rfl,hq1⟩;have ea:XK=kS a0 []:=ea;rw[pE] at ea;subst ea;obtain⟨⟨A1,S1,K2⟩,ch1,_⟩:=hq1;have m1:=m.next K2;have oA:=(m.lone m.l1 K2.jl).2.trans hl;have hD1:=(m.lone m.d1 K2.jl).2.trans hD;refine⟨_,run_beginRound oA (by rw[yE]),?_⟩;have m2:=m1.put (.loop {rec .ready none with state:=.busy}) (by omega);have oy:(w1.putObj (w.heap.size+1) (.loop {rec .ready none with state:=.busy})).heap[w.heap.size+1]?=some (.loop {rec .ready none with state:=.busy}):=alS m1.l1.2.2.2;have hD2:(w1.putObj (w.heap.size+1) (.loop {rec .ready none with state:=.busy})).heap[w.heap.size]?=some (.deferred (some [])):=(dI (by omega)).trans hD1;have H3:kD (m2.jl.rU kp A1) n A1 S1 (· <ex.σ.nx) (rI ex.σ) (nS ex.σ) XK _:=
       ⟨K2.size,K2.lH,K2.env,K2.rE,m2.kP,m2.jl.abh kp A1,λj x hj=>nD (vl a4 hj),⟨K2.AP.1,kZ.refl _ _⟩⟩
      have B2:=(nO (m2.jl.rU kp A1).toOrig (m2.jl.rU kp A1).G (m2.jl.rU kp A1).gS (m2.jl.rU kp A1).Za A1 (w.heap.size+1) XK _ (λe a3 w3=>e= .normal/\∃y',Inv (pre++[x]) y'/\lE (m2.jl.rU kp A1) n (F4 (acc y')) a3 w3)
       (λy' nv _ _ _ hk Fu h2 h3 h4=>⟨rfl,y',Fu,uu nv hk rfl h2 h3 h4⟩) hx hi ⟨⟨A1,S1,H3⟩,ch1,λj q=>q⟩).get
      have B2:(sub B (pt++[1])).qC ⟨some (w.heap.size+1),[]⟩ P (λe a3 w3=>e= .normal/\∃y',Inv (pre++[x]) y'/\lE (m2.jl.rU kp A1) n (F4 (acc y')) a3 w3) XK (w1.putObj (w.heap.size+1) (.loop {rec .ready none with state:=.busy})):=by
       refine xg B2 λe a w h=>?_;cases e with
       |normal=>exact h
       |_=>exact h
      rw[kG,oX,Ff] at B2;have B2:body.wpIn (aS.inRound (w.heap.size+1)) 0 P (rH ⟨some (w.heap.size+1),[]⟩ (λe a3 w3=>e= .normal/\∃y',Inv (pre++[x]) y'/\lE (m2.jl.rU kp A1) n (F4 (acc y')) a3 w3)) (kS XK []) (w1.putObj (w.heap.size+1) (.loop {rec .ready none with state:=.busy})):=B2;rw[pE] at B2;refine wpIn_mono B2 ?_;rintro e a3 w3 ⟨a4',_,rfl,y',Fu,⟨A3,S3,K4⟩,_,_⟩;have m3:MS o kp A0 noS (w.heap.size+1) w.heap.size (acc y') A3 S3 w3:=m2.next (σ2:=acc y') K4;have sI:=(m2.lone m2.l1 K4.jl).2.trans oy;have hD3:=(m2.lone m2.d1 K4.jl).2.trans hD2;have m4:=m3.put (.loop (rec .ready none)) (by omega);obtain⟨m5,aiX⟩:=m4.nw (c9 y');have FO:=run_endRound (P:=P) none sI;have aiY:W.heap.size<=w3.heap.size:=by
       have z1:W.heap.size<=w1.heap.size:=K2.jl.sj.size;have z2:(w1.putObj (w.heap.size+1) (.loop {rec .ready none with state:=.busy})).heap.size<=w3.heap.size:=K4.jl.sj.size;rw[akh] at z2;omega
      have ahg:∀W',W'=w3.putObj (w.heap.size+1) (.loop (rec .ready none))->(∃y A S,Inv (pre++[x]) y/\MS o kp A0 noS (w.heap.size+1) w.heap.size (acc y) A S W'/\SQ S W'/\W'.heap[w.heap.size+1]?=some (.loop (rec .ready none))/\W'.heap[w.heap.size]?=some (.deferred (some [])))/\KpB (A0.b q) W W':=by
       rintro W' rfl;refine⟨⟨y',A3,_,Fu,m5,aiX,alS m3.l1.2.2.2,(dI (by omega)).trans hD3⟩,?_,?_,?_,?_,?_,?_⟩
       .exact m4.jl.sj.os.trans m.jl.sj.os.symm
       .exact m4.jl.sj.tape.trans m.jl.sj.tape.symm
       .exact m4.jl.sj.output.trans m.jl.sj.output.symm
       .rw[zK m m.MD,zK m4 m4.MD]
       .rw[akh];exact aiY
       intro r s' p hr;have hrl:r≠w.heap.size+1:=λe=>by rw[e,hl] at hr;cases hr
       have hrW:r<W.heap.size:=(cJ.1 hr).1;obtain⟨⟨k1,k2,k3⟩,k4⟩:=m.still (λz=>B4 r z s' p hr) (λj rr z1 z2=>by
        obtain⟨y2,hy2,rfl⟩:=aX.1 z1;exact HU (BN (c9 y) hy2) (m.jl.ok j _ z1) z2 s' p hr) hrW K2.jl
       obtain⟨_,k8⟩:=m2.still (k:=r) k1 k2 (by rw[akh];exact k3) K4.jl;rw[dI hrl,k8,dI hrl,k4];exact hr
      have hw4:=ahg _ rfl;refine⟨_,_,FO,rfl,?_,?_⟩
      .rw[yE] at hw4 ⊢;exact hw4.1
      rw[yE] at hw4 ⊢;exact hw4.2
     rw[hJ];rintro e W2 ⟨⟨v,rfl⟩,y,A,S,hi,m,B4,hl,hD⟩;refine⟨none,W2.putObj (w.heap.size+1) (.loop {rec .ready none with state:=.exhausted}),by have:=run_endLoop (P:=P) hl (by rw[yE];simp);rw[yE] at this ⊢;exact this,?_⟩;have m4:=m.put (.loop {rec .ready none with state:=.exhausted}) (by omega);have hD4:(W2.putObj (w.heap.size+1) (.loop {rec .ready none with state:=.exhausted})).heap[w.heap.size]?=some (.deferred (some [])):=(dI (by omega)).trans hD;have XF:=akc c5;have H5:kD o n A S (· <(acc y).nx+1) (rI (acc y)) (nS (acc y)) a (W2.putObj (w.heap.size+1) (.loop {rec .ready none with state:=.exhausted})):=
      ⟨H.size,H.lH,λt e he=>(we y t e he).2.2.2 A m.MD,λt e he _=>⟨Sy.mono (λj hj=>aki (Vs y j hj)) (we y t e he).2.1,(we y t e he).2.2.1 A⟩,
       λj x hj=>⟨aki (m4.kP j x hj).1,R2.mono (λj hj=>aki hj) (m4.kP j x hj).2.1,(m4.kP j x hj).2.2⟩,m4.jl,λj x hj=>nD (vl (c3 y) hj),
       ⟨λj hj=>aki (Vs y j (bh (np j hj) XF)),H.AP.2.trans (m.MD.mono λj hj=>bh (np j hj) XF)⟩⟩
     have H6:=H5.vp (w':=W2.putObj (w.heap.size+1) (.loop {rec .ready none with state:=.exhausted})) (S':=S) (acc y).nx (some (.ext (.FF w.heap.size))) (λy e=>by cases e;exact⟨cX _,tv,tv⟩) (λy e=>by cases e;exact nD rfl)
      (m4.jl.put _ (Pk w.heap.size) hD4 λb e=>by
       have e:b=w.heap.size:=e;subst e;exact⟨m4.d1.1,m4.d1.2.2.2,m4.d1.2.1,λi ri _ hi=>m4.d1.2.2.1 i ri hi⟩)
     refine⟨kS a [cD w.heap.size],XH H.lH _ _,AL w.heap.size _ _ _ g4 (after y w.heap.size a _ hi ⟨⟨A,S,H6⟩,λt e he=>(we y t e he).1,np⟩).get⟩
    cases B9
   cases B9
  cases B9
 cases B9
end
theorem XO:QY aq 57 9:=by
 refine⟨⟨f57,func57,by kernel_rfl,by kernel_rfl⟩,λl b s J w hs hb hJ hY h0=>?_⟩;refine callsIn_wide.2 ((OM l b s J (λ_ _=>False) w hs hb hJ (λ_ _ _ _ h _ _=>h) (λpre x W1 h1 h2=>?_) h0).mono ?_)
 .obtain⟨fn,tmps,assign,body,h3,h4⟩:=hY pre x W1 h1 h2;exact⟨fn,tmps,assign,body,h3,h4.mono λe W' h=>.inl h⟩
 rintro e W' ⟨h1,⟨xs,rfl,h2⟩|⟨_,_,h2⟩⟩
 .exact⟨h1,h2⟩
 exact h2.elim
theorem Dd {S:iD}{w:aa}{v:af}{s:ByteArray}(h:Rd S w v s):v= .string s:=by
 obtain⟨cs,h,rfl⟩:=h;have h:cs=[.string s]:=h;subst h;rfl
theorem aeC:je aq 40 [(false,.str)] [.bool] (λ_=>True) (λx=>(ob (show ByteArray from x.1),())):=by
 intro o vs x hx hd
 match vs,hx with
 |[v],hx=>
  have e:=Dd hx.1;subst e;exact(Xy _ o.w).mono λe w' ⟨h1,h2⟩=>⟨_,h1,⟨[.bool _],rfl,rfl⟩,h2⟩
def XP:kI aq:=plain aeC
theorem ahh:je aq 33 [(false,.str)] [.int,.bool] (λ_=>True) (λx=>((L9 (show ByteArray from x.1)).1,(L9 (show ByteArray from x.1)).2,())):=by
 intro o vs x hx hd
 match vs,hx with
 |[v],hx=>
  have e:=Dd hx.1;subst e;exact(aa8 _ o.w).mono λe w' ⟨h1,h2⟩=>⟨_,h1,⟨[.int .i64 _,.bool _],rfl,⟨[_],rfl,rfl⟩,⟨[_],rfl,rfl⟩,tv⟩,h2⟩
def XQ:kI aq:=plain ahh
theorem abl:je aq 36 [(false,.str)] [.list (.pair .int .str)] (λx=>(show ByteArray from x.1).size<=1000000000) (λx=>(Oh (show ByteArray from x.1),())):=by
 intro o vs x hx hd
 match vs,hx with
 |[v],hx=>
  have e:=Dd hx.1;subst e;exact SM _ o hd
def JW:kI aq:=plain abl
end Go.Proofs.YtnfdimfepbbbpaaGreatDoor
namespace Go.Proofs.YtnfdimfepbbbpaaGreatDoor
open Go.RowKit Go.Sort Go.Lib
theorem Tryz.aeD (m:Nat):AnyZI.SortsIn aq Tryz.Ch aS m:=
 ⟨λlV off cap ss W hH Uz mu=>callsIn_wide.2 (Tryz.slices_Sort_int lV off cap ss W hH Uz mu),λp cap W=>callsIn_wide.2 (Tryz.slices_Sort_int_none p cap W)⟩
theorem kD.on {o:jw}{n:Nat}{A:jA}{S:iD}{F:Nat->Prop}{s:Nat->Option E2}{r:Nat->Option R2}{a:Act}{w w':aa}(H:kD o n A S F s r a w)(hb:Below w.heap.size w w'):kD o n A S F s r a w':=
 ⟨H.size,H.lH,H.env,H.rE,H.kP,H.jl.on hb,H.args,H.AP⟩
def acP (b:Nat)(ko:List (Nat×Nat))(ys:List Sy):Tr Out:=match ko,ys with
 |[],[.one (.uk f [(q,0)])]=>jb (aP f 88) (.res q λx=>match x with
  | .box _ [.mp j]=>.res j λy=>match y with
   | .map .int t m=>.ret ⟨[(show List (Int×El t) from m)=[]],[],.one (.v (.slice none 0 0)),[]⟩
   |_=>.fail
  |_=>.fail)
 |_,_=>.fail
theorem abm:zS aq 66 acP:=by
 intro o n A S F s r a w b B ko ys out H hF YO BZ h kF tP hB;unfold acP at h;split at h
 .rename_i f q;obtain⟨hg,h1⟩:=iB h;clear h;have g1:=jP hg;subst g1;obtain⟨x,hx,h⟩:=iW h1;split at h
  .rename_i bt j;obtain⟨y,hy,h⟩:=iW h;split at h
   .rename_i t m;have e:=iX h;subst e;have hm:(show List (Int×El t) from m)=[]:=kF _ (av.2 rfl);have zK:w.heap[A.b q]?=some (.cells #[.map (A.m j)] bt (0,0)):=H.jl.ok q _ (show ji A r q=some _ by simp[ji,hx];rfl);obtain⟨mb,e1,zs,kY,e2,_⟩:∃mb,A.m j=some mb/\pX S w mb m:=H.jl.ok j _ (show ji A r j=some _ by simp[ji,hy];rfl);have Tk:zs=[]:=by
     have:(zs.map λq=>(q.1,q.2.2))=[]:=e2.symm.trans hm;exact List.map_eq_nil_iff.1 this
    subst Tk;rw[e1] at zK;have ahi:=kY.to (P:=aq) (kt:=3) Tryz.underlying3;have qF:w.cell? ⟨A.b q,0,none⟩=some (.map (some mb)):=by rw[cell_of_row w (A.b q) 0 _ _ _ zK];rfl
    have YQ:A.b q<w.heap.size:=(cJ.1 zK).1;have RR:SeqGives aS 2 aq 88 #[.pointer (some ⟨A.b q,0,none⟩)] encZ (λss=>ss.Perm (intKeys (rW (k:=.int) ([]:List (jG .int×af))))) (dN (rW (k:=.int) ([]:List (jG .int×af)))) w:=
     AnyZI.keys_gives (ρ:=Tryz.Hw) {Tryz.agG with} aS 2 tv rfl (by omega) (A.b q) mb _ _ w YQ qF ahi
    have cS:=AnyZI.sorted_in Tryz.aao aS 5 tv tv tv tv rfl (by omega) (Tryz.aeD _) (enters_of func69 (by kernel_rfl) rfl) 88 #[.pointer (some ⟨A.b q,0,none⟩)] tv (enters_of func88 (by kernel_rfl) rfl) _ (dN (rW (k:=.int) ([]:List (jG .int×af)))) (by decide) (by decide) w RR;have cS':=(callsIn_wide (n:=5)).1 cS;refine cS'.mono λe w' ⟨v,ss,he,ahj,p7,uG,RZ⟩=>⟨v,he,A,S,?_,?_,tv,tv⟩
    .exact(H.on RZ).agree (kZ.refl _ _) λj h=>.inl h
    have:ss=[]:=List.Perm.eq_nil ahj;exact uG.2 this
   cases h
  cases h
 cases h
def aeE:kI aq:=⟨_,_,abm⟩
theorem XR {S:iD}{w:aa}(l:List ByteArray):jW S w (l.map alb) l:=by
 refine⟨by show _=l.length*1;simp,λi hi=>?_⟩;show((l.map alb).drop (i*1)).take 1=[.string l[i]];rw[amD,akU (by simpa using hi),anT,aly];simp
def ahk (b:Nat)(ko:List (Nat×Nat))(ys:List Sy):Tr Out:=match ko,ys with
 |[],[y]=>qm (.list .str) y λl=>.ret ⟨[(show List ByteArray from l).length<=1000000],[],.one (.own b),[(b,some (.row 9 .str (show List ByteArray from l)))]⟩
 |_,_=>.fail
theorem aeF:zS aq 39 ahk:=by
 intro o n A S F s r a w b B ko ys out H hF YO BZ h kF tP hB;unfold ahk at h;split at h
 .rename_i y;obtain⟨l,hl,h⟩:=oE (T:=(· <w.heap.size)) (w:=w) (A:=A) (λc _ j _=>A5 H j) h;have e:=iX h;subst e;have hlen:(show List ByteArray from l).length<=1000000:=kF _ (av.2 rfl);have hb:¬F b:=hF b (az _) (hB _ (av.2 rfl));have hl:Rd (· <w.heap.size) w (y.den A) (show List ByteArray from l):=hl;generalize Tk:(show List ByteArray from l)=zs at*
  obtain⟨p,c,hv,h1,h2,h3⟩:=jV hl;have fin:∀v' w',w'.ownsRow w.heap.size 9 1 v' zs.length (zs.map alb)->Below w.heap.size w w'->mL o n F s r a ⟨[zs.length<=1000000],[],.one (.own b),[(b,some (.row 9 .str zs))]⟩ v' w':=λv' w' p7 RZ=>by
   obtain⟨A',k1,k2⟩:=kD.KK H hb (e:=9) (ty:=.str) (m:=zs) (v:=.slice none 0 0) (v':=v') (xs:=zs.map alb) (old:=none) rfl ⟨RZ.os,RZ.tape,RZ.output,RZ.size,λk hk _=>RZ.block k hk⟩ (oq.of p7) (λ_=>XR zs) (λk hk=>.inr (p7.lt k hk));exact⟨A',S,k1,k2,.inr ⟨_,av.2 rfl⟩,tv⟩
  show Calls aq 39 #[y.den A] w _;rw[hv];rcases h3 with rfl|⟨g,off,cur,t,fz,rfl,hg,hw,hc⟩
  .cases p with
   |none=>exact(Tryz.slices_Clone_string_nil 0 c w).mono λe w' ⟨he,hw⟩=>⟨_,he,fin _ _ (by subst hw;exact World.ownsRow_nil _ _ _ _) (by subst hw;exact Below.refl _ _)⟩
   |some ad=>exact(Tryz.slices_Clone_string_zero ad c w).mono λe w' ⟨v',he,p7,_,RZ⟩=>⟨v',he,fin v' w' p7 RZ⟩
  refine(Tryz.slices_Clone_string g off zs.length c zs w (az _) (by omega) λj hj=>?_).mono λe w' ⟨v',he,p7,_,RZ⟩=>⟨v',he,fin v' w' (by rw[bU] at p7;exact p7) RZ⟩;obtain⟨cs,hr,hq⟩:=hc j hj;have hr:cs=[.string zs[j]]:=hr;have:=hq 0 (show 0<1 by decide);rw[hr] at this;rw[cell_of_row w g _ cur t fz hw];have e:off+j*Data.size ByteArray+0=off+j:=by show off+j*1+0=_;omega
  rw[e] at this;rw[this];simp[aJ,aY hj]
 cases h
def acQ:kI aq:=⟨_,_,aeF⟩
theorem bk {i:Int}{n:Nat}(h:decide (0<=i/\i<(n:Int))=true:=by kernel_rfl):jg i n:=show 0<=i/\i<(n:Int) from aA h
theorem ik {n:Int}(h:decide (-9223372036854775808<=n/\n<=9223372036854775807)=true:=by kernel_rfl):jh .i64 n:=show -9223372036854775808<=n/\n<=9223372036854775807 from aA h
theorem dk {p:Prop}[Decidable p](h:decide p=true:=by kernel_rfl):p:=aA h
abbrev aB:ByteArray:=⟨#[97]⟩
abbrev cB:ByteArray:=aop
abbrev vaB:ByteArray:=⟨#[118,101,114,116,101,120,32,97]⟩
abbrev TC:ByteArray:=aoo
theorem MH:pT TC=[(0,cB),(5,vaB)]:=by kernel_rfl
theorem XS:jz 0 [aB] [] [] [] [[]] []=((((1,[]),(([],[]),([[]],[])))),0):=by
 have h:P8 []:=λj hj=>by simp at hj;omega
 unfold jz;rw[ak rfl,ak h];rfl
theorem aeG:wB 1 [] [] [] [[]] []=0:=by kernel_rfl
theorem abn:iy 1 [] [] [] [[]]=([],0):=by kernel_rfl
theorem aeH:ob aB=true:=by kernel_rfl
theorem aiZ:je aq 10 [(true,J5)] [J5] (λx=>(N_ x.1.2.2.1).length<=1000000) (λx=>(((I_ x.1.1),((B_ x.1.2.1),((N_ x.1.2.2.1),(((J_ x.1.2.2.2.1.1),(J_ x.1.2.2.2.1.2)),((K_ x.1.2.2.2.2.1),(K_ x.1.2.2.2.2.2)))))),())):=by
 refine iV f10 52 [] func10 λo x hd _ _ h=>?_;obtain⟨⟨(K:Int),⟨(W:List ByteArray),⟨(E:List m8),⟨⟨(V:List Int),(L:List Int)⟩,⟨(T:List (List Int)),(S:List (List Int))⟩⟩⟩⟩⟩,_⟩:=x;have oM:=CS h 0 W;have oA:=GN h 1 E;have oy:=lF h 2 V;have sI:=lF h 3 L;have De:=oH h 4 T;have JX:=oH h 5 S;change E.length<=1000000 at hd;have hE:=hd;refine qG [] h ?_;refine kX (List (ByteArray×Int×Int×Int)) E (λi oo=>⟨[(1,ep 0),(2,ep 1),(3,ep 2),(4,en i)],[(0,some (.box 31 [.v (.int .i64 K),.own 3,.own 4,.own 5,.own 6,.own 7,.own 8])),(1,some (.box 39 [.v (.int .i64 0),.v (.slice none 0 0),.v (.slice none 0 0),.v (.slice none 0 0),.v (.slice none 0 0),.v (.slice none 0 0),.v (.slice none 0 0)])),(2,some (.box 39 [.v (.int .i64 K),.own 3,.own 9,.own 5,.own 6,.own 7,.own 8])),(3,some (.ro .str W)),(4,some (.ro uF E)),(5,some (.ro .int V)),(6,some (.ro .int L)),(7,some (.ro (.list .int) T)),(8,some (.ro (.list .int) S)),(9,some (.row 84 uF oo))],10⟩) (λi oo=>oo=E.take i.toNat) [] [(0,some 6),(1,some 4102),(2,some 45062),(3,some 0),(4,some 1),(5,some 2),(6,some 3),(7,some 4),(8,some 5),(9,none)] rfl λi oo _ jZ h0 h1 h2=>?_;refine iP ?_;refine iO (p:=i<(E.length:Int)) (λq1=>?_) λq1=>?_
 .have Df:oo.length<=E.length:=by rw[h2,aW];omega
  refine iZ (pr:=(jg i E.length)/\(jg i E.length)/\(jg i E.length)/\(jg i E.length)/\(oo.length+([(E.getD i.toNat dS)]:List m8).length<=2147483647)/\(jh .i64 (i+1))) ⟨bx,bx,bx,bx,ln,jB⟩ ?_;exact k9 (jZ (oo++([(E.getD i.toNat dS)]:List m8)) (rk [0,1,2,3,4,5,6,7,8,135178]) (by rw[qv (d:=mD) h0 (by omega),h2]))
 refine iP ?_;exact iH (((K,(W,(oo,((V,L),(T,S))))):Int×(List ByteArray)×(List m8)×((List Int)×List Int)×(List (List Int))×List (List Int)),()) (by rw[h2,tq q1]<;>rfl)
def ai0:kI aq:=plain aiZ
theorem abo:je aq 49 [(false,(.list (.list .int)))] [(.list (.list .int))] (λx=>jc (K_ x.1)) (λx=>((K_ x.1),())):=by
 refine iV f49 23 [Qm] func49 λo x hd _ _ h=>?_;obtain⟨(l:List (List Int)),_⟩:=x;have oM:=oH h 0 l;change jc l at hd;have mu:=hd;have abk:=mu.1;refine go (pr:=(0<=(l.length:Int)/\(l.length:Int)<=(l.length:Int)/\(l.length:Int)<=2147483647)) [] h (⟨by omega,by omega,by omega⟩) ?_;refine kX (List (List Int)) l (λi oo=>⟨[(3,eo 0),(9,eo 1),(10,en (l.length:Int)),(11,en i)],[(0,some (.row 24 (.list .int) oo)),(1,some (.ar (.list .int) l))],2⟩) (λi oo=>oo=FW l i.toNat) (cy (l.length:Int).toNat []) (rk [12289,0]) (adJ l) λi oo _ jZ h0 h1 h2=>?_;refine iP ?_;refine iO (p:=i<(l.length:Int)) (λq1=>?_) λq1=>?_
 .have hln:=mu.2 _ (iG (l:=l) (i:=i.toNat) (d:=([]:List Int)) (by omega));have Df:oo.length=l.length:=by rw[h2];exact Wm h0 (by omega)
  refine iZ (pr:=(jg i l.length)/\((l.getD i.toNat []).length<=1000000)/\(jg i oo.length)/\(jg i oo.length)/\(jh .i64 (i+1))) ⟨bx,by omega,bx,bx,jB⟩ ?_;exact k9 (jZ (oo.set i.toNat (l.getD i.toNat [])) (ir 2) (by rw[h2];exact Wo h0 (by omega)))
 refine iP ?_;exact iH ((oo:List (List Int)),()) (by rw[h2,Wp q1])
def abp:kI aq:=plain abo
theorem XT:je aq 20 [(false,J5)] [(.pair s8 (.pair qH plT)),.int] (λx=>(N_ x.1.2.2.1).length<=1000000/\(J_ x.1.2.2.2.1.1).length<=1000000/\(J_ x.1.2.2.2.1.2).length<=1000000/\jc (K_ x.1.2.2.2.2.1)/\jc (K_ x.1.2.2.2.2.2)) (λx=>((jz (I_ x.1.1) (B_ x.1.2.1) (N_ x.1.2.2.1) (J_ x.1.2.2.2.1.1) (J_ x.1.2.2.2.1.2) (K_ x.1.2.2.2.2.1) (K_ x.1.2.2.2.2.2)).1,(jz (I_ x.1.1) (B_ x.1.2.1) (N_ x.1.2.2.1) (J_ x.1.2.2.2.1.1) (J_ x.1.2.2.2.1.2) (K_ x.1.2.2.2.2.1) (K_ x.1.2.2.2.2.2)).2,())):=by
 refine iV f20 61 [Qm,abp] func20 λo x hd _ _ h=>?_;obtain⟨⟨(K:Int),⟨(W:List ByteArray),⟨(E:List m8),⟨⟨(V:List Int),(L:List Int)⟩,⟨(T:List (List Int)),(S:List (List Int))⟩⟩⟩⟩⟩,_⟩:=x;have oM:=CS h 0 W;have oA:=GN h 1 E;have oy:=lF h 2 V;have sI:=lF h 3 L;have De:=oH h 4 T;have JX:=oH h 5 S;change E.length<=1000000/\V.length<=1000000/\L.length<=1000000/\jc T/\jc S at hd;have⟨hE,hV,hL,hT,hS⟩:=hd;refine qG [] h ?_;refine ng (p:=K=0) (λq1=>?_) λq1=>?_
 .refine iP ?_;exact iH (((((0:Int),[]),(([],[]),([],[]))):(Int×List (Int×Int))×((List Int)×List Int)×(List (List Int))×List (List Int)),((16:Int):Int),()) (by rw[EI q1]<;>rfl)
 refine iP ?_;refine kX (List (Int×Int)) E (λi ge=>⟨[(1,ep 0),(2,ep 1),(4,ep 2),(17,eo 3),(18,en (E.length:Int)),(19,en i)],[(0,some (.box 39 [.v (.int .i64 K),.own 4,.own 3,.own 5,.own 6,.own 7,.own 8])),(1,some (.box 57 [.v (.int .i64 0),.v (.slice none 0 0),.v (.slice none 0 0),.v (.slice none 0 0),.v (.slice none 0 0),.v (.slice none 0 0)])),(2,some (.box 57 [.v (.int .i64 (W.length:Int)),.own 9,.v (.slice none 0 0),.v (.slice none 0 0),.v (.slice none 0 0),.v (.slice none 0 0)])),(3,some (.ar uF E)),(4,some (.ar .str W)),(5,some (.ar .int V)),(6,some (.ar .int L)),(7,some (.ar (.list .int) T)),(8,some (.ar (.list .int) S)),(9,some (.row 70 qS ge))],10⟩) (λi ge=>ge=FV (E.take i.toNat)/\∀j:Nat,(j:Int)<i->(E.getD j mD).2.2.2=0) [] [(0,some 6),(1,some 4102),(2,some 45062),(3,some 1),(4,some 0),(5,some 2),(6,some 3),(7,some 4),(8,some 5),(9,none)] (⟨rfl,λj hj=>by omega⟩) λi ge _ jZ h0 h1 hI=>?_;have⟨h2,h3⟩:=hI;refine iP ?_;refine iO (p:=i<(E.length:Int)) (λq2=>?_) λq2=>?_
 .have Df:ge.length<=E.length:=by rw[h2];unfold FV;rw[bp,aW];omega
  refine iZ (pr:=(jg i E.length)) bx ?_;refine ng (p:=(((E.getD i.toNat dS).2).2).2=0) (λq3=>?_) λq3=>?_
  .refine iP ?_;exact iH (((((0:Int),[]),(([],[]),([],[]))):(Int×List (Int×Int))×((List Int)×List Int)×(List (List Int))×List (List Int)),((1:Int):Int),()) (by rw[LW q1 h0 q2 q3]<;>rfl)
  refine iZ (pr:=(ge.length+([(((E.getD i.toNat dS).2).1,(((E.getD i.toNat dS).2).2).1)]:List (Int×Int)).length<=2147483647)/\(jh .i64 (i+1))) ⟨ln,jB⟩ ?_;exact k9 (jZ (ge++([(((E.getD i.toNat dS).2).1,(((E.getD i.toNat dS).2).2).1)]:List (Int×Int))) (rk [0,1,2,3,4,5,6,7,8,69642]) ⟨by rw[LV h0 (by omega),h2],λj hj=>if z:(j:Int)<i then h3 j z else by rw[show j=i.toNat by omega];exact q3⟩)
 refine iZ (pr:=(V.length<=1000000)/\(L.length<=1000000)/\(jc T)/\(jc S)) ⟨by omega,by omega,by assumption,by assumption⟩ ?_;exact iH (((((W.length:Int),ge),((V,L),(T,S))):(Int×List (Int×Int))×((List Int)×List Int)×(List (List Int))×List (List Int)),((0:Int):Int),()) (by rw[LX q1 q2 h3,h2,tq q2]<;>rfl)
noncomputable def aeI:kI aq:=plain XT
theorem abq:je aq 21 [(true,J5)] [(.pair s8 (.pair qH plT)),.int] (λx=>(N_ x.1.2.2.1).length<=1000000/\(J_ x.1.2.2.2.1.1).length<=1000000/\(J_ x.1.2.2.2.1.2).length<=1000000/\jc (K_ x.1.2.2.2.2.1)/\jc (K_ x.1.2.2.2.2.2)) (λx=>((jz (I_ x.1.1) (B_ x.1.2.1) (N_ x.1.2.2.1) (J_ x.1.2.2.2.1.1) (J_ x.1.2.2.2.1.2) (K_ x.1.2.2.2.2.1) (K_ x.1.2.2.2.2.2)).1,(jz (I_ x.1.1) (B_ x.1.2.1) (N_ x.1.2.2.1) (J_ x.1.2.2.2.1.1) (J_ x.1.2.2.2.1.2) (K_ x.1.2.2.2.2.1) (K_ x.1.2.2.2.2.2)).2,())):=by
 refine iV f21 55 [] func21 λo x hd _ _ h=>?_;obtain⟨⟨(K:Int),⟨(W:List ByteArray),⟨(E:List m8),⟨⟨(V:List Int),(L:List Int)⟩,⟨(T:List (List Int)),(S:List (List Int))⟩⟩⟩⟩⟩,_⟩:=x;have oM:=CS h 0 W;have oA:=GN h 1 E;have oy:=lF h 2 V;have sI:=lF h 3 L;have De:=oH h 4 T;have JX:=oH h 5 S;change E.length<=1000000/\V.length<=1000000/\L.length<=1000000/\jc T/\jc S at hd;have⟨hE,hV,hL,hT,hS⟩:=hd;refine qG [] h ?_;refine ng (p:=K=0) (λq1=>?_) λq1=>?_
 .refine iP ?_;exact iH (((((0:Int),[]),(([],[]),([],[]))):(Int×List (Int×Int))×((List Int)×List Int)×(List (List Int))×List (List Int)),((16:Int):Int),()) (by rw[EI q1]<;>rfl)
 refine iP ?_;refine kX (List (Int×Int)) E (λi ge=>⟨[(1,ep 0),(2,ep 1),(4,ep 2),(5,en i)],[(0,some (.box 31 [.v (.int .i64 K),.own 3,.own 4,.own 5,.own 6,.own 7,.own 8])),(1,some (.box 57 [.v (.int .i64 0),.v (.slice none 0 0),.v (.slice none 0 0),.v (.slice none 0 0),.v (.slice none 0 0),.v (.slice none 0 0)])),(2,some (.box 57 [.v (.int .i64 (W.length:Int)),.own 9,.own 5,.own 6,.own 7,.own 8])),(3,some (.ro .str W)),(4,some (.ro uF E)),(5,some (.ro .int V)),(6,some (.ro .int L)),(7,some (.ro (.list .int) T)),(8,some (.ro (.list .int) S)),(9,some (.row 70 qS ge))],10⟩) (λi ge=>ge=FV (E.take i.toNat)/\∀j:Nat,(j:Int)<i->(E.getD j mD).2.2.2=0) [] [(0,some 6),(1,some 4102),(2,some 49158),(3,some 0),(4,some 1),(5,some 2),(6,some 3),(7,some 4),(8,some 5),(9,none)] (⟨rfl,λj hj=>by omega⟩) λi ge _ jZ h0 h1 hI=>?_;have⟨h2,h3⟩:=hI;refine iP ?_;refine iO (p:=i<(E.length:Int)) (λq2=>?_) λq2=>?_
 .have Df:ge.length<=E.length:=by rw[h2];unfold FV;rw[bp,aW];omega
  refine iZ (pr:=(jg i E.length)) bx ?_;refine ng (p:=(((E.getD i.toNat dS).2).2).2=0) (λq3=>?_) λq3=>?_
  .refine iP ?_;exact iH (((((0:Int),[]),(([],[]),([],[]))):(Int×List (Int×Int))×((List Int)×List Int)×(List (List Int))×List (List Int)),((1:Int):Int),()) (by rw[LW q1 h0 q2 q3]<;>rfl)
  refine iZ (pr:=(jg i E.length)/\(jg i E.length)/\(ge.length+([(((E.getD i.toNat dS).2).1,(((E.getD i.toNat dS).2).2).1)]:List (Int×Int)).length<=2147483647)/\(jh .i64 (i+1))) ⟨bx,bx,ln,jB⟩ ?_;exact k9 (jZ (ge++([(((E.getD i.toNat dS).2).1,(((E.getD i.toNat dS).2).2).1)]:List (Int×Int))) (rk [0,1,2,3,4,5,6,7,8,118794]) ⟨by rw[LV h0 (by omega),h2],λj hj=>if z:(j:Int)<i then h3 j z else by rw[show j=i.toNat by omega];exact q3⟩)
 refine iP ?_;exact iH (((((W.length:Int),ge),((V,L),(T,S))):(Int×List (Int×Int))×((List Int)×List Int)×(List (List Int))×List (List Int)),((0:Int):Int),()) (by rw[LX q1 q2 h3,h2,tq q2]<;>rfl)
noncomputable def abr:kI aq:=plain abq
theorem aeJ:je aq 22 [(false,J5)] [(.pair s8 (.pair s8 (.list .int))),.int] (λx=>(N_ x.1.2.2.1).length<=1000000/\(J_ x.1.2.2.2.1.1).length<=1000000/\(J_ x.1.2.2.2.1.2).length<=1000000/\jc (K_ x.1.2.2.2.2.1)/\jc (K_ x.1.2.2.2.2.2)) (λx=>((jE (I_ x.1.1) (B_ x.1.2.1) (N_ x.1.2.2.1) (J_ x.1.2.2.2.1.1) (J_ x.1.2.2.2.1.2) (K_ x.1.2.2.2.2.1) (K_ x.1.2.2.2.2.2)).1,(jE (I_ x.1.1) (B_ x.1.2.1) (N_ x.1.2.2.1) (J_ x.1.2.2.2.1.1) (J_ x.1.2.2.2.1.2) (K_ x.1.2.2.2.2.1) (K_ x.1.2.2.2.2.2)).2,())):=by
 refine iV f22 111 [] func22 λo x hd _ _ h=>?_;obtain⟨⟨(K:Int),⟨(W:List ByteArray),⟨(E:List m8),⟨⟨(V:List Int),(L:List Int)⟩,⟨(T:List (List Int)),(S:List (List Int))⟩⟩⟩⟩⟩,_⟩:=x;have oM:=CS h 0 W;have oA:=GN h 1 E;have oy:=lF h 2 V;have sI:=lF h 3 L;have De:=oH h 4 T;have JX:=oH h 5 S;change E.length<=1000000/\V.length<=1000000/\L.length<=1000000/\jc T/\jc S at hd;have⟨hE,hV,hL,hT,hS⟩:=hd;have hT1:=hT.1;have hS1:=hS.1;refine qG [] h ?_;refine ng (p:=K=1) (λq1=>?_) λq1=>?_
 .refine iP ?_;exact iH (((((0:Int),[]),(((0:Int),[]),[])):(Int×List (Int×Int))×(Int×List (Int×Int))×List Int),((16:Int):Int),()) (by rw[EJ q1]<;>rfl)
 refine iZ (pr:=(jh .i64 ((V.length:Int)+(L.length:Int)))/\(jh .i64 (((V.length:Int)+(L.length:Int))+(T.length:Int)))/\(jh .i64 ((((V.length:Int)+(L.length:Int))+(T.length:Int))+(S.length:Int)))) ⟨jB,jB,jB⟩ ?_;refine iO (p:=(0:Int)<(((V.length:Int)+(L.length:Int))+(T.length:Int))+(S.length:Int)) (λq2=>?_) λq2=>?_
 .refine iP ?_;exact iH (((((0:Int),[]),(((0:Int),[]),[])):(Int×List (Int×Int))×(Int×List (Int×Int))×List Int),((1:Int):Int),()) (by rw[EK q1 q2]<;>rfl)
 refine iP ?_;refine acr (List (Int×Int)) (List (Int×Int)) (List Int) E (λi pa pb ps=>⟨[(2,ep 0),(4,ep 1),(43,eo 2),(44,en (E.length:Int)),(45,en i)],[(0,some (.box 63 [.v (.int .i64 0),.v (.slice none 0 0),.v (.int .i64 0),.v (.slice none 0 0),.v (.slice none 0 0)])),(1,some (.box 63 [.v (.int .i64 (W.length:Int)),.own 3,.v (.int .i64 (W.length:Int)),.own 4,.own 5])),(2,some (.ar uF E)),(3,some (.row 70 qS pa)),(4,some (.row 70 qS pb)),(5,some (.row 3 .int ps))],6⟩) (λi pa pb ps=>pa=(Aw (E.take i.toNat)).1/\pb=(Aw (E.take i.toNat)).2.1/\ps=(Aw (E.take i.toNat)).2.2/\∀j:Nat,(j:Int)<i->Wk (E.getD j mD).2.2.2) [] [] [] [(0,some 4102),(1,some 143366),(2,some 1),(3,none),(4,none),(5,none)] (⟨rfl,rfl,rfl,λj hj=>by omega⟩) λi pa pb ps _ jZ h0 h1 hI=>?_;have⟨h2,h3,h4,h5⟩:=hI;refine iP ?_;refine iO (p:=i<(E.length:Int)) (λq3=>?_) λq3=>?_
 .have Df:=LY E i;rw[<-h2,<-h3,<-h4] at Df;have⟨hoa,hob,hos⟩:=Df;refine iZ (pr:=(jg i E.length)) bx ?_;refine iO (p:=(((E.getD i.toNat dS).2).2).2=0) (λq4=>?_) λq4=>?_
  .refine iZ (pr:=(pa.length+([(((E.getD i.toNat dS).2).1,(((E.getD i.toNat dS).2).2).1)]:List (Int×Int)).length<=2147483647)/\(ps.length+([(pb.length:Int)]:List Int).length<=2147483647)/\(pb.length+([(((E.getD i.toNat dS).2).1,(((E.getD i.toNat dS).2).2).1)]:List (Int×Int)).length<=2147483647)/\(jh .i64 (i+1))) ⟨ln,ln,ln,jB⟩ ?_;exact k9 (jZ (pa++([(((E.getD i.toNat dS).2).1,(((E.getD i.toNat dS).2).2).1)]:List (Int×Int))) (pb++([(((E.getD i.toNat dS).2).1,(((E.getD i.toNat dS).2).2).1)]:List (Int×Int))) (ps++([(pb.length:Int)]:List Int)) (rk [0,1,2,86022,163846,131078]) ⟨by rw[lY h0 (by omega),yj q4,h2],by rw[lY h0 (by omega),yj q4,h3],by rw[lY h0 (by omega),yj q4,h4,h3],λj hj=>if z:(j:Int)<i then h5 j z else by rw[show j=i.toNat by omega];exact⟨by rw[q4];decide,by rw[q4];decide⟩⟩)
  refine iP ?_;refine iO (p:=(((E.getD i.toNat dS).2).2).2=1) (λq5=>?_) λq5=>?_
  .refine iZ (pr:=(pa.length+([(((E.getD i.toNat dS).2).1,(((E.getD i.toNat dS).2).2).1)]:List (Int×Int)).length<=2147483647)/\(ps.length+([(-1:Int)]:List Int).length<=2147483647)/\(jh .i64 (i+1))) ⟨ln,ln,jB⟩ ?_;exact k9 (jZ (pa++([(((E.getD i.toNat dS).2).1,(((E.getD i.toNat dS).2).2).1)]:List (Int×Int))) pb (ps++([(-1:Int)]:List Int)) (rk [0,1,2,94214,4,122886]) ⟨by rw[lY h0 (by omega),yl q5,h2],by rw[lY h0 (by omega),yl q5,h3],by rw[lY h0 (by omega),yl q5,h4],λj hj=>if z:(j:Int)<i then h5 j z else by rw[show j=i.toNat by omega];exact⟨by rw[q5];decide,by rw[q5];decide⟩⟩)
  refine iP ?_;refine iO (p:=(((E.getD i.toNat dS).2).2).2=2) (λq6=>?_) λq6=>?_
  .refine iZ (pr:=(pb.length+([(((E.getD i.toNat dS).2).1,(((E.getD i.toNat dS).2).2).1)]:List (Int×Int)).length<=2147483647)/\(jh .i64 (i+1))) ⟨ln,jB⟩ ?_;exact k9 (jZ pa (pb++([(((E.getD i.toNat dS).2).1,(((E.getD i.toNat dS).2).2).1)]:List (Int×Int))) ps (rk [0,1,2,3,102406,5]) ⟨by rw[lY h0 (by omega),yo q4 q5,h2],by rw[lY h0 (by omega),yo q4 q5,h3],by rw[lY h0 (by omega),yo q4 q5,h4],λj hj=>if z:(j:Int)<i then h5 j z else by rw[show j=i.toNat by omega];exact⟨by rw[q6];decide,by rw[q6];decide⟩⟩)
  refine iP ?_;exact iH (((((0:Int),[]),(((0:Int),[]),[])):(Int×List (Int×Int))×(Int×List (Int×Int))×List Int),((1:Int):Int),()) (by rw[LZ q1 h0 q3 (λz=>by have z1:0<=(E.getD i.toNat dS).2.2.2/\(E.getD i.toNat dS).2.2.2<=2:=z;omega)]<;>rfl)
 refine iP ?_;exact iH (((((W.length:Int),pa),(((W.length:Int),pb),ps)):(Int×List (Int×Int))×(Int×List (Int×Int))×List Int),((0:Int):Int),()) (by rw[L0 q1 q2 q3 h5,h2,h3,h4,tq q3]<;>rfl)
noncomputable def aeK:kI aq:=plain aeJ
theorem XU:je aq 82 [(false,(.list .int)),(false,.int)] [(.list .int)] (λx=>0<=(I_ x.2.1)/\(I_ x.2.1)<=((J_ x.1).length:Int)/\(J_ x.1).length<=1000000) (λx=>(uc (J_ x.1) (I_ x.2.1),())):=by
 refine iV f82 20 [] func82 λo x hd _ _ h=>?_;obtain⟨(l:List Int),(i:Int),_⟩:=x;have oM:=lF h 0 l;change 0<=i/\i<=(l.length:Int)/\l.length<=1000000 at hd;have⟨i0,i1,hl⟩:=hd;refine go (pr:=(0<=(0:Int)/\(0:Int)<=(l.length:Int)/\(l.length:Int)<=2147483647)/\(0<=i/\i<=(l.length:Int))/\((cy (0:Int).toNat 0).length+(l.drop i.toNat).length<=2147483647)/\(0<=i/\i<=i/\i<=(l.length:Int))/\(((cy (0:Int).toNat 0)++(l.drop i.toNat)).length+(l.take i.toNat).length<=2147483647)) [] h ⟨⟨by omega,by omega,by omega⟩,ct,ln,⟨by omega,by omega,by omega⟩,ln⟩ ?_;exact iH (((((cy (0:Int).toNat 0)++(l.drop i.toNat))++(l.take i.toNat)):List Int),()) rfl
def XV:kI aq:=plain XU
theorem abt:je aq 54 [(false,(.list .int))] [(.list .int)] (λx=>(J_ x.1).length<=1000000) (λx=>(iK (J_ x.1),())):=by
 refine iV f54 24 [XV] func54 λo x hd _ _ h=>?_;obtain⟨(l:List Int),_⟩:=x;have oM:=lF h 0 l;change l.length<=1000000 at hd;have hb:=rL l l.length;refine qG [] h ?_;refine kX Int l (λi b=>⟨[(0,eo 0),(3,en b),(6,eo 0),(7,en (l.length:Int)),(8,en i)],[(0,some (.ar .int l))],1⟩) (λi b=>b=pS l i.toNat) 0 (ir 1) rfl λi b _ jZ h0 h1 h2=>?_;refine iP ?_;refine iO (p:=i<(l.length:Int)) (λq1=>?_) λq1=>?_
 .obtain⟨b0,b1⟩:=rL l i.toNat;rw[<-h2] at b0 b1;refine iZ (pr:=(jg i l.length)/\(jg b l.length)) ⟨bx,bx⟩ ?_;refine iO (p:=(l.getD i.toNat 0)<(l.getD b.toNat 0)) (λq2=>?_) λq2=>?_
  .refine iZ (pr:=(jh .i64 (i+1))) jB ?_;exact k9 (jZ i (ir 1) (by rw[ud l h0,<-h2,ak q2]))
  refine iZ (pr:=(jh .i64 (i+1))) jB ?_;exact k9 (jZ b (ir 1) (by rw[ud l h0,<-h2,ah q2]))
 obtain⟨b0,b1⟩:=rL l i.toNat;rw[<-h2] at b0 b1;have he:i.toNat=l.length:=by omega
 rw[he] at h2;refine iZ (pr:=(0<=b/\b<=(l.length:Int)/\l.length<=1000000)) (⟨by omega,by omega,by omega⟩) ?_;exact iH ((uc l b:List Int),()) (by rw[h2];rfl)
def Q0:kI aq:=plain abt
theorem aeL:je aq 118 [(false,(.list (.list .int))),(true,(.map .int .int)),(true,(.list .int))] [(.ptr (.pair (.list (.list .int)) (.pair (.map .int .int) (.pair (.map .int .int) (.list .int)))))] (λx=>kH (K_ x.1)/\jc (K_ x.1)) (λx=>(some ((K_ x.1).map iK,(show iU .int Int from x.2.1),tf (K_ x.1) (K_ x.1).length,(J_ x.2.2.1)),())):=by
 refine iV f118 54 [Q0] func118 λo x hd _ _ h=>?_;obtain⟨(pM:List (List Int)),(lv:iU .int Int),(ds:List Int),_⟩:=x;have oM:=oH h 0 pM;have oy:=lF h 2 ds;change kH pM/\jc pM at hd;have⟨uD,mu⟩:=hd;have abk:=mu.1;refine qG [] h ?_;refine Le (List (List Int)) (List (Int×Int)) pM (λi ts pl=>⟨[(7,ep 0),(20,eo 1),(21,en (pM.length:Int)),(22,en i)],[(0,some (.box 196 [.own 2,.mp 3,.mp 4,.own 5])),(1,some (.ar (.list .int) pM)),(2,some (.row 24 (.list .int) ts)),(3,some (.wE .int .int lv)),(4,some (.map .int .int pl)),(5,some (.ro .int ds))],6⟩) (λi ts pl=>ts=(pM.take i.toNat).map iK/\pl=tf pM i.toNat) [] [] [(0,some 28675),(1,some 0),(2,none),(3,some 1),(4,some 16387),(5,some 2)] (⟨rfl,rfl⟩) λi ts pl _ jZ h0 h1 hI=>?_;have⟨h2,h3⟩:=hI;refine iP ?_;refine iO (p:=i<(pM.length:Int)) (λq1=>?_) λq1=>?_
 .have hm:(pM.getD i.toNat [])∈pM:=iG (by omega);have TA:=mu.2 _ hm;have VE:=Lu mu i.toNat;have Pq:=kJ (pM.getD i.toNat []);have hts:ts.length=i.toNat:=by rw[h2,bp,aW];omega
  have hpc:=Es (tf pM i.toNat) (iK (pM.getD i.toNat []));refine iZ (pr:=(jg i pM.length)/\((pM.getD i.toNat []).length<=1000000)) ⟨bx,by omega⟩ ?_;refine kX (List (Int×Int)) (iK (pM.getD i.toNat [])) (λj pm=>⟨[(7,ep 0),(10,eo 1),(20,eo 2),(21,en (pM.length:Int)),(22,en i),(28,eo 1),(29,en ((iK (pM.getD i.toNat [])).length:Int)),(30,en j)],[(0,some (.box 196 [.own 3,.mp 4,.mp 5,.own 6])),(1,some (.ro .int (iK (pM.getD i.toNat [])))),(2,some (.ar (.list .int) pM)),(3,some (.row 24 (.list .int) ts)),(4,some (.wE .int .int lv)),(5,some (.map .int .int pm)),(6,some (.ro .int ds))],7⟩) (λj pm=>pm=Aj (tf pM i.toNat) (iK (pM.getD i.toNat [])) j.toNat) pl (rk [0,20486,1,2,3,4,5]) h3 λj pm _ qK j0 j1 j2=>?_;refine iP ?_;refine iO (p:=j<((iK (pM.getD i.toNat [])).length:Int)) (λq2=>?_) λq2=>?_
  .have hk:=uD _ hm _ (vO (iG (l:=iK (pM.getD i.toNat [])) (i:=j.toNat) (d:=0) (by omega)));have hpj:=hpc j.toNat;rw[<-j2] at hpj;refine iZ (pr:=(jg j (iK (pM.getD i.toNat [])).length)/\(mR .int ((iK (pM.getD i.toNat [])).getD j.toNat 0))/\(pm.length<=2147483647)/\(jh .i64 (j+1))) ⟨bx,wk,ln,jB⟩ ?_;exact k9 (qK (lD pm ((iK (pM.getD i.toNat [])).getD j.toNat 0) j) (ir 7) (by rw[Sd j0,<-j2]))
  have hj:j.toNat=(iK (pM.getD i.toNat [])).length:=by omega
  have hpm:=j2;rw[hj] at hpm;refine iZ (pr:=(ts.length+([iK (pM.getD i.toNat [])]:List (List Int)).length<=2147483647)/\(jh .i64 (i+1))) ⟨ln,jB⟩ ?_;exact k9 (jZ (ts++([iK (pM.getD i.toNat [])]:List (List Int))) pm (rk [0,2,32775,4,5,6]) ⟨by rw[Sf [] h0 q1,<-h2],by rw[Se h0];exact hpm⟩)
 have he:i.toNat=pM.length:=by omega
 rw[he] at h2 h3;rw[bU] at h2;refine iP ?_;exact iH (((some (ts,(lv,(pl,ds)))):Option ((List (List Int))×(iU .int Int)×(iU .int Int)×List Int)),()) (by rw[h2,h3];rfl)
def aeM:kI aq:=plain aeL
end Go.Proofs.YtnfdimfepbbbpaaGreatDoor
