/- Texts joined by program: lemmas. -/
import Derived.WalkKit
import Derived.WalkSpells
import Derived.WalkLawsBesides
import Derived.Lib.Hide
import Derived.Lib.OthersKept
import Derived.Deep.Quiet
import Derived.KernelRfl
import Derived.Test.YtnfdimfepbbbpaaGreatDoorRows
import Derived.ProofKit
import Derived.OrdersHeld
import Derived.Deep.Slices
import Derived.Carry
import Derived.Maps.Own
import Derived.Maps.OwnSet
import Derived.Maps.Views
import Derived.Lib.SlKeysI
import Derived.Maps.RangeWalk
import Derived.Laws.StructEq
import Derived.ChangeKeysEq
set_option linter.unusedSimpArgs false
set_option linter.unusedVariables false
set_option maxRecDepth 100000
set_option maxHeartbeats 8000000
open Array renaming ext'->ck,getD_eq_getD_getElem?->cq,getElem?_eq_getElem->aj1,getElem?_eq_some_iff->cJ,getElem?_setIfInBounds->aj3,getElem?_toList->akm,length_toList->cw,toList_map->aj2,toList_modify->alu
open Bool renaming and_eq_true->aR,eq_false_iff->anb,false_eq_true->akx,or_eq_false_iff->am1
open Classical renaming byContradiction->bL,choose->al0,choose_spec->akS
open Go renaming World->aa,Value->af,TypeId->ax,Program->ay,Operand->aM,Oper->aC,Addr->bC,IntKind->cZ,Ending->dc,FuncId->bA
open Go.Act renaming eval->dz,put->dA
open Go.Builtin renaming append_->ajP,len_->akw,max_->alh,min_->ali
open Go.ChangeMaps renaming setBlock->cN
open Go.DataW renaming Trod->al8,TrodAll->am6,held->aj4,insert->al9,trod_int->am7,trod_struct->al5
open Go.DataW.held renaming injEq->als
open Go.DataW.map renaming inj->aoe
open Go.Deferred renaming ofValue->alj
open Go.Instr renaming build->alg,buildSlice->am5,entry->akX,entryStore->anj,field->amX,loadAt->aku,lookup->dK,mapEntry->amc,mapUpdate->aj6,next->akZ,range->akY,slice->aky,sliceAt->cA,sliceBound->al4,sliceBounds->akz,storeAt->alp,sureAddr->akP
open Go.IntKind renaming bits->alY,i64->ann,max->akN,min->alo,signed->alX
open Go.Lib renaming iterAt_other->amS,iterAt_size->amR
open Go.Lit renaming int->akC,string->ana
open Go.Lit.string renaming inj->aod
open Go.MapEntry renaming born->aof
open Go.MapKept renaming run_getObj_map->aj8,run_setObj_map->akD
open Go.Maps renaming has->anf,size->dN
open Go.Op renaming eqFields->amf,equal->akt,intBits->anm,maxDepth->aka
open Go.Oper renaming quietUpon->de,upon_value->akk
open Go.Program renaming cellsOf->akO
open Go.Proofs.Tryz renaming prog->aq
open Go.Region renaming ready->akV,wanted->cL
open Go.Result renaming andThen->bO,andThen_ok->bV
open Go.Sem renaming run->cj,run_bind->aO,run_pure->bz
open Go.Utf8 renaming decode->aH
open Go.Value renaming bool->aj7,int->bY,okWide->al7,ownBlock->akj,pointer->cx,tuple->ajS
open Go.World renaming ownsRow_nil->ale
open List renaming Nodup->alU,all_eq_true->aU,append_assoc->bl,append_nil->aZ,cons_append->dh,drop_drop->akT,drop_of_length_le->akr,drop_zero->ajM,eq_nil_of_length_eq_zero->dy,filterMap_cons->amM,filter_map->anc,find?_cons->alr,find?_map->ane,find?_some->alk,getD_eq_getElem?_getD->aJ,getElem?_drop->b7,getElem?_eq_getElem->aY,getElem?_eq_some_iff->bW,getElem?_map->b9,getElem?_take->bK,getElem?_toArray->ajR,getElem_mem->cI,getElem_of_mem->ajY,getElem_set->alf,length_append->aN,length_drop->bu,length_filter_le->akW,length_map->bp,length_ofFn->al6,length_set->bR,length_take->aW,mapM_cons->amU,map_congr_left->ajQ,map_cons->bn,map_drop->alw,map_inj_left->al3,map_nil->cr,map_take->ak1,map_toArray->akB,mem_append->aK,mem_append_left->aQ,mem_append_right->bq,mem_cons->aD,mem_cons_of_mem->aI,mem_cons_self->aE,mem_filter->cU,mem_iff_getElem?->ajO,mem_map->aV,mem_of_find?_eq_some->amY,mem_of_getElem?->bJ,mem_of_mem_drop->dP,mem_of_mem_eraseIdx->am3,mem_of_mem_take->cQ,mem_singleton->av,pairwise_filterMap->amO,pairwise_iff_getElem->dJ,size_toArray->aj0,take_append_drop->dB,take_left->alW,take_length->bU,take_of_length_le->cM
open List.Perm renaming refl->anh,swap->am4
open List.cons renaming inj->akn
open Nat renaming add_assoc->dM,add_mul->bS,add_zero->akl,beq->aP,beq_refl->dD,ble->akb,blt->bw,blt_eq->bZ,eq_of_beq_eq_true->akF,le_refl->az,le_trans->bg,lt_irrefl->aks,lt_of_lt_of_le->bh,min_eq_left->dO,mul_le_mul_right->bI,sub_mul->alv,succ_mul->bT,zero_add->cG,zero_le->bF,zero_mul->cT
open Option renaming bind_eq_bind->amV,bind_eq_some_iff->akv,getD_some->cK,isSome_iff_exists->bG,map->ang,map_eq_none_iff->akQ,map_eq_some_iff->aX,map_none->dg,map_some->bX,not_isNone->ano,pure_def->amW
open Option.some renaming inj->bD,injEq->bM
open Prod.mk renaming inj->am2,injEq->cn
open Go.Proofs.Tryz
namespace Go.Proofs
theorem ak.{u}{c:Prop}{d:Decidable c}(h:c){α:Sort u}{t e:α}:ite c t e=t:=if_pos h
theorem ah.{u}{c:Prop}{d:Decidable c}(h:¬c){α:Sort u}{t e:α}:ite c t e=e:=if_neg h
theorem aA{p:Prop}[d:Decidable p](h:decide p=true):p:=of_decide_eq_true h
theorem aG{p:Prop}[d:Decidable p](h:decide p=false):¬p:=of_decide_eq_false h
theorem bB{p:Prop}[d:Decidable p](h:p):decide p=true:=decide_eq_true h
theorem bQ{p:Prop}[d:Decidable p](h:¬p):decide p=false:=decide_eq_false h
theorem aL.{u,v}{α:Sort u}{β:Sort v}{a b:α}(f:α->β)(h:a=b):f a=f b:=congrArg f h
abbrev dS:ByteArray×Int×Int×Int:=(⟨#[]⟩,(0,(0,0)))
abbrev dU:ByteArray:=⟨#[32]⟩
abbrev dV:ByteArray:=⟨#[118,101,114,116,101,120]⟩
abbrev dW:ByteArray:=⟨#[115,101,99,111,110,100]⟩
abbrev dX:ByteArray:=⟨#[102,105,114,115,116]⟩
abbrev dY:ByteArray:=⟨#[101,100,103,101]⟩
abbrev dZ:ByteArray:=⟨#[114,101,103,105,111,110]⟩
abbrev eu:ByteArray:=⟨#[10]⟩
abbrev aol:ByteArray:=⟨#[97,114,111,117,110,100,32]⟩
abbrev ez:ByteArray:=⟨#[104,111,108,100,32]⟩
abbrev aom:ByteArray:=⟨#[118,101,114,116,101,120,32]⟩
abbrev aon:ByteArray:=⟨#[97,114,111,117,110,100]⟩
abbrev eC:ByteArray:=⟨#[104,111,108,100]⟩
abbrev aoo:ByteArray:=⟨#[99,97,115,101,10,118,101,114,116,101,120,32,97,10]⟩
abbrev aop:ByteArray:=⟨#[99,97,115,101]⟩
abbrev aoq:ByteArray:=⟨#[43]⟩
abbrev aor:ByteArray:=⟨#[45]⟩
abbrev aos:ByteArray:=⟨#[112,97,105,114]⟩
abbrev aot:ByteArray:=⟨#[112,97,105,114,10]⟩
abbrev aou:ByteArray:=⟨#[99,97,115,101,10]⟩
end Go.Proofs
namespace Go.Proofs.YtnfdimfepbbbpaaGreatDoor
open Go.RowKit
abbrev iv (x : Int) : af := .int .i64 x
abbrev pv (b : Nat) : af := .pointer (some ⟨b, 0, none⟩)
abbrev TT : Prop := True
theorem tv : True := trivial
abbrev iD:=Nat->Prop
def kU (S:iD)(w w':aa):Prop:=∀k,S k->w'.heap[k]?=w.heap[k]?
theorem kU.refl (S:iD)(w:aa):kU S w w:=λ_ _=>rfl
theorem kU.trans {S:iD}{a b c:aa}(h:kU S a b)(k:kU S b c):kU S a c:=λi hi=>(k i hi).trans (h i hi)
theorem kU.mono {S S':iD}{a b:aa}(h:kU S a b)(hs:∀k,S' k->S k):kU S' a b:=λi hi=>h i (hs i hi)
theorem kU.below {B:Nat}{a b:aa}(h:Below B a b):kU (· <B) a b:=λi hi=>h.block i hi
class Data (α:Type) where
 size:Nat
 isAgg:Bool
 rd:iD->aa->List af->α->Prop
 len:∀ {S w cs a},rd S w cs a->cs.length=size
 up:∀ {S S':iD} {w cs a},(∀k,S k->S' k)->rd S w cs a->rd S' w cs a
 keep:∀ {S w w' cs a},kU S w w'->rd S w cs a->rd S w' cs a
 one:∀ {S w cs a},rd S w cs a->∀u∈cs,u.oneCell'=true
instance:Data Int where
 size:=1
 isAgg:=false
 rd _ _ cs n:=cs=[.int .i64 n]
 len h:=by rw[h];rfl
 up _ h:=h
 keep _ h:=h
 one h u hu:=by rw[h] at hu;simp at hu;subst hu;rfl
instance:Data Bool where
 size:=1
 isAgg:=false
 rd _ _ cs b:=cs=[.bool b]
 len h:=by rw[h];rfl
 up _ h:=h
 keep _ h:=h
 one h u hu:=by rw[h] at hu;simp at hu;subst hu;rfl
instance:Data ByteArray where
 size:=1
 isAgg:=false
 rd _ _ cs s:=cs=[.string s]
 len h:=by rw[h];rfl
 up _ h:=h
 keep _ h:=h
 one h u hu:=by rw[h] at hu;simp at hu;subst hu;rfl
instance {α β:Type} [Data α] [Data β]:Data (α×β) where
 size:=Data.size α+Data.size β
 isAgg:=true
 rd S w cs x:=∃c1 c2,cs=c1++c2/\Data.rd S w c1 x.1/\Data.rd S w c2 x.2
 len:=by rintro S w cs a ⟨c1,c2,rfl,h1,h2⟩;rw[aN,Data.len h1,Data.len h2]
 up:=by rintro S S' w cs a hs ⟨c1,c2,rfl,h1,h2⟩;exact⟨c1,c2,rfl,Data.up hs h1,Data.up hs h2⟩
 keep:=by rintro S w w' cs a hk ⟨c1,c2,rfl,h1,h2⟩;exact⟨c1,c2,rfl,Data.keep hk h1,Data.keep hk h2⟩
 one:=by
  rintro S w cs a ⟨c1,c2,rfl,h1,h2⟩ u hu;rcases aK.1 hu with hu|hu
  .exact Data.one h1 u hu
  exact Data.one h2 u hu
def vt {α:Type}[Data α](S:iD)(w:aa)(cur:Array af)(off:Nat)(l:List α):Prop:=
 ∀i (h:i<l.length),∃cs,Data.rd S w cs l[i]/\∀j,j<Data.size α->cur[off+i*Data.size α+j]?=cs[j]?
def qY {α:Type}[Data α](S:iD)(w:aa)(v:af)(l:List α):Prop:=
 ∃p c,v= .slice p l.length c/\l.length<=c/\c<=maxLen/\
  (l=[]\/∃g off cur t fz,p=some ⟨g,off,none⟩/\S g/\w.heap[g]?=some (.cells cur t fz)/\vt S w cur off l)
theorem vt.up {α:Type}[Data α]{S S':iD}{w:aa}{cur:Array af}{off:Nat}{l:List α}(hs:∀k,S k->S' k)(h:vt S w cur off l):vt S' w cur off l:=
 λi hi=>let⟨cs,h1,h2⟩:=h i hi;⟨cs,Data.up hs h1,h2⟩
theorem vt.keep {α:Type}[Data α]{S:iD}{w w':aa}{cur:Array af}{off:Nat}{l:List α}(hk:kU S w w')(h:vt S w cur off l):vt S w' cur off l:=
 λi hi=>let⟨cs,h1,h2⟩:=h i hi;⟨cs,Data.keep hk h1,h2⟩
instance {α:Type} [Data α]:Data (List α) where
 size:=1
 isAgg:=false
 rd S w cs l:=∃v,cs=[v]/\qY S w v l
 len:=by rintro S w cs l ⟨v,rfl,_⟩;rfl
 up:=by
  rintro S S' w cs l hs ⟨v,rfl,p,c,rfl,h1,h2,h3⟩;refine⟨_,rfl,p,c,rfl,h1,h2,?_⟩;rcases h3 with h3|⟨g,off,cur,t,fz,rfl,hg,hw,hc⟩
  .exact .inl h3
  exact .inr ⟨g,off,cur,t,fz,rfl,hs _ hg,hw,hc.up hs⟩
 keep:=by
  rintro S w w' cs l hk ⟨v,rfl,p,c,rfl,h1,h2,h3⟩;refine⟨_,rfl,p,c,rfl,h1,h2,?_⟩;rcases h3 with h3|⟨g,off,cur,t,fz,rfl,hg,hw,hc⟩
  .exact .inl h3
  exact .inr ⟨g,off,cur,t,fz,rfl,hg,(hk g hg).trans hw,hc.keep hk⟩
 one:=by
  rintro S w cs l ⟨v,rfl,p,c,rfl,_⟩ u hu;simp at hu;subst hu;rfl
def Rd {α:Type}[Data α](S:iD)(w:aa)(v:af)(a:α):Prop:=∃cs,Data.rd S w cs a/\v=if Data.isAgg α then .agg cs.toArray else cs.headD undef
theorem Rd.up {α:Type}[Data α]{S S':iD}{w:aa}{v:af}{a:α}(hs:∀k,S k->S' k)(h:Rd S w v a):Rd S' w v a:=let⟨cs,h1,h2⟩:=h;⟨cs,Data.up hs h1,h2⟩
theorem Rd.keep {α:Type}[Data α]{S:iD}{w w':aa}{v:af}{a:α}(hk:kU S w w')(h:Rd S w v a):Rd S w' v a:=let⟨cs,h1,h2⟩:=h;⟨cs,Data.keep hk h1,h2⟩
theorem jV {α:Type}[Data α]{S:iD}{w:aa}{v:af}{l:List α}(h:Rd S w v l):qY S w v l:=by
 obtain⟨cs,⟨v',rfl,hs⟩,rfl⟩:=h;exact hs
theorem qc {α:Type}[Data α]{S:iD}{w:aa}{v:af}{l:List α}(h:qY S w v l):Rd S w v l:=⟨[v],⟨v,rfl,h⟩,rfl⟩
theorem oN {α:Type}[Data α]{S:iD}{w:aa}{v:af}{l:List α}(h:qY S w v l):∃p c,v= .slice p l.length c/\l.length<=c/\c<=maxLen:=
 let⟨p,c,h1,h2,h3,_⟩:=h;⟨p,c,h1,h2,h3⟩
theorem TE {α:Type}[Data α]{S:iD}{w:aa}{v:af}{l:List α}(h:qY S w v l)(i:Nat)(hi:i<l.length):
  ∃g off c cs,v= .slice (some ⟨g,off,none⟩) l.length c/\Data.rd S w cs l[i]/\∀j,j<Data.size α->w.cell? ⟨g,off+i*Data.size α+j,none⟩=cs[j]?:=by
 obtain⟨p,c,rfl,h1,h2,h3⟩:=h;rcases h3 with rfl|⟨g,off,cur,t,fz,rfl,hg,hw,hc⟩
 .simp at hi
 obtain⟨cs,hr,hj⟩:=hc i hi;exact⟨g,off,c,cs,rfl,hr,λj JZ=>by rw[cell_of_row w g _ cur t fz hw];exact hj j JZ⟩
def jW {α:Type}[Data α](S:iD)(w:aa)(xs:List af)(l:List α):Prop:=
 xs.length=l.length*Data.size α/\∀i (h:i<l.length),Data.rd S w ((xs.drop (i*Data.size α)).take (Data.size α)) l[i]
theorem jW.nil {α:Type}[Data α](S:iD)(w:aa):jW S w [] ([]:List α):=⟨by simp,λi h=>by simp at h⟩
theorem jW.up {α:Type}[Data α]{S S':iD}{w:aa}{xs:List af}{l:List α}(hs:∀k,S k->S' k)(h:jW S w xs l):jW S' w xs l:=
 ⟨h.1,λi hi=>Data.up hs (h.2 i hi)⟩
theorem jW.keep {α:Type}[Data α]{S:iD}{w w':aa}{xs:List af}{l:List α}(hk:kU S w w')(h:jW S w xs l):jW S w' xs l:=
 ⟨h.1,λi hi=>Data.keep hk (h.2 i hi)⟩
theorem jW.append {α:Type}[Data α]{S:iD}{w:aa}{xs ys:List af}{l m:List α}(h:jW S w xs l)(k:jW S w ys m):jW S w (xs++ys) (l++m):=by
 refine⟨by rw[aN,aN,h.1,k.1,bS],λi hi=>?_⟩
 by_cases hl:i<l.length
 .rw[List.getElem_append_left hl];have h1:i*Data.size α+Data.size α<=xs.length:=by rw[h.1,<-bT];exact bI _ hl
  rw[List.drop_append_of_le_length (by omega),List.take_append_of_le_length (by rw[bu];omega)];exact h.2 i hl
 rw[aN] at hi;rw[List.getElem_append_right (by omega)];have e:i*Data.size α=xs.length+(i-l.length)*Data.size α:=by rw[h.1,<-bS];congr 1;omega
 rw[e,List.drop_append];rw[akr (by omega),List.nil_append];rw[show xs.length+(i-l.length)*Data.size α-xs.length=(i-l.length)*Data.size α by omega];exact k.2 (i-l.length) (by omega)
theorem jW.single {α:Type}[Data α]{S:iD}{w:aa}{cs:List af}{a:α}(h:Data.rd S w cs a):jW S w cs [a]:=by
 refine⟨by rw[Data.len h];simp,λi hi=>?_⟩;have:i=0:=by simp at hi;exact hi
 subst this;have e:(cs.drop (0*Data.size α)).take (Data.size α)=cs:=by rw[cT,ajM,<-Data.len h];exact bU
 rw[e];exact h
theorem jW.one {α:Type}[Data α]{S:iD}{w:aa}{xs:List af}{l:List α}(h:jW S w xs l):∀u∈xs,u.oneCell'=true:=by
 intro u hu
 by_cases hz:Data.size α=0
 .have:xs=[]:=dy (by rw[h.1,hz];simp);subst this;simp at hu
 obtain⟨j,hj,rfl⟩:=ajY hu;have TF:0<Data.size α:=by omega
 have hi:j/Data.size α<l.length:=by rw[Nat.div_lt_iff_lt_mul TF,<-h.1];exact hj
 refine Data.one (h.2 _ hi) _ ?_;have hm:=Nat.mod_lt j TF;have hd:=Nat.div_add_mod j (Data.size α);rw[Nat.mul_comm] at hd;refine ajO.2 ⟨j%Data.size α,?_⟩;rw[bK,ak hm,b7,hd,aY hj]
def Own {α:Type}[Data α](S:iD)(w:aa)(e:ax)(v:af)(l:List α):Prop:=
 ∃xs,w.ownsRow 0 e (Data.size α) v l.length xs/\jW S w xs l
inductive o5:Type 1 where
 |iter (b:Nat) (s:ByteArray) (pos:Nat)
 |row {α:Type} [Data α] (e:ax) (v:af) (l:List α)
 |box (b:Nat) (t:ax) (vs:List af)
 |ro {α:Type} [Data α] (v:af) (a:α)
 |obj {α:Type} [Data α] (b:Nat) (I:Obj->Prop) (Ic:List (af×α))
def o5.block:o5->Option Nat
 | .iter b _ _=>some b
 | @o5.row _ _ _ v _=>v.ownBlock
 | .box b _ _=>some b
 | @o5.ro _ _ _ _=>none
 | @o5.obj _ _ b _ _=>some b
def o5.ok (S:iD)(w:aa):o5->Prop
 | .iter b s pos=>w.heap[b]?=some (.stringIter s pos)
 | @o5.row _ _ e v l=>Own S w e v l
 | .box b t vs=>w.heap[b]?=some (.cells vs.toArray t (0,0))
 | @o5.ro _ _ v a=>Rd S w v a
 | @o5.obj _ _ b I Ic=>(∃x,w.heap[b]?=some x/\I x)/\∀q∈Ic,Rd S w q.1 q.2
structure Orig where
 w:aa
 S:iD
 ok:∀k,S k->k<w.heap.size
abbrev rU (w:aa):Orig:=⟨w,λ_=>False,λ_ h=>h.elim⟩
abbrev wg (o:Orig)(w':aa):iD:=λk=>o.S k\/(o.w.heap.size<=k/\k<w'.heap.size)
structure Fr (w0:Orig)(w:aa)(S:iD)(rs:List o5):Prop where
 below:Below w0.w.heap.size w0.w w
 src:∀k,S k->w0.S k\/w0.w.heap.size<=k
 nN:∀k,S k->k<w.heap.size
 ok:∀r∈rs,r.ok S w
 own:∀r∈rs,∀b,r.block=some b->w0.w.heap.size<=b/\b<w.heap.size/\¬S b
 nodup:(rs.filterMap o5.block).Nodup
theorem Fr.start (o:Orig):Fr o o.w o.S []:=
 ⟨Below.refl _ _,λ_ h=>.inl h,o.ok,λ_ h=>by simp at h,λ_ h=>by simp at h,by simp⟩
abbrev Fr.at {w0:Orig}{w:aa}{S:iD}{rs:List o5}(h:Fr w0 w S rs):Orig:=⟨w,S,h.nN⟩
theorem o5.Ie {S:iD}{w w':aa}{r:o5}(h:r.ok S w)(hk:kU S w w')(hb:∀b,r.block=some b->w'.heap[b]?=w.heap[b]?):r.ok S w':=by
 cases r with
 |iter b s pos=>exact(hb b rfl).trans h
 |row e v l=>
  have⟨xs,⟨h1,h2⟩,h3⟩:=h;refine⟨xs,⟨h1,?_⟩,h3.keep hk⟩;rcases h2 with h2|⟨g,cap,cur,rfl,hg,hh,rest⟩
  .exact .inl h2
  exact .inr ⟨g,cap,cur,rfl,hg,(hb g rfl).trans hh,rest⟩
 |box b t vs=>exact(hb b rfl).trans h
 |ro v a=>exact Rd.keep hk h
 |obj b I Ic=>exact⟨let⟨x,h1,h2⟩:=h.1;⟨x,(hb b rfl).trans h1,h2⟩,λq hq=>(h.2 q hq).keep hk⟩
theorem o5.ab6 {S S':iD}{w:aa}{r:o5}(h:r.ok S w)(hs:∀k,S k->S' k):r.ok S' w:=by
 cases r with
 |iter b s pos=>exact h
 |row e v l=>have⟨xs,h1,h2⟩:=h;exact⟨xs,h1,h2.up hs⟩
 |box b t vs=>exact h
 |ro v a=>exact Rd.up hs h
 |obj b I Ic=>exact⟨h.1,λq hq=>(h.2 q hq).up hs⟩
theorem Fr.on {w0:Orig}{w w':aa}{S:iD}{rs:List o5}(h:Fr w0 w S rs)(hb:Below w.heap.size w w'):Fr w0 w' S rs where
 below:=h.below.trans (hb.mono h.below.size)
 src:=h.src
 nN k hk:=bh (h.nN k hk) hb.size
 ok r hr:=o5.Ie (h.ok r hr) (λk hk=>hb.block k (h.nN k hk)) (λb qd=>hb.block b (h.own r hr b qd).2.1)
 own r hr b qd:=let⟨a,c,d⟩:=h.own r hr b qd;⟨a,bh c hb.size,d⟩
 nodup:=h.nodup
theorem Fr.call {w0:Orig}{w w':aa}{S:iD}{rs:List o5}(h:Fr w0 w S rs)(hb:Below w.heap.size w w'):Fr w0 w' (λk=>S k\/(w.heap.size<=k/\k<w'.heap.size)) rs where
 below:=(h.on hb).below
 src k hk:=by
  rcases hk with hk|hk
  .exact h.src k hk
  exact .inr (bg h.below.size hk.1)
 nN k hk:=by
  rcases hk with hk|hk
  .exact(h.on hb).nN k hk
  exact hk.2
 ok r hr:=o5.ab6 ((h.on hb).ok r hr) λ_=>.inl
 own r hr b qd:=by
  obtain⟨a,c,d⟩:=h.own r hr b qd;exact⟨a,bh c hb.size,λe=>e.elim d (λe=>by omega)⟩
 nodup:=h.nodup
theorem Fr.ro {α:Type}[Data α]{w0:Orig}{w:aa}{S:iD}{rs:List o5}(h:Fr w0 w S rs){v:af}{a:α}(hr:Rd S w v a):Fr w0 w S (.ro v a::rs) where
 below:=h.below
 src:=h.src
 nN:=h.nN
 ok r Fp:=by
  rcases aD.1 Fp with rfl|Fp
  .exact hr
  exact h.ok r Fp
 own r Fp b hb:=by
  rcases aD.1 Fp with rfl|Fp
  .cases hb
  exact h.own r Fp b hb
 nodup:=by rw[amM];exact h.nodup
theorem Fr.put {w0:Orig}{w:aa}{S:iD}{rs:List o5}(h:Fr w0 w S rs)(r:o5)(hr:r.ok S w)
  (hb:∀b,r.block=some b->w0.w.heap.size<=b/\b<w.heap.size/\¬S b/\∀r'∈rs,r'.block≠some b):Fr w0 w S (r::rs) where
 below:=h.below
 src:=h.src
 nN:=h.nN
 ok r' Fp:=by
  rcases aD.1 Fp with rfl|Fp
  .exact hr
  exact h.ok r' Fp
 own r' Fp b qd:=by
  rcases aD.1 Fp with rfl|Fp
  .obtain⟨x,y,z,_⟩:=hb b qd;exact⟨x,y,z⟩
  exact h.own r' Fp b qd
 nodup:=by
  rw[amM];split
  .exact h.nodup
  rename_i b qd;refine List.nodup_cons.2 ⟨λhm=>?_,h.nodup⟩;obtain⟨r',Fp,e⟩:=List.mem_filterMap.1 hm;exact(hb b qd).2.2.2 r' Fp e
theorem Fr.fresh {w0:Orig}{w:aa}{S:iD}{rs:List o5}(h:Fr w0 w S rs):w0.w.heap.size<=w.heap.size/\¬S w.heap.size/\∀r∈rs,r.block≠some w.heap.size:=
 ⟨h.below.size,λhs=>aks _ (h.nN _ hs),λr hr e=>aks _ (h.own r hr _ e).2.1⟩
theorem oO (w:aa)(o:Obj):Below w.heap.size w (w.alloc o):=(Below.refl _ _).alloc (az _) _
theorem Fr.alloc {w0:Orig}{w:aa}{S:iD}{rs:List o5}(h:Fr w0 w S rs)(o:Obj):Fr w0 (w.alloc o) S rs:=h.on (oO w o)
theorem Fr.acV {w0:Orig}{w:aa}{S:iD}{rs:List o5}(h:Fr w0 w S rs)(vs:List af)(t:ax):Fr w0 (w.alloc (.cells vs.toArray t)) S (.box w.heap.size t vs::rs):=
 (h.alloc _).put _ (heap_alloc_new w _) (λb hb=>by
  cases hb;have hf:=h.fresh;exact⟨hf.1,by simp,hf.2.1,hf.2.2⟩)
theorem Fr.Y2 {w0:Orig}{w:aa}{S:iD}{rs:List o5}(h:Fr w0 w S rs)(s:ByteArray):Fr w0 (w.iter s 0) S (.iter w.heap.size s 0::rs):=
 (h.alloc _).put _ (heap_alloc_new w _) (λb hb=>by
  cases hb;have hf:=h.fresh;exact⟨hf.1,by simp,hf.2.1,hf.2.2⟩)
theorem Fr.newRow {α:Type}[Data α]{w0:Orig}{w:aa}{S:iD}{rs:List o5}(h:Fr w0 w S rs)(e:ax):Fr w0 w S (.row e (.slice none 0 0) ([]:List α)::rs):=
 h.put _ ⟨[],ale _ _ _ _,jW.nil _ _⟩ (λb hb=>by cases hb)
theorem Fr.set {w0:Orig}{w w':aa}{S:iD}{rs:List o5}(h:Fr w0 w S rs)(i:Nat){r:o5}(hi:rs[i]?=some r)(r':o5)(o6:r'.ok S w')
  (hg:w.grownBy w' r.block) (hb:∀b,r'.block=some b->r.block=some b\/(w.heap.size<=b/\b<w'.heap.size)):Fr w0 w' S (rs.set i r'):=by
 have hS:∀k,S k->some k≠r.block:=λk hk e=>(h.own r (bJ hi) k e.symm).2.2 hk;have wh:kU S w w':=λk hk=>hg.block k (h.nN k hk) (hS k hk);have hil:i<rs.length:=(bW.1 hi).1;have O3:rs[i]=r:=(bW.1 hi).2;have acW:∀j (hj:j<rs.length),j≠i->∀b,rs[j].block=some b->some b≠r.block:=by
  intro j hj mc b qd e;have hn:=h.nodup;rw[alU,amO] at hn;rw[dJ] at hn;rcases Nat.lt_or_gt_of_ne mc with oB|hgt
  .exact hn j i hj hil oB b qd b (by rw[O3];exact e.symm) rfl
  exact hn i j hil hj hgt b (by rw[O3];exact e.symm) b qd rfl
 have hO:∀k,k<w0.w.heap.size->some k≠r.block:=λk hk e=>by have:=(h.own r (bJ hi) k e.symm).1;omega
 refine⟨?_,h.src,λk hk=>bh (h.nN k hk) hg.size,?_,?_,?_⟩
 .refine h.below.trans ⟨hg.os,hg.tape,hg.output,hg.size,λk hk=>?_⟩;exact hg.block k (bh hk h.below.size) (hO k hk)
 .intro x hx;obtain⟨j,hj,rfl⟩:=ajY hx;rw[bR] at hj;rw[alf];split
  .exact o6
  rename_i mc;refine o5.Ie (h.ok _ (cI hj)) wh λb qd=>?_;exact hg.block b (h.own _ (cI hj) b qd).2.1 (acW j hj (λe=>mc e.symm) b qd)
 .intro x hx b qd;obtain⟨j,hj,rfl⟩:=ajY hx;rw[bR] at hj;rw[alf] at qd;split at qd
  .rcases hb b qd with e|⟨e1,e2⟩
   .obtain⟨a,c,d⟩:=h.own r (bJ hi) b e;exact⟨a,bh c hg.size,d⟩
   exact⟨bg h.below.size e1,e2,λhs=>by have:=h.nN b hs;omega⟩
  obtain⟨a,c,d⟩:=h.own _ (cI hj) b qd;exact⟨a,bh c hg.size,d⟩
 have hn:=h.nodup;rw[alU,amO,dJ] at hn ⊢;intro j k hj hk hjk;rw[bR] at hj hk;rw[alf,alf];intro b F6 b' Fq e;subst e;split at F6
 .rename_i e1;rw[ah (by omega)] at Fq;rcases hb b F6 with e|⟨e2,e3⟩
  .exact acW k hk (by omega) b Fq e.symm
  have:=(h.own _ (cI hk) b Fq).2.1;omega
 split at Fq
 .rcases hb b Fq with e|⟨e2,e3⟩
  .exact acW j hj (by omega) b F6 e.symm
  have:=(h.own _ (cI hj) b F6).2.1;omega
 exact hn j k hj hk hjk b F6 b Fq rfl
structure Dh (P:ay)(t e:ax)(size bytes:Nat):Prop where
 under:P.underlying t=some (.slice e)
 info:∃i z,P.info? e=some i/\i.zero=some z/\i.size=size/\i.bytes=bytes/\z.cells.size=size
 pos:0<size
theorem O4 {P:ay}{t e:ax}{z:af}{size bytes:Nat}(hu:P.underlying t=some (.slice e))(h:(P.info? e).map (λi=>(i.zero,i.size,i.bytes))=some (some z,size,bytes))(hz:z.cells.size=size)(hp:0<size):Dh P t e size bytes:=by
 obtain⟨i,h1,h2,h3,h4⟩:=info_parts h;exact⟨hu,⟨i,z,h1,h2,h3,h4,hz⟩,hp⟩
theorem TG {P:ay}{t ty e:ax}{size bytes:Nat}(E:Dh P t e size bytes)(w:aa)(v:af)(n:Nat)(xs:List af)(kY:w.ownsRow 0 e size v n xs)
  (a:bC) (m c:Nat) (news:List af) (hl:news.length=m*size) (Ka:∀j u,news[j]?=some u->w.cell? (a.add j)=some u) (h1:∀u∈news,u.oneCell'=true)
  (Tj:n+m<=maxLen) (yT:(n+m)*bytes<=140737488355328):
  ∃v' w',(ajP #[t,t] ty #[v,.slice (some a) m c]).run P w= .ok v' w'/\w'.ownsRow 0 e size v' (n+m) (xs++news)/\w.grownBy w' v.ownBlock/\
   (∀b,v'.ownBlock=some b->v.ownBlock=some b\/(w.heap.size<=b/\b<w'.heap.size)):=by
 have⟨i,z,hi,hz,ru,CE,Tk⟩:=E.info
 by_cases uG:v= .slice none 0 0\/¬(∃g cap,v= .slice (some ⟨g,0,none⟩) n cap/\n+m<=cap)
 ·
  have sN:∃base,base=w.heap.size/\True:=⟨_,rfl,tv⟩;rcases kY.2 with⟨rfl,rfl⟩|⟨g,cap,cur,rfl,hbg,hg,M7,wM,kF,qg⟩
  .have hx:xs=[]:=dy (by simpa using kY.1);subst hx;obtain⟨v',w',hr,h2,h3,h4⟩:=run_append_own (P:=P) w w.heap.size t ty e i z size bytes E.under hi hz ru CE Tk E.pos (.slice none 0 0) 0 [] (ale _ _ _ _) a m c news hl Ka h1 Tj yT (az _);refine⟨v',w',hr,⟨h2.1,?_⟩,h3,λb hb=>.inr (h2.lt b hb)⟩;rcases h2.2 with h|⟨g,cap,cur,e1,e2,e3⟩
   .exact .inl h
   exact .inr ⟨g,cap,cur,e1,bF _,e3⟩
  have zG:¬n+m<=cap:=by
   rcases uG with h|h
   .cases h
   intro hh;exact h ⟨g,cap,rfl,hh⟩
  have holds:∀j u,xs[j]?=some u->w.cell? ((⟨g,0,none⟩:bC).add j)=some u:=kY.cells (g:=g) rfl;have ahR:n+m<=9223372036854775807:=by simp only[maxLen] at Tj;omega
  have hr:=run_append_grow (P:=P) w t ty e i z E.under hi hz ⟨g,0,none⟩ n cap xs (by rw[ru];exact kY.1) holds a m c news (by rw[ru];exact hl) Ka (by omega) (by omega) (by rw[CE];exact growslice_fits (by omega) yT);have Ig:=grownCap_ge w (n+m) cap e;have ahS:grownCap w (n+m) cap e<=maxLen:=grownCap_le_maxLen w (n+m) cap e Tj;refine⟨_,_,hr,⟨by rw[aN,kY.1,hl,bS],.inr ⟨w.heap.size,_,_,rfl,bF _,heap_alloc_new w.drew _,Ig,ahS,?_,?_⟩⟩,⟨rfl,rfl,rfl,by simp,λk hk _=>heap_alloc_old w.drew _ hk⟩,?_⟩
  .simp only[Array.size_append,aj0,size_zeroCells,Tk,kY.1,hl,<-bS]
   congr 1
   omega
  .simp only[Array.toList_append,bl];rw[<-bl,bS,<-kY.1,<-hl,<-aN];exact alW
  intro b hb;simp[akj] at hb;subst hb;exact .inr ⟨az _,by simp⟩
 have hv:∃g cap,v= .slice (some ⟨g,0,none⟩) n cap/\n+m<=cap:=bL λh=>uG (.inr h);obtain⟨g,cap,rfl,zG⟩:=hv;rcases kY.2 with⟨h,_⟩|⟨g',ahT,cur,TH,hbg,hg,M7,wM,kF,qg⟩
 .cases h
 cases TH;have TI:n*i.size+news.length<=cur.size:=by rw[hl,kF,ru,<-bS];exact bI _ zG
 have hr:=run_append_room (P:=P) w t ty e i E.under hi g n cap cur hg a m c news (by rw[ru];exact hl) Ka h1 zG TI;refine⟨_,_,hr,⟨by rw[aN,kY.1,hl,bS],.inr ⟨g,cap,_,rfl,bF _,setRow_heap w g cur _ e _ hg,zG,wM,?_,?_⟩⟩,⟨rfl,rfl,rfl,by simp,λk _ hk=>setRow_other w g k _ (λe=>hk (by simp[akj,e]))⟩,λb hb=>.inl hb⟩
 .simp only[aj0,aN,aW,bu,cw];omega
 rw[ru,qg,bS,<-kY.1,<-hl,<-aN];exact alW
theorem Fr.push {P:ay}{t ty e:ax}{α:Type}[Data α]{bytes:Nat}(E:Dh P t e (Data.size α) bytes){w0:Orig}{w:aa}{S:iD}{rs:List o5}(h:Fr w0 w S rs)(i:Nat){v:af}{l:List α}(hi:rs[i]?=some (.row e v l))
  (a:bC) (c:Nat) (m:List α) (news:List af) (nO:jW S w news m) (Ka:∀j u,news[j]?=some u->w.cell? (a.add j)=some u)
  (Tj:l.length+m.length<=maxLen) (yT:(l.length+m.length)*bytes<=140737488355328):
  ∃v' w',(ajP #[t,t] ty #[v,.slice (some a) m.length c]).run P w= .ok v' w'/\Fr w0 w' S (rs.set i (.row e v' (l++m)))/\w.grownBy w' v.ownBlock:=by
 obtain⟨xs,h1,h2⟩:=h.ok _ (bJ hi);obtain⟨v',w',hr,k1,k2,k3⟩:=TG E w v l.length xs h1 a m.length c news nO.1 Ka nO.one Tj yT;have hS:kU S w w':=λk hk=>k2.block k (h.nN k hk) (λe=>(h.own _ (bJ hi) k e.symm).2.2 hk);refine⟨v',w',hr,h.set i hi _ ⟨xs++news,by rw[aN];exact k1,(h2.keep hS).append (nO.keep hS)⟩ k2 k3,k2⟩
theorem Fr.next {w0:Orig}{w:aa}{S:iD}{rs:List o5}(h:Fr w0 w S rs)(i:Nat){b:Nat}{s:ByteArray}{pos:Nat}(hi:rs[i]?=some (.iter b s pos))(pos':Nat):Fr w0 (w.iterAt b s pos') S (rs.set i (.iter b s pos')):=by
 have o6:=h.ok _ (bJ hi);refine h.set i hi _ (Lib.iterAt_heap w b s pos pos' o6) ⟨rfl,rfl,rfl,by rw[amR];exact az _,λk hk mc=>amS w b k s pos' (λe=>mc (by rw[e];rfl))⟩ (λb' qd=>.inl qd)
theorem Fr.O5 {w0:Orig}{w:aa}{S:iD}{rs:List o5}(h:Fr w0 w S rs)(i:Nat){b:Nat}{s:ByteArray}{pos:Nat}(hi:rs[i]?=some (.iter b s pos)):w.heap[b]?=some (.stringIter s pos):=
 h.ok _ (bJ hi)
theorem Fr.out {α:Type}[Data α]{w0:Orig}{w:aa}{S:iD}{rs:List o5}(h:Fr w0 w S rs)(i:Nat){e:ax}{v:af}{l:List α}(hi:rs[i]?=some (.row e v l)):Rd (· <w.heap.size) w v l:=by
 obtain⟨xs,h1,h2⟩:=h.ok _ (bJ hi);refine qc ?_;rcases h1.2 with⟨rfl,hn⟩|⟨g,cap,cur,rfl,_,hg,M7,wM,kF,qg⟩
 .have:l=[]:=dy hn;subst this;exact⟨none,0,rfl,by simp,by simp[maxLen],.inl rfl⟩
 refine⟨_,cap,rfl,M7,wM,.inr ⟨g,0,cur,e,(0,0),rfl,(cJ.1 hg).1,hg,λj hj=>?_⟩⟩;refine⟨_,Data.up h.nN (h2.2 j hj),λq hq=>?_⟩;rw[bK,ak hq,b7,<-qg,bK,ak ?_]
 .simp
 have:=bI (Data.size α) (show j+1<=l.length from hj);rw[bT] at this;omega
theorem Fr.Y3 {α:Type}[Data α]{w0:Orig}{w:aa}{S:iD}{rs:List o5}(h:Fr w0 w S rs)(i:Nat){e:ax}{v:af}{l:List α}(hi:rs[i]?=some (.row e v l)):Rd (wg w0 w) w v l:=by
 obtain⟨xs,h1,h2⟩:=h.ok _ (bJ hi);have hS:∀k,S k->wg w0 w k:=λk hk=>(h.src k hk).elim .inl λq=>.inr ⟨q,h.nN k hk⟩;refine qc ?_;rcases h1.2 with⟨rfl,hn⟩|⟨g,cap,cur,rfl,_,hg,M7,wM,kF,qg⟩
 .have:l=[]:=dy hn;subst this;exact⟨none,0,rfl,by simp,by simp[maxLen],.inl rfl⟩
 obtain⟨MT,hg2,_⟩:=h.own _ (bJ hi) g rfl;refine⟨_,cap,rfl,M7,wM,.inr ⟨g,0,cur,e,(0,0),rfl,.inr ⟨MT,hg2⟩,hg,λj hj=>?_⟩⟩;refine⟨_,Data.up hS (h2.2 j hj),λq hq=>?_⟩;rw[bK,ak hq,b7,<-qg,bK,ak ?_]
 .simp
 have:=bI (Data.size α) (show j+1<=l.length from hj);rw[bT] at this;omega
theorem Fr.since {w0:Orig}{w:aa}{S:iD}{rs:List o5}(h:Fr w0 w S rs):∀k,S k->wg w0 w k:=λk hk=>(h.src k hk).elim .inl λq=>.inr ⟨q,h.nN k hk⟩
theorem Rd.all {α:Type}[Data α]{w0:Orig}{w:aa}{S:iD}{rs:List o5}(h:Fr w0 w S rs){v:af}{a:α}(hr:Rd S w v a):Rd (· <w.heap.size) w v a:=hr.up h.nN
def jh:cZ->Int->Prop
 | .i64,n=> -9223372036854775808<=n/\n<=9223372036854775807
 | .i32,n=> -2147483648<=n/\n<=2147483647
 | .u8,n=>0<=n/\n<=255
 | .u32,n=>0<=n/\n<=4294967295
 | .u64,n=>0<=n/\n<=18446744073709551615
 |_,_=>False
theorem jh.wrap {k:cZ}{n:Int}(h:jh k n):k.wrap n=n:=by
 cases k<;>simp only[jh] at h<;>first|exact h.elim|skip
 all_goals simp only[IntKind.wrap,alX,alY]
 all_goals simp
 all_goals first|omega|(split<;>omega)
def Fs:af->Nat
 | .slice (some a) _ _=>a.block
 | .pointer (some a)=>a.block
 |_=>0
def Ft:af->Nat
 | .slice (some a) _ _=>a.off
 | .pointer (some a)=>a.off
 |_=>0
def yF (v:af)(n:Int):Prop:=∃p m c,v= .slice p m c/\n=(m:Int)
def yG (v:af)(i:Int):Prop:=∃b o n c,v= .slice (some ⟨b,o,none⟩) n c/\0<=i/\i<n
def qh (C:aa->Prop)(b o:Nat)(u:af):Prop:=∀w,C w->w.cell? ⟨b,o,none⟩=some u
def Kb (C:aa->Prop)(b o n:Nat)(us:Array af):Prop:=us.size=n/\∀w,C w->∀j,j<n->w.cell? ⟨b,o+j,none⟩=us[j]?
def oC (P:ay) (f:bA):Prop:=∃fn,P.funcs[f]?=some fn/\(fn.name== "runtime.NumGoroutine")=false/\fn.body.isNone=false
def vu (P:ay)(C:aa->Prop)(f:bA)(args:Array af)(v:af):Prop:=∀w,C w->Calls P f args w (λe w'=>e= .returned v/\C w')
def jk (s:ByteArray)(i:Int):Int:=((s.data.getD i.toNat 0).toNat:Int)
def afC (P:ay)(t:ax)(x y:af)(r:Bool):Prop:=∀w,(akt t x y).run P w= .ok r w
def oV (P:ay)(op:BinOp)(t:ax)(x y:af)(mF:Option af):Option (af×Prop):=
 match x,y with
 | .int k a,.int k' b=>
  match op,mF with
  | .shr,some (.int _ u)=>some (.int k u,0<=b/\a.fdiv (2 ^ (min b.toNat k.bits))=u)
  |_,_=>if k=k' then
   match op with
   | .add=>some (.int k (a+b),jh k (a+b))
   | .sub=>some (.int k (a-b),jh k (a-b))
   | .mul=>some (.int k (a*b),jh k (a*b))
   | .quo=>some (.int k (a/b),0<=a/\0<b/\jh k a)
   | .rem=>some (.int k (a%b),0<=a/\0<b)
   | .eql=>some (.bool (decide (a=b)),True)
   | .neq=>some (.bool (!decide (a=b)),True)
   | .lss=>some (.bool (decide (a<b)),True)
   | .leq=>some (.bool (decide (a<=b)),True)
   | .gtr=>some (.bool (decide (b<a)),True)
   | .geq=>some (.bool (decide (b<=a)),True)
   |_=>none
  else none
 | .string a,.string b=>
  match op with
  | .add=>some (.string (a++b),a.size+b.size<=9223372036854775807)
  | .eql=>some (.bool (a.toList==b.toList),True)
  | .neq=>some (.bool (!(a.toList==b.toList)),True)
  |_=>none
 | .bool a,.bool b=>
  match op with
  | .eql=>some (.bool (a==b),P.underlying t=some .bool)
  | .neq=>some (.bool (!(a==b)),P.underlying t=some .bool)
  |_=>none
 | .agg a,.agg b=>
  match op,mF with
  | .eql,some (.bool r)=>some (.bool r,afC P t (.agg a) (.agg b) r/\P.eqGuardType P.depth t=false)
  | .neq,some (.bool r)=>some (.bool (!r),afC P t (.agg a) (.agg b) r/\P.eqGuardType P.depth t=false)
  |_,_=>none
 |_,_=>none
section
variable {P:ay}
theorem acX {k:cZ}{a b:Int}(h:jh k a)(h0:0<=a)(hb:0<b):jh k (a/b):=by
 have h1:0<=a/b:=Int.ediv_nonneg h0 (by omega);have h2:a/b<=a:=Int.ediv_le_self b h0;cases k<;>simp only[jh] at h ⊢ <;>omega
theorem TJ {op:BinOp}{t:ax}{x y:aM}{a b v:af}{p:Prop}{mF:Option af}(h:oV P op t a b mF=some (v,p))(hp:p)(w:aa):
  (do eqGuard op t x y a b;binOp op t a b:Sem af).run P w= .ok v w:=by
 unfold oV at h;split at h
 .rename_i k a k' b;split at h
  .rename_i u;simp only[bM,cn] at h;obtain⟨rfl,rfl⟩:=h;have hg:(eqGuard .shr t x y (.int k a) (.int k' b)).run P w= .ok () w:=by
    unfold eqGuard;split<;>rfl
   rw[aO,hg];simp only[bO,binOp,Op.shift];rw[ah (by omega),hp.2];rfl
  split at h
  .rename_i hk;subst hk;have hg:(eqGuard op t x y (.int k a) (.int k b)).run P w= .ok () w:=by
    unfold eqGuard;split<;>rfl
   rw[aO,hg];simp only[bO];cases op<;>simp only[bM,cn,reduceCtorEq] at h
   all_goals (obtain⟨rfl,rfl⟩:=h)
   all_goals simp only[binOp,ne_eq,not_true_eq_false,if_false,Op.intArith,Op.intDiv,Op.intCmp]
   case add=>rw[hp.wrap];rfl
   case sub=>rw[hp.wrap];rfl
   case mul=>rw[hp.wrap];rfl
   case quo=>
    have⟨h0,h1,h2⟩:=hp;rw[ah (by omega),Int.tdiv_eq_ediv_of_nonneg h0,(acX h2 h0 h1).wrap];rfl
   case rem=>
    have⟨h0,h1⟩:=hp;rw[ah (by omega),Int.tmod_eq_emod_of_nonneg h0];rfl
   case eql=>simp[pure];rfl
   case neq=>simp[pure];rfl
   all_goals rfl
  cases h
 .rename_i a b;have hg:(eqGuard op t x y (.string a) (.string b)).run P w= .ok () w:=by
   unfold eqGuard;split<;>rfl
  rw[aO,hg];simp only[bO];cases op<;>simp only[bM,cn,reduceCtorEq] at h
  all_goals (obtain⟨rfl,rfl⟩:=h)
  all_goals simp only[binOp,Op.stringOp]
  case add=>
   rw[ah (by
    have:akN .i64=9223372036854775807:=by decide
    omega)]
   rfl
  all_goals rfl
 .rename_i a b;have hg:(eqGuard op t x y (.bool a) (.bool b)).run P w= .ok () w:=by
   unfold eqGuard;split<;>rfl
  rw[aO,hg];simp only[bO];cases op<;>simp only[bM,cn,reduceCtorEq] at h
  all_goals (obtain⟨rfl,rfl⟩:=h)
  all_goals
   simp only[binOp,aO];rw[show(akt t (.bool a) (.bool b)).run P w= .ok (a==b) w from run_equal_bool w t a b hp];rfl
 .rename_i a b;have hg:P.eqGuardType P.depth t=false->(eqGuard op t x y (.agg a) (.agg b)).run P w= .ok () w:=by
   intro he;cases op<;>simp[eqGuard,program,cj,he,bO]
  split at h
  .simp only[bM,cn] at h;obtain⟨rfl,rfl⟩:=h;rw[aO,hg hp.2];simp only[bO,binOp,aO,hp.1 w];rfl
  .simp only[bM,cn] at h;obtain⟨rfl,rfl⟩:=h;rw[aO,hg hp.2];simp only[bO,binOp,aO,hp.1 w];rfl
  cases h
 cases h
def kQ (P:ay)(C:aa->Prop)(g:aM->Option af)(op:Op)(mF:Option af):Option (af×Prop):=
 match op with
 | .move x=>(g x).map λv=>(v,True)
 | .assign x=>(g x).map λv=>(v,True)
 | .unOp .not _ x=>match g x with|some (.bool b)=>some (.bool (!b),True)|_=>none
 | .extract x i=>match g x with|some (.tuple vs)=>(vs[i]?).map λv=>(v,True)|_=>none
 | .nilCheck x=>match g x with|some (.pointer (some a))=>some (.pointer (some a),True)|_=>none
 | .binOp o t x y _=>match g x,g y with|some a,some b=>oV P o t a b mF|_,_=>none
 | .convert s d x=>match P.underlying s,P.underlying d with
  |some (.int _),some (.int k)=>match g x with|some (.int _ n)=>some (.int k n,jh k n)|_=>none
  |some (.slice _),some .string=>match g x,mF with|some v,some u=>some (u,∀w,C w->(convert s d v).run P w= .ok u w)|_,_=>none
  |_,_=>none
 | .index t x i=>match P.underlying t,g x,g i with|some .string,some (.string s),some (.int _ n)=>some (.int .u8 (jk s n),0<=n/\n<(s.size:Int))|_,_,_=>none
 | .indexAddr t x i=>match P.underlying t,g x,g i with|some (.slice e),some v,some (.int _ n)=>some (.pointer (some ⟨Fs v,Ft v+n.toNat*P.cellsOf e,none⟩),(P.info? e).isSome=true/\yG v n)|_,_,_=>none
 | .fieldAddr t x f=>match P.underlying t,g x with
  |some (.struct fs),some (.pointer (some ⟨b,o,none⟩))=>match fs[f]? with
   |some fd=>some (.pointer (some ⟨b,o+fd.offset,none⟩),0<P.cellsOf fd.type)
   |none=>none
  |_,_=>none
 | .load t x=>match P.underlying t,g x,mF with
  |some (.struct _),some (.pointer (some ⟨b,o,none⟩)),some (.agg us)=>some (.agg us,(P.info? t).isSome=true/\Kb C b o (P.cellsOf t) us)
  |some (.struct _),_,_=>none
  |some (.array _ _),_,_=>none
  |some _,some (.pointer (some ⟨b,o,none⟩)),some u=>some (u,qh C b o u)
  |_,_,_=>none
 | .field t x f=>match P.underlying t,g x with
  |some (.struct fs),some (.agg cs)=>match fs[f]? with
   |some fd=>match P.underlying fd.type with
    |some (.struct _)=>some (.agg (cs.extract fd.offset (fd.offset+P.cellsOf fd.type)),(P.info? fd.type).isSome=true)
    |some (.array _ _)=>none
    |some _=>(cs[fd.offset]?).map λv=>(v,True)
    |none=>none
   |none=>none
  |_,_=>none
 | .build t ps=>match ps.toList.mapM (λx=>(g x.2).map λv=>(x.1,v)),mF with
  |some vs,some v=>some (v,∀w,(alg t vs.toArray).run P w= .ok v w)
  |_,_=>none
 | .slice t x lo hi none=>match g x,lo.map g,hi.map g,mF with
  |some v,some (some l),some (some h),some u=>some (u,∀w,(cA t v (some l) (some h) none).run P w= .ok u w)
  |some v,some (some l),none,some u=>some (u,∀w,(cA t v (some l) none none).run P w= .ok u w)
  |some v,none,some (some h),some u=>some (u,∀w,(cA t v none (some h) none).run P w= .ok u w)
  |some v,none,none,some u=>some (u,∀w,(cA t v none none none).run P w= .ok u w)
  |_,_,_,_=>none
 | .lookup t m k ok=>match g m,g k,mF with
  |some vm,some vk,some u=>some (u,∀w,C w->(dK t vm vk ok).run P w= .ok u w)
  |_,_,_=>none
 | .call c=>match c.callee,c.args.toList.map g with
  | .builtin .max,vs=>match vs.mapM id,mF with|some us,some v=>some (v,∀ty w,(alh c.argTypes ty us.toArray).run P w= .ok v w)|_,_=>none
  | .builtin .min,vs=>match vs.mapM id,mF with|some us,some v=>some (v,∀ty w,(ali c.argTypes ty us.toArray).run P w= .ok v w)|_,_=>none
  | .builtin .len,[some v]=>match(c.argTypes[0]?).bind P.underlying with
   |some .string=>match v with| .string s=>some (.int .i64 s.size,True)|_=>none
   |some (.slice _)=>match mF with|some (.int .i64 n)=>some (.int .i64 n,yF v n)|_=>none
   |_=>none
  | .value x,vs=>match g x,vs.mapM id,mF with|some (.func (.func f) first cap),some us,some v=>some (v,oC P f/\vu P C f (first++us.toArray++cap) v)|_,_,_=>none
  |_,_=>none
 |_=>none
theorem Di {fd:Field}{b f:Nat}(w:aa)(h0:0<P.cellsOf fd.type):(fieldPlace ⟨b,f,none⟩ fd).run P w= .ok (⟨b,f+fd.offset,none⟩:bC) w:=by
 have hi:∃i,P.info? fd.type=some i:=by
  cases hh:P.info? fd.type with
  |none=>simp[akO,hh] at h0
  |some i=>exact⟨i,rfl⟩
 have⟨i,hi⟩:=hi;have hs:i.size≠0:=by simp[akO,hi] at h0;omega
 have wO:(⟨b,f,none⟩:bC).add fd.offset=⟨b,f+fd.offset,none⟩:=by unfold Addr.add;split<;>simp_all
 simp[fieldPlace,sizeOf,typeInfo,program,cj,hi,hs,wO]
theorem run_loadCellsFrom (w:aa)(b o:Nat)(us:Array af)(n:Nat)(hn:us.size=n)(h:∀j,j<n->w.cell? ⟨b,o+j,none⟩=us[j]?):
  ∀k i (acc:Array af),i+k=n->acc=us.extract 0 i->(loadCellsFrom ⟨b,o,none⟩ i k acc).run P w= .ok us w:=by
 intro k
 induction k with
 |zero=>
  intro i acc hi acY;subst acY;have:i=us.size:=by omega
  subst this;simp[loadCellsFrom]
 |succ k ih=>
  intro i acc hi acY;have hc:=h i (by omega);have wO:(⟨b,o,none⟩:bC).add i=⟨b,o+i,none⟩:=by unfold Addr.add;split<;>simp_all
  have oB:i<us.size:=by omega
  rw[aj1 oB] at hc;simp only[loadCellsFrom,load,aO,wO];rw[show(Sem.load .plain ⟨b,o+i,none⟩ Sem.pure:Sem af).run P w= .ok us[i] w from by simp[cj,hc]];simp only[bO];refine ih (i+1) _ (by omega) ?_;subst acY;simp
theorem Ke {C:aa->Prop}{t:ax}{b o:Nat}{us:Array af}{d:TypeDesc}(w:aa)(hw:C w)(hu:P.underlying t=some d)(hd:∃fs,d= .struct fs)(hi:(P.info? t).isSome=true)(hr:Kb C b o (P.cellsOf t) us):
  (aku t (.pointer (some ⟨b,o,none⟩))).run P w= .ok (.agg us) w:=by
 obtain⟨fs,rfl⟩:=hd;obtain⟨i,hi⟩:=bG.1 hi;have:=run_loadCellsFrom (P:=P) w b o us (P.cellsOf t) hr.1 (hr.2 w hw) (P.cellsOf t) 0 #[] (by omega) (by simp);simp[aku,akP,loadVar,isAgg,run_underlying hu,run_sizeOf w hi,loadCells,this]
theorem Kf {t:ax}{b o:Nat}{d:TypeDesc}{u:af}(w:aa)(hu:P.underlying t=some d)(hd1:∀fs,d= .struct fs->False)(TK:∀n e,d= .array n e->False)(hc:w.cell? ⟨b,o,none⟩=some u):
  (aku t (.pointer (some ⟨b,o,none⟩))).run P w= .ok u w:=by
 cases d<;>first|exact(hd1 _ rfl).elim|exact(TK _ _ rfl).elim|simp[aku,akP,loadVar,isAgg,run_underlying hu,load,cj,hc]
theorem kr {C:aa->Prop}{v:af}{w:aa}{s:Sem af}(h:s.run P w= .ok v w):de P C w v ((do pure (.value (<-s)):Sem Next).run P w):=by
 rw[aO,h];exact⟨rfl,rfl⟩
theorem sq {C:aa->Prop}{v:af}{w:aa}{s:Sem af}(h:s.run P w= .ok v w):de P C w v ((s.run P w).andThen λa w'=>.ok (.value a) w'):=by
 rw[h];exact⟨rfl,rfl⟩
theorem O6 {g:aM->Option af}{ρ:aM->af}(hg:∀x u,g x=some u->ρ x=u):∀(l:List aM) (us:List af),(l.map g).mapM id=some us->l.map ρ=us
 |[],us,h=>by simp at h;simp[h]
 |x::l,us,h=>by
  simp only[bn,amU,id_eq,amV,akv,amW,bM] at h;obtain⟨u,hu,vs,Ih,rfl⟩:=h;rw[bn,hg x u hu,O6 hg l vs Ih]
theorem Dj {g:aM->Option af}{ρ:aM->af}(hg:∀x u,g x=some u->ρ x=u):∀(l:List (Nat×aM)) (us:List (Nat×af)),l.mapM (λx=>(g x.2).map λv=>(x.1,v))=some us->l.map (λx=>(x.1,ρ x.2))=us
 |[],us,h=>by simp at h;simp[h]
 |x::l,us,h=>by
  simp only[amU,amV,akv,amW,bM,aX] at h;obtain⟨_,⟨u,hu,rfl⟩,vs,Ih,rfl⟩:=h;rw[bn,hg x.2 u hu,Dj hg l vs Ih]
theorem sO {g:aM->Option af}{ρ:aM->af}(hg:∀x u,g x=some u->ρ x=u)(a:Array aM)(us:List af)(h:(a.toList.map g).mapM id=some us):a.map ρ=us.toArray:=by
 have:=O6 hg a.toList us h;rw[<-this];apply ck;rw[aj2]
theorem Ii {C:aa->Prop}{g:aM->Option af}{ρ:aM->af}{o:aC}{mF:Option af}{v:af}{p:Prop}(hg:∀x u,g x=some u->ρ x=u)
  (h:kQ P C g o.op mF=some (v,p)) (hp:p) (w:aa) (hw:C w):de P C w v ((execOp ρ o).run P w):=by
 cases nt:o.op<;>rw[nt] at h
 all_goals first|(cases h;done)|skip
 case move x=>
  simp only[kQ] at h;simp only[execOp,nt];obtain⟨u,hu,e⟩:=aX.1 h;cases e;rw[hg x _ hu];exact⟨rfl,rfl⟩
 case assign x=>
  simp only[kQ] at h;simp only[execOp,nt];obtain⟨u,hu,e⟩:=aX.1 h;cases e;rw[hg x _ hu];exact⟨rfl,rfl⟩
 case unOp uo t x=>
  cases uo
  all_goals first|(cases h;done)|skip
  simp only[kQ] at h;split at h
  .rename_i b hb;cases h;simp only[execOp,nt,hg x _ hb];exact⟨rfl,rfl⟩
  cases h
 case extract x i=>
  simp only[kQ] at h;split at h
  .rename_i vs hb;obtain⟨u,hu,e⟩:=aX.1 h;cases e;simp only[execOp,nt,hg x _ hb];exact kr (by simp[Instr.extract,hu])
  cases h
 case nilCheck x=>
  simp only[kQ] at h;split at h
  .rename_i a hb;cases h;simp only[execOp,nt,hg x _ hb];exact⟨rfl,rfl⟩
  cases h
 case binOp bo t x y t'=>
  simp only[kQ] at h;split at h
  .rename_i a b ha hb;simp only[execOp,nt,hg x _ ha,hg y _ hb];exact kr (TJ h hp w)
  cases h
 case convert sT dT x=>
  simp only[kQ] at h;split at h
  .rename_i k1 k h1 h2;split at h
   .rename_i k2 n h3;cases h;simp only[execOp,nt,hg x _ h3];refine kr ?_;have:k.wrap n=n:=hp.wrap;simp[convert,run_underlying h1,run_underlying h2,Conv.intToInt,this]
   cases h
  .split at h
   .rename_i u' h3;cases h;simp only[execOp,nt,hg x _ h3];exact kr (hp w hw)
   cases h
  cases h
 case index t x i=>
  simp only[kQ] at h;split at h
  .rename_i s k n h1 h2 h3;cases h;simp only[execOp,nt,hg x _ h2,hg i _ h3];refine kr ?_;have⟨h0,h4⟩:=hp;have oB:n.toNat<s.size:=by omega
   have Dk:s[n.toNat]?=some (s[n.toNat]'oB):=by simp[oB]
   have AQ:jk s n=((s[n.toNat]'oB).toNat:Int):=by
    unfold jk
    congr 2
    rw[cq,aj1 oB];rfl
   simp[Instr.index,asIntOf,run_underlying h1,h0,Dk,AQ]
  cases h
 case indexAddr t x i=>
  simp only[kQ] at h;split at h
  .rename_i e v' k n h1 h2 h3;cases h;simp only[execOp,nt,hg x _ h2,hg i _ h3];refine kr ?_;obtain⟨hi,b,f,m,c,rfl,h0,h4⟩:=hp;obtain⟨i,hi⟩:=bG.1 hi;have wO:∀q,(⟨b,f,none⟩:bC).add q=⟨b,f+q,none⟩:=by intro q;unfold Addr.add;split<;>simp_all
   simp[Instr.indexAt,asIntOf,run_underlying h1,h0,h4,run_sizeOf w hi,wO,Fs,Ft]
  cases h
 case fieldAddr t x f=>
  simp only[kQ] at h;split at h
  .rename_i fs b q h1 h2;split at h
   .rename_i fd YL;cases h;simp only[execOp,nt,hg x _ h2];refine kr ?_;simp[Instr.fieldAt,run_underlying h1,YL,akP,Di w hp]
   cases h
  cases h
 case load t x=>
  simp only[kQ] at h;split at h
  .rename_i fs b q us h1 h2;cases h;simp only[execOp,nt,hg x _ h2];exact kr (Ke w hw h1 ⟨_,rfl⟩ hp.1 hp.2)
  .cases h
  .cases h
  .rename_i d b q u F7 Kg h1 h2;cases h;simp only[execOp,nt,hg x _ h2];exact kr (Kf w h1 F7 Kg (hp w hw))
  cases h
 case field t x f=>
  simp only[kQ] at h;split at h
  .rename_i fs cs h1 h2;split at h
   .rename_i fd YL;split at h
    .rename_i fs' h3;cases h;simp only[execOp,nt,hg x _ h2];refine kr ?_;obtain⟨i,hi⟩:=bG.1 hp;simp[amX,run_underlying h1,YL,asAgg,part,isAgg,run_underlying h3,run_sizeOf w hi]
    .cases h
    .rename_i d F7 Kg h3;obtain⟨u,hu,e⟩:=aX.1 h;cases e;simp only[execOp,nt,hg x _ h2];refine kr ?_;have BQ:(isAgg fd.type).run P w= .ok false w:=by
      cases d<;>first|exact(F7 _ rfl).elim|exact(Kg _ _ rfl).elim|simp[isAgg,run_underlying h3]
     simp[amX,run_underlying h1,YL,asAgg,part,BQ,hu]
    cases h
   cases h
  cases h
 case build t ps=>
  simp only[kQ] at h;split at h
  .rename_i vs v' Ih;cases h;have e:ps.map (λx=>(x.1,ρ x.2))=vs.toArray:=by
    have:=Dj hg ps.toList vs Ih;rw[<-this];apply ck;rw[aj2]
   simp only[execOp,nt];refine kr ?_;have:=hp w;rw[<-e] at this;exact this
  cases h
 case slice t x lo hi mx=>
  cases mx with
  |some m=>simp only[kQ] at h;cases h
  |none=>
   simp only[kQ] at h;simp only[execOp,nt];split at h
   .rename_i v' l hh u h1 h2 h3;cases h;obtain⟨lx,rfl,g2⟩:=aX.1 h2;obtain⟨hx,rfl,g3⟩:=aX.1 h3;refine kr ?_;simp only[bX,dg,hg _ _ h1,hg _ _ g2,hg _ _ g3];exact hp w
   .rename_i v' l u h1 h2 h3;cases h;obtain⟨lx,rfl,g2⟩:=aX.1 h2;cases akQ.1 h3;refine kr ?_;simp only[bX,dg,hg _ _ h1,hg _ _ g2];exact hp w
   .rename_i v' hh u h1 h2 h3;cases h;obtain⟨hx,rfl,g3⟩:=aX.1 h3;cases akQ.1 h2;refine kr ?_;simp only[bX,dg,hg _ _ h1,hg _ _ g3];exact hp w
   .rename_i v' u h1 h2 h3;cases h;cases akQ.1 h2;cases akQ.1 h3;refine kr ?_;simp only[bX,dg,hg _ _ h1];exact hp w
   cases h
 case lookup t m k ok=>
  simp only[kQ] at h;split at h
  .rename_i vm vk u h1 h2;cases h;simp only[execOp,nt,hg _ _ h1,hg _ _ h2];exact kr (hp w hw)
  cases h
 case call c=>
  simp only[kQ] at h;split at h
  .rename_i vs hc;split at h
   .rename_i us v' Ij;cases h;have ha:=sO hg c.args us Ij;simp only[execOp,nt,resolve,hc,aO,bz,bV,ha,invoke,builtin];exact sq (hp _ w)
   cases h
  .rename_i vs hc;split at h
   .rename_i us v' Ij;cases h;have ha:=sO hg c.args us Ij;simp only[execOp,nt,resolve,hc,aO,bz,bV,ha,invoke,builtin];exact sq (hp _ w)
   cases h
  .rename_i v' hc hl;split at h
   .rename_i hu;split at h
    .rename_i s;cases h;obtain⟨t,ht0,ht1⟩:=akv.1 hu;have ha:=sO hg c.args [.string s] (by rw[hl];rfl);simp only[execOp,nt,resolve,hc,aO,bz,bV,ha,invoke,builtin];refine sq (s:=akw c.argTypes o.type #[.string s]) ?_;simp[akw,ht0,run_underlying ht1,goInt]
    cases h
   .rename_i e hu;split at h
    .rename_i n;cases h;obtain⟨t,ht0,ht1⟩:=akv.1 hu;obtain⟨q,m,cp,rfl,rfl⟩:=hp;have ha:=sO hg c.args [.slice q m cp] (by rw[hl];rfl);simp only[execOp,nt,resolve,hc,aO,bz,bV,ha,invoke,builtin];refine sq (s:=akw c.argTypes o.type #[.slice q m cp]) ?_;simp[akw,ht0,run_underlying ht1,goInt]
    cases h
   cases h
  .rename_i x vs hc;split at h
   .rename_i f first cap us v' hx Ij;cases h;obtain⟨⟨fn,hf,hn,hb⟩,wP⟩:=hp;have ha:=sO hg c.args us Ij;have e:(execOp ρ o).run P w= .ok (.enter f (first++us.toArray++cap)) w:=by
     have Rk:fn.name≠ "runtime.NumGoroutine" :=by simpa using hn
     have qd:fn.body≠none:=by intro e;rw[e] at hb;cases hb
     simp[execOp,nt,resolve,hc,ha,hg _ _ hx,alj,invoke,callFunc,program,cj,hf,Rk,qd]
    rw[e];exact⟨rfl,wP w hw⟩
   cases h
  cases h
end
structure Tl where
 slot:Nat
 ch:List (Nat×Bool)
 val:af
abbrev Env:=List Tl
def F8 (a:Act)(l:Nat×Bool):Prop:=a.tmps[l.1]?=some (.bool l.2)
def nc (a:Act)(C:List (Nat×Bool)):Prop:=∀l∈C,F8 a l
def F9 (a:Act)(e:Tl):Prop:=(nc a e.ch->a.tmps[e.slot]?=some e.val)/\(¬nc a e.ch->a.tmps[e.slot]?=some undef)
def jH (n:Nat)(a:Act)(env:Env):Prop:=a.tmps.size=n/\a.defers=[]/\∀e∈env,F9 a e
def look (env:Env)(t:Nat):Option Tl:=env.find? (λe=>e.slot==t)
def getOp (env:Env)(C:List (Nat×Bool)):aM->Option af
 | .tmp t=>match look env t with
  |some e=>if e.ch.isPrefixOf C then some e.val else none
  |none=>none
 | .const v=>some v
 | .func f=>some (.func (.func f) #[] #[])
 | .global g=>some (.pointer (some ⟨g,0,none⟩))
theorem look_ok {env:Env}{t:Nat}{e:Tl}(h:look env t=some e):e∈env/\e.slot=t:=
 ⟨amY h,by have:=alk h;simpa using this⟩
theorem rz {a:Act}{C D:List (Nat×Bool)}(h:C.isPrefixOf D=true)(hd:nc a D):nc a C:=by
 obtain⟨t,rfl⟩:=List.isPrefixOf_iff_prefix.1 h;exact λl hl=>hd l (aQ _ hl)
theorem lW {n:Nat}{a:Act}{env:Env}{C:List (Nat×Bool)}(ha:jH n a env)(hC:nc a C)(x:aM)(u:af)(h:getOp env C x=some u):a.eval x=u:=by
 cases x with
 |tmp t=>
  simp only[getOp] at h;split at h
  .rename_i e he;split at h
   .rename_i hp;cases h;obtain⟨h1,rfl⟩:=look_ok he;have:=(ha.2.2 e h1).1 (rz hp hC);simp only[dz,cq,this,cK]
   cases h
  cases h
 |const v=>cases h;rfl
 |func f=>cases h;rfl
 |global g=>cases h;rfl
def CF (ops:Array aC)(env:Env)(o:aC):Option (List (Nat×Bool)):=
 match o.guard with
 |none=>some []
 |some (i,b)=>match(ops[i]?).bind (·.dst) with
  |some j=>(look env j).map λe=>e.ch++[(j,b)]
  |none=>none
def impl (env:Env):List (Nat×Bool)->Prop->Prop
 |[],p=>p
 |(j,b)::r,p=>match look env j with
  |some ⟨_,_,.bool c⟩=>c=b->impl env r p
  |_=>impl env r p
def M8 (env:Env)(C:List (Nat×Bool))(c x y:aM):Option af:=
 match c,getOp env C c with
 | .tmp t,some (.bool cb)=>match getOp env (C++[(t,true)]) x,getOp env (C++[(t,false)]) y with
  |some (.bool p),some (.bool q)=>match x,y with
   | .const (.bool true),_=>some (.bool (cb||q))
   |_,.const (.bool false)=>some (.bool (cb && p))
   |_,_=>some (.bool (bif cb then p else q))
  |_,_=>none
 |_,_=>none
def Dl (P:ay)(W:aa->Prop)(n:Nat)(ops:Array aC)(env:Env)(mF:List (Nat×af))(o:aC):Option (Env×Prop):=
 match CF ops env o,o.dst with
 |some C,some d=>
  if d<n/\C.all (λl=>l.1 !=d)=true then
   match(match o.op with
    | .pick c x y=>(M8 env C c x y).map λv=>(v,True)
    |op=>kQ P W (getOp env C) op (mF.lookup d)) with
   |some (v,p)=>some (⟨d,C,v⟩::env.filter (λe=>e.slot !=d && e.ch.all (λl=>l.1 !=d)),impl env C p)
   |none=>none
  else none
 |_,_=>none
def ahU:BinOp->Bool
 | .eql=>true
 | .neq=>true
 | .lss=>true
 | .leq=>true
 | .gtr=>true
 | .geq=>true
 |_=>false
def ahV:BinOp->Bool
 | .eql=>true
 | .neq=>true
 |_=>false
def TL (o:BinOp):Option af->Option af->Bool
 |some (.int _ _),some (.int _ _)=>ahU o
 |some (.string _),some (.string _)=>ahV o
 |_,_=>false
def ab7 (g:aM->Option af):Op->Bool
 | .move _=>true
 | .assign _=>true
 | .unOp .not _ _=>true
 | .pick _ _ _=>true
 | .binOp o _ x y _=>TL o (g x) (g y)
 |_=>false
def TM (ops:Array aC)(env:Env)(o:aC):Bool:=match CF ops env o with
 |some C=>ab7 (getOp env C) o.op
 |none=>false
theorem TN {P:ay}{W:aa->Prop}{g:aM->Option af}{op:Op}{mF:Option af}{v:af}{p:Prop}(ht:ab7 g op=true)(h:kQ P W g op mF=some (v,p)):p:=by
 cases op
 all_goals first|(cases ht;done)|skip
 case move x=>obtain⟨u,_,e⟩:=aX.1 h;cases e;trivial
 case assign x=>obtain⟨u,_,e⟩:=aX.1 h;cases e;trivial
 case unOp u t x=>
  cases u
  all_goals first|(cases ht;done)|skip
  simp only[kQ] at h;split at h<;>cases h
  trivial
 case pick c x y=>cases h
 case binOp o t x y z=>
  simp only[kQ] at h;have ht:TL o (g x) (g y)=true:=ht;unfold TL at ht;split at ht
  .rename_i k a k' b hx hy;rw[hx,hy] at h;cases o<;>first|(cases ht;done)|(simp only[oV] at h;split at h<;>cases h;trivial)
  .rename_i a b hx hy;rw[hx,hy] at h;cases o<;>first|(cases ht;done)|(simp only[oV] at h;cases h;trivial)
  cases ht
theorem AR {env:Env}{p:Prop}(h:p):∀C:List (Nat×Bool),impl env C p
 |[]=>h
 |(j,b)::r=>by
  simp only[impl];split
  .exact λ_=>AR h r
  exact AR h r
theorem TO {P:ay}{W:aa->Prop}{n:Nat}{ops:Array aC}{env uH:Env}{mF:List (Nat×af)}{o:aC}{p:Prop}(ht:TM ops env o=true)(h:Dl P W n ops env mF o=some (uH,p)):p:=by
 unfold Dl at h;unfold TM at ht;split at h
 .rename_i C d hC hd;rw[hC] at ht;split at h
  .split at h
   .rename_i v p' hv;cases h;refine AR ?_ C;split at hv
    .obtain⟨u,_,e⟩:=aX.1 hv;cases e;trivial
    exact TN ht hv
   cases h
  cases h
 cases h
def Dm (P:ay)(W:aa->Prop)(n:Nat)(ops:Array aC)(mF:List (Nat×af)):List aC->Env->Option (Env×Prop)
 |[],env=>some (env,True)
 |o::r,env=>match Dl P W n ops env mF o with
  |some (uH,p)=>match Dm P W n ops mF r uH with
   |some (afD,q)=>some (afD,match TM ops env o with
    |true=>q
    |false=>p/\q)
   |none=>none
  |none=>none
theorem Ga {a:Act}{l:Nat×Bool}{d:Nat}{v:af}(h:l.1≠d):F8 (a.put (some d) v) l↔F8 a l:=by
 simp only[F8,dA,aj3];rw[ah (λe=>h e.symm)]
theorem rA {a:Act}{C:List (Nat×Bool)}{d:Nat}{v:af}(h:C.all (λl=>l.1 !=d)=true):nc (a.put (some d) v) C↔nc a C:=by
 rw[aU] at h;exact⟨λhc l hl=>(Ga (by simpa using h l hl)).1 (hc l hl),λhc l hl=>(Ga (by simpa using h l hl)).2 (hc l hl)⟩
theorem xJ {a:Act}{e:Tl}{d:Nat}{v:af}(h:(e.slot !=d && e.ch.all (λl=>l.1 !=d))=true)(he:F9 a e):F9 (a.put (some d) v) e:=by
 rw[aR] at h;have hs:(a.put (some d) v).tmps[e.slot]?=a.tmps[e.slot]?:=by
  simp only[dA,aj3];rw[ah (λq=>by simp[q] at h)]
 refine⟨λhc=>?_,λhc=>?_⟩
 .rw[hs];exact he.1 ((rA h.2).1 hc)
 rw[hs];exact he.2 (λk=>hc ((rA h.2).2 k))
theorem Gb {n:Nat}{a:Act}{env:Env}{d:Nat}{C:List (Nat×Bool)}{v:af}(ha:jH n a env)(hd:d<n)(hC:C.all (λl=>l.1 !=d)=true){u:af}(hu:(nc a C->u=v)/\(¬nc a C->u=undef)):
  jH n (a.put (some d) u) (⟨d,C,v⟩::env.filter (λe=>e.slot !=d && e.ch.all (λl=>l.1 !=d))):=by
 refine⟨by simp[dA,ha.1],ha.2.1,λe he=>?_⟩;rcases aD.1 he with rfl|he
 .have hs:(a.put (some d) u).tmps[d]?=some u:=by
   simp only[dA,aj3,if_true];rw[ak (by rw[ha.1];exact hd)]
  refine⟨λhc=>?_,λhc=>?_⟩
  .show(a.put (some d) u).tmps[d]?=some v;rw[hs,hu.1 ((rA hC).1 hc)]
  show(a.put (some d) u).tmps[d]?=some undef;rw[hs,hu.2 (λk=>hc ((rA hC).2 k))]
 obtain⟨h1,h2⟩:=cU.1 he;exact xJ h2 (ha.2.2 e h1)
theorem AS {n:Nat}{a:Act}{env:Env}(ha:jH n a env):∀ {C:List (Nat×Bool)} {p:Prop},impl env C p->nc a C->p
 |[],p,h,_=>h
 |(j,b)::r,p,h,hc=>by
  have hr:nc a r:=λl hl=>hc l (aI _ hl);simp only[impl] at h;split at h
  .rename_i s e c hl;obtain⟨h1,h2⟩:=look_ok hl;have hj:a.tmps[j]?=some (.bool b):=hc (j,b) aE;have he:=ha.2.2 _ h1;simp only at h2;subst h2;have pN:nc a e:=bL λhn=>by
    have:=he.2 hn;simp only at this;rw[hj] at this;simp[undef] at this
   have hv:=he.1 pN;simp only at hv;rw[hj] at hv;simp at hv;exact AS ha (h hv.symm) hr
  exact AS ha h hr
theorem M9 {n:Nat}{a:Act}{env:Env}{ops:Array aC}{o:aC}{C:List (Nat×Bool)}(ha:jH n a env)(h:CF ops env o=some C):cL o (yielded ops a.tmps)=true↔nc a C:=by
 unfold CF at h;unfold Region.wanted;split at h
 .rename_i hg;cases h;simp[hg,nc]
 rename_i i b hg;split at h
 .rename_i j hj;obtain⟨e,he,rfl⟩:=aX.1 h;obtain⟨h1,rfl⟩:=look_ok he;have Tm:=ha.2.2 e h1;simp only[hg,beq_iff_eq];have hy:yielded ops a.tmps i=some b↔a.tmps[e.slot]?=some (.bool b):=by
   unfold yielded;rw[hj];simp only[Option.bind_some];constructor
   .intro hh;split at hh
    .rename_i c hc;cases hh;exact hc
    cases hh
   intro hh;rw[hh]
  rw[hy];constructor
  .intro hh l hl;rcases aK.1 hl with hl|hl
   .have pN:nc a e.ch:=bL λhn=>by
     have:=Tm.2 hn;rw[hh] at this;simp[undef] at this
    exact pN l hl
   simp at hl;subst hl;exact hh
  intro hh;exact hh (e.slot,b) (bq _ (by simp))
 cases h
theorem Rm {P:ay}{W:aa->Prop}{n:Nat}{a:Act}{env:Env}{C:List (Nat×Bool)}{o:aC}{c x y:aM}{v:af}(ha:jH n a env)(hC:nc a C)(ho:o.op= .pick c x y)(h:M8 env C c x y=some v)(w:aa):de P W w v ((execOp a.eval o).run P w):=by
 unfold M8 at h;split at h
 .rename_i t cb hc;split at h
  .rename_i p q hx hy;have ec:=lW ha hC _ _ hc;have key:∀r:Bool,(cb=true->r=p)->(cb=false->r=q)->v= .bool r->de P W w v ((execOp a.eval o).run P w):=by
    intro r h1 h2 hv;subst hv;have TP:F8 a (t,cb):=by
     simp only[getOp] at hc;split at hc
     .rename_i e he;split at hc
      .rename_i hp;obtain⟨m1,rfl⟩:=look_ok he;have:=(ha.2.2 e m1).1 (rz hp hC);have hv:=bD hc;unfold F8;rw[this,hv]
      cases hc
     cases hc
    simp only[execOp,ho,ec,asBool,aO,bz,bV];cases cb with
    |true=>
     have ex:=lW ha (C:=C++[(t,true)]) (λl hl=>by rcases aK.1 hl with hl|hl;exact hC l hl;simp at hl;subst hl;exact TP) _ _ hx;rw[h1 rfl];simp only[if_true,ex];exact⟨rfl,rfl⟩
    |false=>
     have ey:=lW ha (C:=C++[(t,false)]) (λl hl=>by rcases aK.1 hl with hl|hl;exact hC l hl;simp at hl;subst hl;exact TP) _ _ hy;rw[h2 rfl];simp only[akx,if_false,ey];exact⟨rfl,rfl⟩
   split at h
   .cases h;cases hx;exact key _ (λe=>by rw[e];simp) (λe=>by rw[e];simp) rfl
   .cases h;cases hy;exact key _ (λe=>by rw[e];simp) (λe=>by rw[e];simp) rfl
   cases h;exact key _ (λe=>by rw[e];rfl) (λe=>by rw[e];rfl) rfl
  cases h
 cases h
theorem Rn {P:ay}{W:aa->Prop}{n:Nat}{ops:Array aC}{a:Act}{env uH:Env}{mF:List (Nat×af)}{o:aC}{p:Prop}(ha:jH n a env)
  (h:Dl P W n ops env mF o=some (uH,p)) (hp:p) {Q:Act->Prop} (hQ:∀a',jH n a' uH->Q a'):
  if cL o (yielded ops a.tmps) then o.quiet P a W Q else Q (a.put o.dst undef):=by
 unfold Dl at h;split at h
 .rename_i C d hC hd;split at h
  .rename_i Na;split at h
   .rename_i v p' hv;cases h;have hw:=M9 ha hC
    by_cases pN:nc a C
    .rw[ak (hw.2 pN)];have hp':=AS ha hp pN;refine⟨v,λw hw=>?_,?_⟩
     .unfold Oper.quietAt;split at hv
      .rename_i c x y ho;obtain⟨u,hu,e⟩:=aX.1 hv;cases e;exact Rm ha pN ho hu w
      exact Ii (λx u hx=>lW ha pN x u hx) hv hp' w hw
     rw[hd];exact hQ _ (Gb ha Na.1 Na.2 ⟨λ_=>rfl,λhn=>(hn pN).elim⟩)
    rw[ah (λhh=>pN (hw.1 hh)),hd];exact hQ _ (Gb ha Na.1 Na.2 ⟨λhh=>(pN hh).elim,λ_=>rfl⟩)
   cases h
  cases h
 cases h
theorem Dn {P:ay}{W:aa->Prop}{n:Nat}{ops:Array aC}{mF:List (Nat×af)}:∀ {l:List aC} {a:Act} {env uH:Env} {p:Prop} (ha:jH n a env)
  (h:Dm P W n ops mF l env=some (uH,p)) (hp:p) {Q:Act->Prop} (hQ:∀a',jH n a' uH->Q a'),wpQuiet P ops W Q l a
 |[],a,env,uH,p,ha,h,hp,Q,hQ=>by
  simp only[Dm,bM,cn] at h;obtain⟨rfl,rfl⟩:=h;exact hQ a ha
 |o::r,a,env,uH,p,ha,h,hp,Q,hQ=>by
  simp only[Dm] at h;split at h
  .rename_i ajs p1 h1;split at h
   .rename_i ajt q h2;cases h;have hpq:p1/\q:=by
     split at hp
     .rename_i ht;exact⟨TO ht h1,hp⟩
     exact hp
    exact Rn ha h1 hpq.1 (λa' Tn=>Dn Tn h2 hpq.2 hQ)
   cases h
  cases h
def j8 (keep:List (Nat×af)):Env:=keep.map λx=>⟨x.1,[],x.2⟩
theorem Ik {n:Nat}{a:Act}{env:Env}(keep:List (Nat×af))(ha:jH n a env)(h:∀x∈keep,look env x.1=some ⟨x.1,[],x.2⟩):jH n a (j8 keep):=by
 refine⟨ha.1,ha.2.1,λe he=>?_⟩;obtain⟨x,hx,rfl⟩:=aV.1 he;exact ha.2.2 _ (look_ok (h x hx)).1
def sub:Code->List Nat->Code
 |c,[]=>c
 | .seq x y,k::p=>if k=0 then sub x p else sub y p
 | .cond _ x y,k::p=>if k=0 then sub x p else sub y p
 | .block _ b,_::p=>sub b p
 | .loop b,_::p=>sub b p
 | .scope b,_::p=>sub b p
 | .rangeFunc _ _ x y,k::p=>if k=0 then sub x p else sub y p
 |_,_::_=>.skip
def afE:Code->Bool| .seq _ _=>true|_=>false
def acZ:Code->Bool| .loop _=>true|_=>false
def ab8:Code->Bool| .ret=>true|_=>false
def ac0:Code->Bool| .skip=>true|_=>false
def TQ:Code->Option aM| .cond c _ _=>some c|_=>none
def O7:Code->Option Nat| .block i _=>some i|_=>none
def TR:Code->Option Nat| .exit i=>some i|_=>none
def AU:Code->Option Bool| .region _ _ d=>some d|_=>none
def opsOf:Code->Array aC| .region _ o _=>o|_=> #[]
theorem O8 (c:Code):sub c []=c:=by cases c<;>rfl
theorem Kh (x y:Code):sub (.seq x y) [0]=x:=by simp only[sub];cases x<;>rfl
theorem Ki (x y:Code):sub (.seq x y) [1]=y:=by simp only[sub];cases y<;>rfl
theorem AV (c:aM)(x y:Code):sub (.cond c x y) [0]=x:=by simp only[sub];cases x<;>rfl
theorem AW (c:aM)(x y:Code):sub (.cond c x y) [1]=y:=by simp only[sub];cases y<;>rfl
theorem Dp (i:Nat)(x:Code):sub (.block i x) [0]=x:=by simp only[sub]
theorem Gc (x:Code):sub (.loop x) [0]=x:=by simp only[sub]
theorem kG (k:Nat):∀(p:List Nat) (B:Code),sub B (p++[k])=sub (sub B p) [k]
 |[],B=>by cases B<;>rfl
 |j::p,B=>by
  cases B with
  |seq x y=>simp only[dh,sub];split<;>exact kG k p _
  |cond c x y=>simp only[dh,sub];split<;>exact kG k p _
  |block i b=>exact kG k p b
  |loop b=>exact kG k p b
  |scope b=>exact kG k p b
  |rangeFunc f ps x y=>simp only[dh,sub];split<;>exact kG k p _
  |_=>rfl
abbrev oh:=Exit->Act->aa->Prop
theorem Dq {p:Nat->Prop}:∀n,p n->∃m,p m/\∀k,p k->m<=k:=by
 intro n
 induction n using Nat.strongRecOn with
 |_ n ih=>
  intro hn
  by_cases h:∃k,k<n/\p k
  .obtain⟨k,hk,hpk⟩:=h;exact ih k hk hpk
  exact⟨n,hn,λk hk=>Nat.le_of_not_lt λoB=>h ⟨k,oB,hk⟩⟩
section
variable {P:ay}{B:Code}{p:List Nat}{Q:oh}{a:Act}{w:aa}
theorem iz (k:∀K:Act->aa->Prop,(∀a w,(sub B (p++[1])).wp P Q a w->K a w)->(sub B (p++[0])).wp P (Exit.then K Q) a w)(h:afE (sub B p)=true:=by kernel_rfl):(sub B p).wp P Q a w:=by
 cases hc:sub B p<;>rw[hc] at h<;>first|(cases h;done)|skip
 rename_i x y;refine wp_seq_k λK hK=>?_;have:=k K (λa w h=>hK a w (by rw[kG,hc,Ki] at h;exact h));rw[kG,hc,Kh] at this;exact this
theorem iY {n:Nat}{env:Env}(ha:jH n a env)(c:aM)(b:Bool)
  (ht:b=true->(sub B (p++[0])).wp P Q a w) (hf:b=false->(sub B (p++[1])).wp P Q a w) (h:TQ (sub B p)=some c:=by kernel_rfl) (hb:getOp env [] c=some (.bool b):=by kernel_rfl):(sub B p).wp P Q a w:=by
 cases hc:sub B p<;>rw[hc] at h<;>first|(cases h;done)|skip
 rename_i c' x y;simp only[TQ,bM] at h;subst h;refine wp_cond_split (lW ha (λ_ hl=>by simp at hl) _ _ hb) (λe=>?_) (λe=>?_)
 .have:=ht e;rw[kG,hc,AV] at this;exact this
 have:=hf e;rw[kG,hc,AW] at this;exact this
theorem lq (i:Nat)(k:(sub B (p++[0])).wp P (Exit.inBlock i Q) a w)(h:O7 (sub B p)=some i:=by kernel_rfl):(sub B p).wp P Q a w:=by
 cases hc:sub B p<;>rw[hc] at h<;>first|(cases h;done)|skip
 rename_i j b;simp only[O7,bM] at h;subst h;rw[kG,hc,Dp] at k;exact wp_block k
theorem sr (i:Nat)(k:Q (.exit i) a w)(h:TR (sub B p)=some i:=by kernel_rfl):(sub B p).wp P Q a w:=by
 cases hc:sub B p<;>rw[hc] at h<;>first|(cases h;done)|skip
 simp only[TR,bM] at h;subst h;exact wp_exit k
theorem jy (k:Q .ret a w)(h:ab8 (sub B p)=true:=by kernel_rfl):(sub B p).wp P Q a w:=by
 cases hc:sub B p<;>rw[hc] at h<;>first|(cases h;done)|skip
 exact wp_ret k
theorem go_skip (k:Q .normal a w)(h:ac0 (sub B p)=true:=by kernel_rfl):(sub B p).wp P Q a w:=by
 cases hc:sub B p<;>rw[hc] at h<;>first|(cases h;done)|skip
 exact wp_skip k
theorem rB (X:Type)(I:X->Act->aa->Prop)(μ:X->Nat)(x0:X)(h0:I x0 a w)
  (round:∀x a w,I x a w->(sub B (p++[0])).wp P (Exit.then (λa' w'=> ∃x',I x' a' w'/\μ x'<μ x) Q) a w) (h:acZ (sub B p)=true:=by kernel_rfl):(sub B p).wp P Q a w:=by
 cases hc:sub B p<;>rw[hc] at h<;>first|(cases h;done)|skip
 rename_i b;rw[kG,hc,Gc] at round
 classical
 have hL:∀a w,(∃x,I x a w)->∃m,(∃x,I x a w/\μ x=m)/\∀k,(∃x,I x a w/\μ x=k)->m<=k:=λa w ⟨x,hx⟩=>Dq (p:=λm=> ∃x,I x a w/\μ x=m) (μ x) ⟨x,hx,rfl⟩
 let m:Act->aa->Nat:=λa w=>if h:∃x,I x a w then al0 (hL a w h) else 0
 have hm:∀a w,(∃x,I x a w)->(∃x,I x a w/\μ x=m a w)/\∀k,(∃x,I x a w/\μ x=k)->m a w<=k:=by
  intro a w h;have:=akS (hL a w h);simp only[m,dif_pos h];exact this
 refine wp_loop (λa w=> ∃x,I x a w) m ⟨x0,h0⟩ λa w hI=>?_;obtain⟨⟨x,hx,hmx⟩,_⟩:=hm a w hI;refine wp_mono (round x a w hx) λe a' w' q=>?_;cases e with
 |normal=>
  obtain⟨x',CG,oB⟩:=q;refine⟨⟨x',CG⟩,?_⟩;have:=(hm a' w' ⟨x',CG⟩).2 (μ x') ⟨x',CG,rfl⟩;omega
 |_=>exact q
abbrev On (w:aa):aa->Prop:=λw'=>Below w.heap.size w w'
theorem On.self (w:aa):On w w:=Below.refl _ _
theorem kV (k:wpList P (opsOf (sub B p)) Q ((opsOf (sub B p)).toList.drop 0) a w)(hd:AU (sub B p)=some false:=by kernel_rfl):(sub B p).wp P Q a w:=by
 cases hc:sub B p<;>rw[hc] at hd<;>first|(cases hd;done)|skip
 rename_i id ops d;simp only[AU,bM] at hd;subst hd;rw[hc] at k;exact wp_region_list k
theorem su {ops:Array aC}{C:aa->Prop}{K:Act->Prop}{rest:List aC}:∀(l:List aC) (a:Act) (w:aa),C w->wpQuiet P ops C K l a->(∀a' w',C w'->K a'->wpList P ops Q rest a' w')->wpList P ops Q (l++rest) a w
 |[],a,w,hw,h,k=>k a w hw h
 |o::l,a,w,hw,h,k=>by
  simp only[wpQuiet] at h;simp only[dh,wpList];split
  .rename_i TS;rw[ak TS] at h;exact .inl (Oper.wp_of_quiet hw (λa' w' xK hK=>su l a' w' xK hK k) h)
  rename_i TS;rw[ah TS] at h;exact su l _ w hw h k
theorem ac1 {ops:Array aC}{n i m:Nat}{env uH:Env}{pr:Prop}(mF:List (Nat×af))(keep:List (Nat×af))(ha:jH n a env)
  (h:Dm P (On w) n ops mF ((ops.toList.drop i).take m) env=some (uH,pr)) (hk:∀x∈keep,look uH x.1=some ⟨x.1,[],x.2⟩) (hp:pr)
  (k:∀a' w',jH n a' (j8 keep)->Below w.heap.size w w'->wpList P ops Q (ops.toList.drop (i+m)) a' w'):wpList P ops Q (ops.toList.drop i) a w:=by
 have:=su (P:=P) (Q:=Q) (rest:=ops.toList.drop (i+m)) (K:=λa'=>jH n a' (j8 keep)) ((ops.toList.drop i).take m) a w (On.self w) (Dn ha h hp λa' Tn=>Ik keep Tn hk) (λa' w' xK Tn=>k a' w' Tn xK);rw[<-akT,dB] at this;exact this
theorem lX {ops:Array aC}{i:Nat}(k:Q .normal a w)(h:decide (ops.size<=i)=true:=by kernel_rfl):wpList P ops Q (ops.toList.drop i) a w:=by
 rw[akr (by simpa using aA h)];exact k
def Kj (ops:Array aC)(i:Nat):Option (Op×Option Tmp×Option (Nat×Bool)):=(ops.toList[i]?).map λo=>(o.op,o.dst,o.guard)
theorem Kk {ops:Array aC}{i:Nat}{op:Op}{dst:Option Tmp}{R:Act->aa->Prop}(h:Kj ops i=some (op,dst,none))
  (k:∀o:aC,o.op=op->o.dst=dst->o.wp P a w R Q):wpOp P ops Q i R a w:=by
 obtain⟨o,ho,he⟩:=aX.1 h;simp only[cn] at he;have⟨h1,h2,h3⟩:=he;have J0:ops[i]?=some o:=by simpa using ho
 unfold wpOp;simp only[J0,cL,h3,if_true];exact .inl (k o h1 h2)
theorem mZ {ops:Array aC}(i:Nat)(h:wpOp P ops Q i (wpList P ops Q (ops.toList.drop (i+1))) a w)(hi:decide (i<ops.size)=true:=by kernel_rfl):wpList P ops Q (ops.toList.drop i) a w:=by
 have Fu:i<ops.toList.length:=by rw[cw];exact aA hi
 rw[List.drop_eq_getElem_cons Fu];have ho:ops[i]?=some ops.toList[i]:=by simp[aY Fu]
 unfold wpOp at h;simp only[ho] at h;simp only[wpList];exact h
theorem O9 {n d:Nat}{v:af}(keep:List (Nat×af)){env:Env}(ha:jH n a env)(hd:d<n)(hk:∀x∈keep,x.1≠d/\look env x.1=some ⟨x.1,[],x.2⟩):jH n (a.put (some d) v) (j8 ((d,v)::keep)):=by
 refine⟨by simp[dA,ha.1],ha.2.1,λe he=>?_⟩;obtain⟨x,hx,rfl⟩:=aV.1 he;rcases aD.1 hx with rfl|hx
 .have hs:(a.put (some d) v).tmps[d]?=some v:=by
   simp only[dA,aj3,if_true];rw[ak (by rw[ha.1];exact hd)]
  exact⟨λ_=>hs,λhn=>(hn (λl hl=>by simp at hl)).elim⟩
 obtain⟨h1,h2⟩:=hk x hx;have:=ha.2.2 _ (look_ok h2).1;exact xJ (by simpa using h1) this
theorem Ro {ops:Array aC}{n i d:Nat}{env:Env}{x:aM}{args:Array aM}{Y4:Array ax}{f:bA}{us first cap:List af}{R:af->aa->Prop}{N:Act->aa->Prop}(keep:List (Nat×af))(ha:jH n a env)
  (h:Kj ops i=some (.call {callee:=.value x,args:=args,argTypes:=Y4},some d,none)) (hd:d<n) (hx:getOp env [] x=some (.func (.func f) first.toArray cap.toArray)) (kW:(args.toList.map (getOp env [])).mapM id=some us) (hk:∀x∈keep,x.1≠d/\look env x.1=some ⟨x.1,[],x.2⟩)
  (hf:oC P f) (hc:Calls P f (first++us++cap).toArray w λe w'=> ∃v,e= .returned v/\R v w')
  (k:∀v a' w',R v w'->jH n a' (j8 ((d,v)::keep))->N a' w'):wpOp P ops Q i N a w:=by
 refine Kk h λo ho nK=>?_;have uG:nc a []:=λl hl=>by simp at hl
 have⟨fn,TU,hn,hb⟩:=hf;have Rk:fn.name≠ "runtime.NumGoroutine" :=by simpa using hn
 have qd:fn.body≠none:=by intro e;rw[e] at hb;cases hb
 have Dr:=sO (ρ:=a.eval) (λx u hx=>lW ha uG x u hx) args us kW;have e:(execOp a.eval o).run P w= .ok (.enter f (first++us++cap).toArray) w:=by
  simp[execOp,ho,resolve,Dr,lW ha uG _ _ hx,alj,invoke,callFunc,program,cj,TU,Rk,qd]
 unfold Oper.wp;rw[e];refine hc.mono λe w' ⟨v,he,hR⟩=>?_;subst he;refine k v _ w' hR ?_;rw[nK];exact O9 keep ha hd hk
theorem j9 {fn:Func}{R:dc->aa->Prop}{n:Nat}{env:Env}(t:Nat)(v:af)(ha:jH n a env)(k:R (.returned v) w)(hr:fn.results= #[.tmp t]:=by kernel_rfl)(hv:getOp env [] (.tmp t)=some v:=by kernel_rfl):bodyPost P fn R .ret a w:=by
 have uG:nc a []:=λl hl=>by simp at hl
 refine bodyPost_ret (v:=v) ?_ ha.2.1 k;rw[results_tmp hr];have:=lW ha uG _ _ hv;simp only[dz] at this;rw[this]
theorem tR {fn:Func}{R:dc->aa->Prop}{n:Nat}{env:Env}(t1 t2:Nat)(v1 v2:af)(ha:jH n a env)(k:R (.returned (.tuple #[v1,v2])) w)(hr:fn.results= #[.tmp t1,.tmp t2]:=by kernel_rfl)(FC:getOp env [] (.tmp t1)=some v1:=by kernel_rfl)(TV:getOp env [] (.tmp t2)=some v2:=by kernel_rfl):bodyPost P fn R .ret a w:=by
 have uG:nc a []:=λl hl=>by simp at hl
 refine bodyPost_ret (v:=.tuple #[v1,v2]) ?_ ha.2.1 k;rw[results_tmp2 hr];have h1:=lW ha uG _ _ FC;have h2:=lW ha uG _ _ TV;simp only[dz] at h1 h2;rw[h1,h2]
theorem enter {f:bA}(fn:Func)(n:Nat){args:List af}{R:dc->aa->Prop}(hf:P.funcs[f]?=some fn)
  (k:∀a,jH n a (j8 ((List.range args.length).zip args))->(sub (fn.body.getD .skip) []).wp P (bodyPost P fn R) a w) (hb:fn.body.isSome=true:=by kernel_rfl) (hn:fn.ntmps=n:=by kernel_rfl) (hl:decide (args.length<=n)=true:=by kernel_rfl):Calls P f args.toArray w R:=by
 obtain⟨B,hb⟩:=bG.1 hb;rw[hb] at k;have hl:=aA hl;refine calls_of_wp hf hb ?_;rw[<-O8 B];refine k _ ⟨?_,rfl,λe he=>?_⟩
 .simp;omega
 obtain⟨x,hx,rfl⟩:=aV.1 he;obtain⟨j,hj,rfl⟩:=ajY hx;have JZ:j<args.length:=by simp at hj;exact hj
 refine⟨λ_=>?_,λhn=>(hn (λl hl=>by simp at hl)).elim⟩;simp only[List.getElem_zip,List.getElem_range];rw[Array.getElem?_append_left (by simpa using JZ)];simp[JZ]
end
def ab9 (P:ay)(W:aa->Prop)(n:Nat)(ops:Array aC)(mF:List (Nat×af))(l:List aC)(env:Env)(keep:List (Nat×af))(pr:Prop):Prop:=
 ∃uH,Dm P W n ops mF l env=some (uH,pr)/\∀x∈keep,look uH x.1=some ⟨x.1,[],x.2⟩
theorem Dt {env:Env}:∀ {keep:List (Nat×af)},(keep.map λx=>look env x.1)=(keep.map λx=>some ⟨x.1,[],x.2⟩)->∀x∈keep,look env x.1=some ⟨x.1,[],x.2⟩
 |[],_,x,hx=>by simp at hx
 |y::r,h,x,hx=>by
  simp only[bn,List.cons.injEq] at h;rcases aD.1 hx with rfl|hx
  .exact h.1
  exact Dt h.2 x hx
abbrev zH (P:ay)(W:aa->Prop)(n:Nat)(ops:Array aC)(mF:List (Nat×af))(l:List aC)(env:Env)(keep:List (Nat×af))(pr:Prop):Prop:=
 (Dm P W n ops mF l env).map (λr=>((keep.map λx=>look r.1 x.1),r.2))=some ((keep.map λx=>some ⟨x.1,[],x.2⟩),pr)
theorem Du {P:ay}{W:aa->Prop}{n:Nat}{ops:Array aC}{mF:List (Nat×af)}{l:List aC}{env:Env}{keep:List (Nat×af)}{pr:Prop}
  (h:zH P W n ops mF l env keep pr):ab9 P W n ops mF l env keep pr:=by
 obtain⟨⟨uH,p⟩,h1,h2⟩:=aX.1 h;simp only[cn] at h2;obtain⟨h2,rfl⟩:=h2;exact⟨uH,h1,Dt h2⟩
theorem nQ {P:ay} {f:bA} (h:(P.funcs[f]?).map (λfn=>((fn.name== "runtime.NumGoroutine")||fn.body.isNone))=some false:=by kernel_rfl):oC P f:=by
 obtain⟨fn,h1,h2⟩:=aX.1 h;simp only[am1] at h2;exact⟨fn,h1,h2.1,h2.2⟩
abbrev MU (v:af)(w:aa):dc->aa->Prop:=λe w'=>e= .returned v/\Below w.heap.size w w'
theorem qL {P:ay}{w:aa}{f:bA}{args:Array af}{v:af}(h:∀w',Below w.heap.size w w'->Calls P f args w' (MU v w')):vu P (On w) f args v:=
 λw' xK=>(h w' xK).mono λe w'' ⟨he,hb⟩=>⟨he,xK.trans (hb.mono xK.size)⟩
theorem afF {a b:ByteArray}(h:(a.toList==b.toList)=true):a=b:=by
 have:=beq_iff_eq.1 h;rw[ByteArray.toList_eq,ByteArray.toList_eq] at this;cases a;cases b
 congr 1
 exact ck this
theorem nT {b:Bool}(h:(!b)=true):b=false:=by simpa using h
theorem nF {b:Bool}(h:(!b)=false):b=true:=by simpa using h
theorem aT {a b:Bool}(h:(a && b)=true):a=true/\b=true:=by simpa using h
theorem aF {a b:Bool}(h:(a && b)=false):a=false\/b=false:=by cases a<;>simp_all
theorem oT {a b:Bool}(h:(a||b)=true):a=true\/b=true:=by simpa using h
theorem oF {a b:Bool}(h:(a||b)=false):a=false/\b=false:=by simpa using h
section
variable {P:ay}{B:Code}{p:List Nat}{Q:oh}{a:Act}{w:aa}
theorem Pa {ops:Array aC}{n:Nat}{env:Env}{w0:Orig}{S:iD}{rs:List o5}(i m:Nat)(mF:List (Nat×af))(keep:List (Nat×af))(pr:Prop)(ha:jH n a env)(H:Fr w0 w S rs)(hp:pr)
  (h:ab9 P (On w) n ops mF ((ops.toList.drop i).take m) env keep pr)
  (k:∀a' w',jH n a' (j8 keep)->Fr w0 w' S rs->Below w.heap.size w w'->wpList P ops Q (ops.toList.drop (i+m)) a' w'):wpList P ops Q (ops.toList.drop i) a w:=
 let⟨_,h1,h2⟩:=h
 ac1 mF keep ha h1 h2 hp λa' w' h1 h2=>k a' w' h1 (H.on h2) h2
theorem mV {ops:Array aC}{n:Nat}{env:Env}{w0:Orig}{S:iD}{rs:List o5}(i m:Nat)(mF:List (Nat×af))(keep:List (Nat×af))(pr:Prop)(ha:jH n a env)(H:Fr w0 w S rs)(hp:pr)
  (k:∀a' w',jH n a' (j8 keep)->Fr w0 w' S rs->Below w.heap.size w w'->wpList P ops Q (ops.toList.drop (i+m)) a' w')
  (h:zH P (On w) n ops mF ((ops.toList.drop i).take m) env keep pr:=by delta zH;kernel_rfl):wpList P ops Q (ops.toList.drop i) a w:=
 Pa i m mF keep pr ha H hp (Du h) k
theorem q_reg {n:Nat}{env:Env}{w0:Orig}{S:iD}{rs:List o5}(mF:List (Nat×af))(keep:List (Nat×af))(pr:Prop)(ha:jH n a env)(H:Fr w0 w S rs)(hp:pr)
  (k:∀a' w',jH n a' (j8 keep)->Fr w0 w' S rs->Below w.heap.size w w'->Q .normal a' w') (hd:AU (sub B p)=some false:=by kernel_rfl)
  (h:zH P (On w) n (opsOf (sub B p)) mF (opsOf (sub B p)).toList env keep pr:=by delta zH;kernel_rfl):(sub B p).wp P Q a w:=by
 refine kV ?_ hd;refine Pa 0 (opsOf (sub B p)).toList.length mF keep pr ha H hp ?_ λa' w' h1 h2 h3=>?_
 .rw[ajM,bU];exact Du h
 exact lX (k a' w' h1 h2 h3) (by simp)
theorem iE {n:Nat}{env:Env}{w0:Orig}{S:iD}{rs:List o5}(keep:List (Nat×af))(ha:jH n a env)(H:Fr w0 w S rs)
 (k:∀a' w',jH n a' (j8 keep)->Fr w0 w' S rs->Below w.heap.size w w'->Q .normal a' w') (hd:AU (sub B p)=some false:=by kernel_rfl)
 (h:zH P (On w) n (opsOf (sub B p)) [] (opsOf (sub B p)).toList env keep True:=by delta zH;kernel_rfl):(sub B p).wp P Q a w:=q_reg [] keep True ha H tv k hd h
abbrev qN (n d:Nat)(env:Env)(keep:List (Nat×af)):Prop:=(decide (d<n),keep.map λx=>(x.1 !=d,look env x.1))=(true,keep.map λx=>(true,some ⟨x.1,[],x.2⟩))
theorem zI {n d:Nat}{v:af}{o:aC}(keep:List (Nat×af)){env:Env}(ha:jH n a env)(nK:o.dst=some d)(hk:qN n d env keep):jH n (a.put o.dst v) (j8 ((d,v)::keep)):=by
 rw[nK];obtain⟨hd,hk⟩:=am2 hk;refine O9 keep ha (aA hd) λy hy=>?_;have:=al3.1 hk y hy;simp only[cn,bne_iff_ne,ne_eq] at this;exact this
theorem jN {n:Nat}{env:Env}(keep:List (Nat×af))(ha:jH n a env)(h:(keep.map λx=>look env x.1)=(keep.map λx=>some ⟨x.1,[],x.2⟩):=by kernel_rfl):jH n a (j8 keep):=
 Ik keep ha (Dt h)
theorem CH {ops:Array aC}{N:Act->aa->Prop}{n:Nat}{env:Env}(i d:Nat)(t:ax)(x:aM)(s:ByteArray){w0:Orig}{S:iD}{rs:List o5}(keep:List (Nat×af))(ha:jH n a env)(H:Fr w0 w S rs)
  (ht:P.underlying t=some .string)
  (k:∀b a' w',Fr w0 w' S (.iter b s 0::rs)->jH n a' (j8 ((d,.pointer (some ⟨b,0,none⟩))::keep))->Below w.heap.size w w'->w.heap.size<=b->N a' w')
  (h:Kj ops i=some (.range t x,some d,none):=by kernel_rfl) (hx:getOp env [] x=some (.string s):=by kernel_rfl) (hk:qN n d env keep:=by delta qN;kernel_rfl):wpOp P ops Q i N a w:=by
 refine Kk h λo ho nK=>?_;have e:(execOp a.eval o).run P w= .ok (.value (.pointer (some ⟨w.heap.size,0,none⟩))) (w.iter s 0):=by
  simp only[execOp,ho,lW ha (λl hl=>by simp at hl) _ _ hx,aO,run_range_string w t s ht];rfl
 unfold Oper.wp;rw[e,akk];exact k w.heap.size _ _ (H.Y2 s) (zI keep ha nK hk) (oO _ _) (az _)
theorem Il {ops:Array aC}{N:Act->aa->Prop}{n:Nat}{env:Env}{w0:Orig}{S:iD}{rs:List o5}(i d:Nat)(x:aM)(j b:Nat)(s:ByteArray)(pos:Nat)(keep:List (Nat×af))(ha:jH n a env)(H:Fr w0 w S rs)
  (hj:rs[j]?=some (.iter b s pos))
  (kt:pos<s.size->∀a' w',Fr w0 w' S (rs.set j (.iter b s (pos+(aH s pos).2)))->jH n a' (j8 ((d,.tuple #[.bool true,.int .i64 pos,.int .i32 (aH s pos).1])::keep))->w.grownBy w' (some b)->N a' w')
  (kf:¬pos<s.size->∀a',jH n a' (j8 ((d,.tuple #[.bool false])::keep))->N a' w)
  (h:Kj ops i=some (.next x true,some d,none):=by kernel_rfl) (hx:getOp env [] x=some (.pointer (some ⟨b,0,none⟩)):=by kernel_rfl) (hk:qN n d env keep:=by delta qN;kernel_rfl):wpOp P ops Q i N a w:=by
 refine Kk h λo ho nK=>?_;have YM:=H.O5 j hj;have afG:∀ {v:af},jH n (a.put o.dst v) (j8 ((d,v)::keep)):=by
  intro v;exact zI keep ha nK hk
 unfold Oper.wp
 by_cases hp:pos<s.size
 .have e:(execOp a.eval o).run P w= .ok (.value (.tuple #[.bool true,.int .i64 pos,.int .i32 (aH s pos).1])) (w.iterAt b s (pos+(aH s pos).2)):=by
   simp only[execOp,ho,lW ha (λl hl=>by simp at hl) _ _ hx,aO,Lib.run_next_any_at w b s pos o.type YM hp];rfl
  rw[e,akk];exact kt hp _ _ (H.next j hj _) afG ⟨rfl,rfl,rfl,by rw[amR];exact az _,λk hk mc=>amS w b k s _ (λe=>mc (by rw[e]))⟩
 have e:(execOp a.eval o).run P w= .ok (.value (.tuple #[.bool false])) w:=by
  simp only[execOp,ho,lW ha (λl hl=>by simp at hl) _ _ hx,aO,Lib.run_next_end_at w b s pos o.type YM hp];rfl
 rw[e,akk];exact kf hp _ afG
end
theorem mG (s:ByteArray)(pos:Nat)(h:pos<s.size):1<=(aH s pos).2:=by
 by_cases ha:(s[pos]'h).toNat<128
 .rw[decode_ascii s pos h ha];exact az _
 exact(decode_high s pos h (by omega)).2
section
variable {P:ay}
theorem zJ {t:ax}{s:ByteArray}{k k':cZ}{l h:Int}(ht:P.underlying t=some .string)(w:aa)(h0:0<=l)(h1:l<=h)(h2:h<=s.size):
  (cA t (.string s) (some (.int k l)) (some (.int k' h)) none).run P w= .ok (.string (s.extract l.toNat h.toNat)) w:=by
 have a:(al4 (.int k' h) s.size .sliceAlen).run P w= .ok h.toNat w:=run_sliceBound _ _ _ _ _ (by omega) h2;have b:(al4 (.int k l) h.toNat .sliceB).run P w= .ok l.toNat w:=run_sliceBound _ _ _ _ _ h0 (by omega);simp[cA,aky,run_underlying ht,akz,a,b]
theorem BR {t:ax}{s:ByteArray}{k:cZ}{l:Int}(ht:P.underlying t=some .string)(w:aa)(h0:0<=l)(h1:l<=s.size):
  (cA t (.string s) (some (.int k l)) none none).run P w= .ok (.string (s.extract l.toNat s.size)) w:=by
 have b:(al4 (.int k l) s.size .sliceB).run P w= .ok l.toNat w:=run_sliceBound _ _ _ _ _ h0 h1;simp[cA,aky,run_underlying ht,akz,b]
theorem Fr.drop {w0:Orig}{w:aa}{S:iD}{rs:List o5}(h:Fr w0 w S rs)(i:Nat):Fr w0 w S (rs.eraseIdx i) where
 below:=h.below
 src:=h.src
 nN:=h.nN
 ok r hr:=h.ok r (am3 hr)
 own r hr:=h.own r (am3 hr)
 nodup:=List.Nodup.sublist ((List.eraseIdx_sublist rs i).filterMap _) h.nodup
theorem Fr.perm {w0:Orig}{w:aa}{S:iD}{rs rs':List o5}(h:Fr w0 w S rs)(hp:rs.Perm rs'):Fr w0 w S rs' where
 below:=h.below
 src:=h.src
 nN:=h.nN
 ok r hr:=h.ok r (hp.mem_iff.2 hr)
 own r hr:=h.own r (hp.mem_iff.2 hr)
 nodup:=(hp.filterMap _).nodup_iff.1 h.nodup
theorem Fr.swap {w0:Orig}{w:aa}{S:iD}{a b:o5}{rs:List o5}(h:Fr w0 w S (a::b::rs)):Fr w0 w S (b::a::rs):=h.perm (am4 b a rs)
theorem Fr.same {w0:Orig}{w:aa}{S:iD}{rs rs':List o5}(h:Fr w0 w S rs)(e:rs=rs'):Fr w0 w S rs':=e▸h
variable {B:Code}{p:List Nat}{Q:oh}{a:Act}{w:aa}
theorem Pb {ops:Array aC}{N:Act->aa->Prop}{n:Nat}{env:Env}{w0:Orig}{S:iD}{rs:List o5}(i d:Nat)(t len:Nat)(parts:Array (Nat×aM))(e:ax)(Ic:List (Nat×af))(cs:List af)(keep:List (Nat×af))(ha:jH n a env)(H:Fr w0 w S rs)
  (k:∀b a' w',Fr w0 w' S (.box b e cs::rs)->jH n a' (j8 ((d,.slice (some ⟨b,0,none⟩) len len)::keep))->Below w.heap.size w w'->w.heap.size<=b->N a' w')
  (h:Kj ops i=some (.buildSlice t len parts,some d,none):=by kernel_rfl) (hv:parts.toList.mapM (λx=>(getOp env [] x.2).map λv=>(x.1,v))=some Ic:=by kernel_rfl)
  (kg:∀w:aa,(am5 t len Ic.toArray).run P w= .ok (.slice (some ⟨w.heap.size,0,none⟩) len len) (w.alloc (.cells cs.toArray e)):=by intro w;kernel_rfl)
  (hk:qN n d env keep:=by delta qN;kernel_rfl):wpOp P ops Q i N a w:=by
 refine Kk h λo ho nK=>?_;have e1:parts.map (λx=>(x.1,a.eval x.2))=Ic.toArray:=by
  have:=Dj (ρ:=a.eval) (λx u hx=>lW ha (λl hl=>by simp at hl) x u hx) parts.toList Ic hv;rw[<-this];apply ck;rw[aj2]
 have e2:(execOp a.eval o).run P w= .ok (.value (.slice (some ⟨w.heap.size,0,none⟩) len len)) (w.alloc (.cells cs.toArray e)):=by
  have:=kg w;rw[<-e1] at this;simp only[execOp,ho,aO];rw[show(Array.map (λx=>match x with|(i,x)=>(i,a.eval x)) parts)=parts.map (λx=>(x.1,a.eval x.2)) from rfl,this];rfl
 unfold Oper.wp;rw[e2,akk];exact k w.heap.size _ _ (H.acV cs e) (zI keep ha nK hk) (oO _ _) (az _)
theorem Im {ops:Array aC}{N:Act->aa->Prop}{n:Nat}{env:Env}{t e:ax}{α:Type}[Data α]{bytes:Nat}{w0:Orig}{S:iD}{rs:List o5}(i d:Nat)(x y:aM)(j q b m c:Nat)(v:af)(l:List α)(news:List α)(cs:List af)(keep:List (Nat×af))(ha:jH n a env)(H:Fr w0 w S rs)
  (E:Dh P t e (Data.size α) bytes)
  (hj:rs[j]?=some (.row e v l)) (hq:rs[q]?=some (.box b e cs)) (nO:jW S w cs news) (hm:m=news.length)
  (hlen:l.length+news.length<=2147483647) (hb:bytes<=1000)
  (k:∀v' a' w',Fr w0 w' S (rs.set j (.row e v' (l++news)))->jH n a' (j8 ((d,v')::keep))->w.grownBy w' v.ownBlock->N a' w')
  (h:Kj ops i=some (.call {callee:=.builtin .append,args:= #[x,y],argTypes:= #[t,t]},some d,none):=by kernel_rfl) (hx:getOp env [] x=some v:=by kernel_rfl) (hy:getOp env [] y=some (.slice (some ⟨b,0,none⟩) m c):=by kernel_rfl)
  (hk:qN n d env keep:=by delta qN;kernel_rfl):wpOp P ops Q i N a w:=by
 subst hm;refine Kk h λo ho nK=>?_;have uG:nc a []:=λl hl=>by simp at hl
 have zK:w.heap[b]?=some (.cells cs.toArray e (0,0)):=H.ok _ (bJ hq);have wQ:∀r u,cs[r]?=some u->w.cell? ((⟨b,0,none⟩:bC).add r)=some u:=by
  intro r u hu;have wO:(⟨b,0,none⟩:bC).add r=⟨b,r,none⟩:=by unfold Addr.add;split<;>simp_all
  rw[wO,cell_of_row _ _ _ _ _ _ zK];simpa using hu
 obtain⟨v',w',hr,hf,hG⟩:=H.push (P:=P) (ty:=o.type) E j hj ⟨b,0,none⟩ c news cs nO wQ (by simp only[maxLen];omega) (by have:=Nat.mul_le_mul hlen hb;omega);unfold Oper.wp execOp;simp only[ho,resolve,invoke,builtin,aO,bz,bV,akB,bn,cr,lW ha uG _ _ hx,lW ha uG _ _ hy,hr];exact k v' _ w' hf (zI keep ha nK hk) hG
end
class Flat (α:Type) extends Data α where
 enc:α->List af
 fix:∀ {S w cs a},toData.rd S w cs a->cs=enc a
instance:Flat Int:={(inferInstance:Data Int) with enc:=λn=>[.int .i64 n],fix:=λh=>h}
instance:Flat Bool:={(inferInstance:Data Bool) with enc:=λn=>[.bool n],fix:=λh=>h}
instance:Flat ByteArray:={(inferInstance:Data ByteArray) with enc:=λn=>[.string n],fix:=λh=>h}
instance {α β:Type} [Flat α] [Flat β]:Flat (α×β):=
 {(inferInstance:Data (α×β)) with
  enc:=λx=>Flat.enc x.1++Flat.enc x.2
  fix:=by rintro S w cs a ⟨c1,c2,rfl,h1,h2⟩;rw[Flat.fix h1,Flat.fix h2]}
theorem Fr.get {α:Type}[Data α]{w0:Orig}{w:aa}{S:iD}{rs:List o5}(h:Fr w0 w S rs)(j:Nat){v:af}{a:α}(hj:rs[j]?=some (.ro v a)):Rd (· <w.heap.size) w v a:=
 Rd.up h.nN (h.ok _ (bJ hj))
theorem Io {α:Type}[Data α]{S:iD}{w:aa}{v:af}{l:List α}(h:Rd S w v l):yF v ((l.length:Nat):Int):=by
 obtain⟨p,c,rfl,_⟩:=jV h;exact⟨p,l.length,c,rfl,rfl⟩
theorem Ip {α:Type}[Data α]{S:iD}{w:aa}{v:af}{l:List α}(h:Rd S w v l){i:Int}(h0:0<=i)(h1:i<(l.length:Int)):yG v i:=by
 obtain⟨g,off,c,cs,rfl,_⟩:=TE (jV h) i.toNat (by omega);exact⟨g,off,l.length,c,rfl,h0,h1⟩
theorem TW {α:Type}[Data α]{w:aa}{v:af}{l:List α}(h:Rd (· <w.heap.size) w v l){i:Int}(h0:0<=i)(h1:i<(l.length:Int))(d:α):
  ∃cs,Data.rd (· <w.heap.size) w cs (l.getD i.toNat d)/\∀j,j<Data.size α->∀w',On w w'->w'.cell? ⟨Fs v,Ft v+i.toNat*Data.size α+j,none⟩=cs[j]?:=by
 obtain⟨p,c,rfl,_,_,h3⟩:=jV h;rcases h3 with rfl|⟨g,off,cur,t,fz,rfl,hg,hw,hc⟩
 .simp at h1;omega
 have hi:i.toNat<l.length:=by omega
 obtain⟨cs,hr,hj⟩:=hc i.toNat hi;refine⟨cs,?_,λj JZ w' xK=>?_⟩
 .rw[aJ,aY hi];exact hr
 show w'.cell? ⟨g,off+i.toNat*Data.size α+j,none⟩=_;rw[cell_of_row w' g _ cur t fz ((xK.block g hg).trans hw)];exact hj j JZ
theorem xL {α:Type}[Flat α]{w:aa}{v:af}{l:List α}(h:Rd (· <w.heap.size) w v l){i:Int}(h0:0<=i)(h1:i<(l.length:Int))(d:α)(j:Nat){u:af}
  (hj:decide (j<Data.size α)=true:=by kernel_rfl) (hu:(Flat.enc (l.getD i.toNat d))[j]?=some u:=by kernel_rfl):qh (On w) (Fs v) (Ft v+i.toNat*Data.size α+j) u:=by
 obtain⟨cs,hr,hc⟩:=TW h h0 h1 d;intro w' xK;rw[hc j (aA hj) w' xK,Flat.fix hr,hu]
abbrev Fv (o:Orig)(R:iD->af->aa->Prop):dc->aa->Prop:=λe w'=> ∃v,e= .returned v/\R (wg o w') v w'/\Below o.w.heap.size o.w w'
section
variable {P:ay}{Q:oh}{a:Act}{w:aa}
theorem ac2 {ops:Array aC}{N:Act->aa->Prop}{n:Nat}{env:Env}{w0:Orig}{S:iD}{rs:List o5}(i d:Nat)(f:bA)(args:Array aM)(Y4:Array ax)(us:List af)(R:iD->af->aa->Prop)(keep:List (Nat×af))(ha:jH n a env)(H:Fr w0 w S rs)
  (hc:Calls P f us.toArray w (Fv H.at R))
  (k:∀v a' w' S,R S v w'->Fr w0 w' S rs->jH n a' (j8 ((d,v)::keep))->Below w.heap.size w w'->N a' w')
  (h:Kj ops i=some (.call {callee:=.value (.func f),args:=args,argTypes:=Y4},some d,none):=by kernel_rfl) (kW:(args.toList.map (getOp env [])).mapM id=some us:=by kernel_rfl) (hf:oC P f:=by exact nQ)
  (hk:qN n d env keep:=by delta qN;kernel_rfl):wpOp P ops Q i N a w:=by
 obtain⟨hd,hk⟩:=am2 hk;refine Ro (first:=[]) (cap:=[]) (R:=λv w'=>R (wg H.at w') v w'/\Below w.heap.size w w') keep ha h (aA hd) rfl kW (λy hy=>?_) hf (by simpa using hc) λv a' w' hR Tn=>?_
 .have:=al3.1 hk y hy;simp only[cn,bne_iff_ne,ne_eq] at this;exact this
 exact k v a' w' _ hR.1 (H.call hR.2) Tn hR.2
end
open Go.ChangeAt Go.ChangeShapes Go.WideShapes
theorem Tryz.own:ownKnob Tryz.prog.godebug=none:=by kernel_rfl
theorem Tryz.laidOut:laidOutB aq=true:=by kernel_rfl
theorem FD {H:Type}{enc:ax×af->H}{P:ay}{f:Func}{s:ChangeSpec}{apart fresh handsOn:Bool}{W W':aa}{args:Array af}{v:af}{ds gs:List (DataW H)}{before pa pv:List MemPlace}
  (hW:DataW.Whole enc P f.params.toList s.vars apart W args.toList ds gs before)
  (vw:∀(b:Nat) (sp:Nat->Bool) (hd:Bool),am6 enc P W' b sp hd f.resultTypes.toList (v.resultList f.resultTypes.size) (s.fn H (ds++gs)).results [])
  (kW:am6 enc P W' 0 (λb=>decide (b<W.heap.size)) true f.params.toList args.toList (s.fn H (ds++gs)).args pa)
  (afH:DataW.TrodVars enc P W' (λb=>decide (b<W.heap.size)) s.vars (s.fn H (ds++gs)).vars pv)
  (Kl:before=pa++pv) (hb:Below W.heap.size W W'):s.post enc P f apart fresh handsOn false W args v W':=by
 refine⟨ds,gs,before,[],pa,pv,hW,vw _ _ _,kW,afH,World.keptBut_mono (λp hp=>⟨hp,?_⟩) (hb.frame (· ∈before)),λh=>by cases h⟩;rw[Kl,aK] at hp;exact Or.inr hp
theorem wf_i64 {n:Int}(h:(akC .i64 n).wf=true): -9223372036854775808<=n/\n<=9223372036854775807:=by
 simpa[Lit.wf,alo,akN,alX,alY] using h
theorem ac3 {P:ay}{Y4:Array ax}{k:cZ}{a b:Int}(ty:ax)(w:aa):(alh Y4 ty [.int k a,.int k b].toArray).run P w= .ok (.int k (max a b)) w:=by
 have e:(if b>a then b else a)=max a b:=by split<;>omega
 simp[alh,Builtin.max2,e]
theorem ac4 {P:ay}{Y4:Array ax}{k:cZ}{a b:Int}(ty:ax)(w:aa):(ali Y4 ty [.int k a,.int k b].toArray).run P w= .ok (.int k (min a b)) w:=by
 have e:(if b<a then b else a)=min a b:=by split<;>omega
 simp[ali,Builtin.min2,e]
theorem Y5 {a:Int}{n:Nat}(h:1<=n):0<=(1:Int)/\a.fdiv (2 ^ (min (1:Int).toNat n))=a/2:=by
 refine⟨by decide,?_⟩;rw[show min (1:Int).toNat n=1 by omega];exact Int.fdiv_eq_ediv_of_nonneg a (by decide)
theorem ac5 {w:aa}{o:Orig}{S:iD}{rs:List o5}(H:Fr o w S rs)(j:Nat){b:Nat}{t:ax}{vs:List af}(hj:rs[j]?=some (.box b t vs)):
  ∀w',On w w'->w'.heap[b]?=some (.cells vs.toArray t (0,0)):=by
 intro w' xK;have h:w.heap[b]?=some (.cells vs.toArray t (0,0)):=H.ok _ (bJ hj);rw[xK.block b (H.own _ (bJ hj) b rfl).2.1];exact h
theorem zL {w:aa}{o:Orig}{S:iD}{rs:List o5}(H:Fr o w S rs)(j:Nat){b:Nat}{t:ax}{vs:List af}(hj:rs[j]?=some (.box b t vs))(i:Nat){u:af}(hu:vs[i]?=some u:=by kernel_rfl):qh (On w) b i u:=by
 intro w' xK;rw[cell_of_row w' b i _ t _ (ac5 H j hj w' xK)];simpa using hu
section
variable {P:ay}{Q:oh}{a:Act}{w:aa}
theorem wj (w:aa)(t e:ax)(b o:Nat)(vs us:List af)(u:af)(hb:w.heap[b]?=some (.cells vs.toArray e (0,0)))(hc:u.cells.toList=us)(ho:o+us.length<=vs.length)
  (mu:(P.info? t).map (·.size)=some us.length) (h1:∀v∈us,v.oneCell'=true):
  (alp t (.pointer (some ⟨b,o,none⟩)) u).run P w= .ok () (w.setRow b (vs.take o++us++vs.drop (o+us.length)).toArray):=by
 obtain⟨i,hi,hs⟩:=aX.1 mu;have kF:u.cells.size=us.length:=by rw[<-hc,cw]
 have Pd:P.cellsOf t=us.length:=by simp[akO,hi,hs]
 have:=run_storeCells_at (P:=P) b o e us 0 vs.toArray w hb (by simpa using ho) h1;simp only[akl] at this;simp only[alp,akP,storeVar,aO,bz,bV,run_sizeOf w hi,hs,kF,Pd,ne_eq,not_true_eq_false,if_false,hc];exact this
end
def But (w:aa)(m:Option Nat)(w':aa):Prop:=w.heap.size<=w'.heap.size/\∀k,k<w.heap.size->some k≠m->w'.heap[k]?=w.heap[k]?
theorem But.refl (w:aa)(m:Option Nat):But w m w:=⟨az _,λ_ _ _=>rfl⟩
theorem But.below {w w1 w2:aa}{m:Option Nat}(h:But w m w1)(hb:Below w1.heap.size w1 w2):But w m w2:=
 ⟨bg h.1 hb.size,λk hk hm=>(hb.block k (bh hk h.1)).trans (h.2 k hk hm)⟩
section
variable {P:ay}{ops:Array aC}{Q:Exit->Act->aa->Prop}{D:aa->Prop}
def Mix (P:ay)(ops:Array aC)(Q:Exit->Act->aa->Prop)(D:aa->Prop)(hd:List Nat):Nat->Array Bool->Act->aa->Prop
 |0,listed,a,w=>akV .any ops listed=[]/\Q .normal a w
 |n+1,listed,a,w=>(akV .any ops listed=[]->Q .normal a w)/\
  ∀i∈akV .any ops listed,wpOp P ops Q i (λa' w'=>(i∈hd->D w')/\Mix P ops Q D hd n (listed.setIfInBounds i true) a' w') a w
theorem Mix.any {hd:List Nat}:∀(n:Nat) (listed:Array Bool) (a:Act) (w:aa),Mix P ops Q D hd n listed a w->wpAny P .any ops Q n listed a w
 |0,_,_,_,h=>h
 |n+1,_,_,_,h=>⟨h.1,λi hi=>wpOp_mono (λa' w' q=>Mix.any n _ a' w' q.2) (h.2 i hi)⟩
end
section
variable {P:ay}{B:Code}{p:List Nat}{Q:Exit->Act->aa->Prop}{a:Act}{w:aa}
end
abbrev Old (o:Orig)(S:iD):iD:=λk=>k<o.w.heap.size\/S k
theorem Fr.old {o:Orig}{w:aa}{S:iD}{rs:List o5}(H:Fr o w S rs){k:Nat}(h:Old o S k):k<w.heap.size:=by
 rcases h with h|h
 .exact bh h H.below.size
 exact H.nN k h
theorem Ge {α:Type}[Data α]{T:iD}{C:aa->Prop}{w:aa}{v:af}{l:List α}(hC:∀w',C w'->kU T w w')(h:Rd T w v l){i:Int}(h0:0<=i)(h1:i<(l.length:Int))(d:α):
  ∃cs,Data.rd T w cs (l.getD i.toNat d)/\∀j,j<Data.size α->∀w',C w'->w'.cell? ⟨Fs v,Ft v+i.toNat*Data.size α+j,none⟩=cs[j]?:=by
 obtain⟨p,c,rfl,_,_,h3⟩:=jV h;rcases h3 with rfl|⟨g,off,cur,t,fz,rfl,hg,hw,hc⟩
 .simp at h1;omega
 have hi:i.toNat<l.length:=by omega
 obtain⟨cs,hr,hj⟩:=hc i.toNat hi;refine⟨cs,?_,λj JZ w' xK=>?_⟩
 .rw[aJ,aY hi];exact hr
 show w'.cell? ⟨g,off+i.toNat*Data.size α+j,none⟩=_;rw[cell_of_row w' g _ cur t fz ((hC w' xK g hg).trans hw)];exact hj j JZ
section
variable {P:ay}{Q:Exit->Act->aa->Prop}{a:Act}{w:aa}
end
section
variable {P:ay}{Q:oh}{a:Act}{w:aa}
end
theorem Nb {α:Type}[Data α]{S:iD}{w:aa}:Rd S w (.slice none 0 0) ([]:List α):=
 qc ⟨none,0,rfl,by simp,by simp[maxLen],.inl rfl⟩
section
variable {P:ay}{Q:oh}{a:Act}{w:aa}
end
def pU (P:ay)(t:ax){α:Type}[Data α](ok:α->Prop):Prop:=
 ∀ {H:Type} {enc:ax×af->H} {w:aa} {base:Nat} {sp:Nat->Bool} {hd:Bool} {fuel:Nat} {cs:List af} {x:DataW H×List MemPlace},
  DataW.trod enc P w base sp hd fuel t cs=some x->∃a:α,Data.rd (· <w.heap.size) w cs a/\ok a
def afI (n:Int):Prop:= -9223372036854775808<=n/\n<=9223372036854775807
theorem pV {P:ay}{t:ax}(ht:P.underlying t=some (.int .i64)):pU P t afI:=by
 intro H enc w base sp hd fuel cs x h;obtain⟨n,rfl,_,hw⟩:=am7 ht h;exact⟨n,rfl,wf_i64 hw⟩
theorem Dv {P:ay}{t:ax}{f0 f1:Field}{α β:Type}[Data α][Data β]{ok0:α->Prop}{ok1:β->Prop}(ht:P.underlying t=some (.struct #[f0,f1]))(h0:pU P f0.type ok0)(h1:pU P f1.type ok1)
  (o0:f0.offset=0) (o1:f1.offset=Data.size α) (c0:P.cellsOf f0.type=Data.size α) (c1:P.cellsOf f1.type=Data.size β) (ct:P.cellsOf t=Data.size α+Data.size β):pU P t (α:=α×β) λx=>ok0 x.1/\ok1 x.2:=by
 intro H enc w base sp hd fuel cs x h;obtain⟨xs,n,_,_,kF,To,hf⟩:=al5 ht h
 match xs,To with
 |[y0,y1],_=>
  have g0:=hf 0 f0 rfl;have g1:=hf 1 f1 rfl;rw[o0,c0,ajM] at g0;rw[o1,c1] at g1;obtain⟨a,ra,ka⟩:=h0 (x:=y0) g0;obtain⟨b,rb,kb⟩:=h1 (x:=y1) g1;refine⟨(a,b),⟨_,_,?_,ra,rb⟩,ka,kb⟩;have e1:(cs.drop (Data.size α)).take (Data.size β)=cs.drop (Data.size α):=cM (by rw[bu,kF,ct];omega);rw[e1,dB]
theorem nR {P:ay}{t e:ax}{α:Type}[Data α]{ok:α->Prop}(ht:P.underlying t=some (.slice e))(h:pU P e ok)(hc:P.cellsOf e=Data.size α)(hp:0<Data.size α):pU P t (α:=List α) λl=> ∀a∈l,ok a:=by
 intro H enc w base sp hd fuel cs x hx;rcases Go.Deep.open_slice ht hx with⟨rfl,_⟩|⟨a,len,cap,m,n,D,Pl,rfl,hb,hl,hm,Dw,rfl,hel⟩
 .exact⟨[],⟨_,rfl,none,0,rfl,by simp,by simp[maxLen],.inl rfl⟩,by simp⟩
 have hlm:len<=m:=by rw[Dw];split<;>omega
 have each:∀i:Fin len,∃y:α,∃AO:List af,(∀j,j<Data.size α->w.cell? ((a.add (i.val*Data.size α)).add j)=AO[j]?)/\AO.length=Data.size α/\Data.rd (· <w.heap.size) w AO y/\ok y:=by
  intro i;obtain⟨AO,h1,h2⟩:=hel i.val (by omega);rw[hc] at h1;obtain⟨_,hlen,qF⟩:=World.cells?_some h1;obtain⟨y,ry,ky⟩:=h h2;exact⟨y,AO,qF,hlen,ry,ky⟩
 refine⟨List.ofFn λi=>al0 (each i),⟨_,rfl,some a,cap,by rw[al6],by rw[al6];exact hl,hm,?_⟩,λy hy=>?_⟩
 .by_cases h0:len=0
  .left;subst h0;rfl
  right;obtain⟨cs0,k1,k2,_⟩:=akS (each ⟨0,by omega⟩);have k0:=k1 0 hp;rw[Go.Deep.add_add,aY (by omega)] at k0;have e0:a.add (0*Data.size α+0)=a:=by simp[Addr.add]
  simp only[e0] at k0;obtain⟨g,off,spot⟩:=a;unfold World.cell? at k0;simp only at k0;split at k0
  .rename_i cur ty fz TX;split at k0
   .cases k0
   rename_i hs;have MV:spot=none:=by cases spot<;>simp_all
   subst MV;refine⟨g,off,cur,ty,fz,rfl,(cJ.1 TX).1,TX,λi hi=>?_⟩;rw[al6] at hi;obtain⟨AO,k1,k2,k3,_⟩:=akS (each ⟨i,hi⟩);refine⟨AO,by rw[List.getElem_ofFn];exact k3,λj hj=>?_⟩;rw[<-k1 j hj,Go.Deep.add_add];have wO:(⟨g,off,none⟩:bC).add (i*Data.size α+j)=⟨g,off+(i*Data.size α+j),none⟩:=by unfold Addr.add;split<;>simp_all
   rw[wO,cell_of_row w g _ cur ty fz TX,dM]
  cases k0
 obtain⟨i,rfl⟩:=List.mem_ofFn.1 hy;obtain⟨AO,_,_,_,k4⟩:=akS (each i);exact k4
theorem Nc {P:ay}{t:ax}{fs:Array Field}{α:Type}[Data α]{ok:α->Prop}(ho:pU P t ok)(ht:P.underlying t=some (.struct fs)){H:Type}{enc:ax×af->H}{W:aa}{b0:Nat}{sp:Nat->Bool}{hd:Bool}{v:af}{d:DataW H}{ps:List MemPlace}
  (yU:al7 P W .any b0 t v) (h:al8 enc P W 0 sp hd t v d ps):∃(cs:List af) (a:α),v= .agg cs.toArray/\Data.rd (· <W.heap.size) W cs a/\ok a:=by
 obtain⟨cs,rfl,_⟩:=okWide_struct ht yU;have⟨fuel,hx⟩:=h;obtain⟨a,ha,hk⟩:=ho hx;exact⟨cs.toList,a,rfl,ha,hk⟩
theorem Y6 {P:ay}{t:ax}(ht:P.underlying t=some (.int .i64)){H:Type}{enc:ax×af->H}{W:aa}{b0:Nat}{sp:Nat->Bool}{hd:Bool}{v:af}{d:DataW H}{ps:List MemPlace}
  (yU:al7 P W .any b0 t v) (h:al8 enc P W 0 sp hd t v d ps):∃n:Int,v= .int .i64 n/\afI n:=by
 obtain⟨n,rfl⟩:=okWide_int ht yU;have⟨fuel,hx⟩:=h;obtain⟨m,h1,_,hw⟩:=am7 ht hx;simp[Value.cells] at h1;subst h1;exact⟨n,rfl,wf_i64 hw⟩
section
variable {H:Type}{enc:ax×af->H}{P:ay}{w:aa}{base:Nat}{spare:Nat->Bool}{held:Bool}
end
theorem Y7 {P:ay}{t:ax}{fs:Array Field}{α:Type}[Data α]{ok:α->Prop}(ho:pU P t ok)(ht:P.underlying t=some (.struct fs))(ha:Data.isAgg α=true){H:Type}{enc:ax×af->H}{W:aa}{b0:Nat}{sp:Nat->Bool}{hd:Bool}{v:af}{d:DataW H}{ps:List MemPlace}
  (yU:al7 P W .any b0 t v) (h:al8 enc P W 0 sp hd t v d ps):∃a:α,Rd (· <W.heap.size) W v a/\ok a:=by
 obtain⟨cs,a,rfl,hr,hk⟩:=Nc ho ht yU h;exact⟨a,⟨cs,hr,by rw[ak ha]⟩,hk⟩
theorem Km (cs:List af)(a b:Nat):cs.drop a=(cs.drop a).take b++cs.drop (a+b):=by rw[<-akT,dB]
theorem Gf {P:ay}{t:ax}(ht:P.underlying t=some .string):pU P t (α:=ByteArray) λ_=>True:=by
 intro H enc w base sp hd fuel cs x h;obtain⟨s,rfl,_,_⟩:=DataW.trod_string ht h;exact⟨s,rfl,tv⟩
theorem Nd {P:ay}{t:ax}{f0 f1 f2 f3:Field}{α β γ δ:Type}[Data α][Data β][Data γ][Data δ]{ok0:α->Prop}{ok1:β->Prop}{ok2:γ->Prop}{ok3:δ->Prop}(ht:P.underlying t=some (.struct #[f0,f1,f2,f3]))(h0:pU P f0.type ok0)(h1:pU P f1.type ok1)(h2:pU P f2.type ok2)(h3:pU P f3.type ok3)
  (o0:f0.offset=0) (o1:f1.offset=Data.size α) (o2:f2.offset=Data.size α+Data.size β) (o3:f3.offset=Data.size α+Data.size β+Data.size γ) (c0:P.cellsOf f0.type=Data.size α) (c1:P.cellsOf f1.type=Data.size β) (c2:P.cellsOf f2.type=Data.size γ) (c3:P.cellsOf f3.type=Data.size δ)
  (ct:P.cellsOf t=Data.size α+Data.size β+Data.size γ+Data.size δ):pU P t (α:=α×(β×(γ×δ))) λx=>ok0 x.1/\ok1 x.2.1/\ok2 x.2.2.1/\ok3 x.2.2.2:=by
 intro H enc w base sp hd fuel cs x h;obtain⟨xs,n,_,_,kF,To,hf⟩:=al5 ht h
 match xs,To with
 |[y0,y1,y2,y3],_=>
  have g0:=hf 0 f0 rfl;have g1:=hf 1 f1 rfl;have g2:=hf 2 f2 rfl;have g3:=hf 3 f3 rfl;rw[o0,c0,ajM] at g0;rw[o1,c1] at g1;rw[o2,c2] at g2;rw[o3,c3] at g3;obtain⟨a,ra,ka⟩:=h0 (x:=y0) g0;obtain⟨b,rb,kb⟩:=h1 (x:=y1) g1;obtain⟨c,rc,kc⟩:=h2 (x:=y2) g2;obtain⟨d,rd,kd⟩:=h3 (x:=y3) g3;refine⟨(a,b,c,d),⟨_,cs.drop (Data.size α),(dB _ _).symm,ra,⟨_,cs.drop (Data.size α+Data.size β),?_,rb,⟨_,_,?_,rc,rd⟩⟩⟩,ka,kb,kc,kd⟩
  .exact Km _ _ _
  have e1:(cs.drop (Data.size α+Data.size β+Data.size γ)).take (Data.size δ)=cs.drop (Data.size α+Data.size β+Data.size γ):=cM (by rw[bu,kF,ct];omega);rw[e1];exact Km _ _ _
theorem Nf {P:ay}{t:ax}{f0 f1 f2 f3 f4:Field}{α β γ δ ε:Type}[Data α][Data β][Data γ][Data δ][Data ε]{ok0:α->Prop}{ok1:β->Prop}{ok2:γ->Prop}{ok3:δ->Prop}{ok4:ε->Prop}(ht:P.underlying t=some (.struct #[f0,f1,f2,f3,f4]))(h0:pU P f0.type ok0)(h1:pU P f1.type ok1)(h2:pU P f2.type ok2)(h3:pU P f3.type ok3)(h4:pU P f4.type ok4)
  (o0:f0.offset=0) (o1:f1.offset=Data.size α) (o2:f2.offset=Data.size α+Data.size β) (o3:f3.offset=Data.size α+Data.size β+Data.size γ) (o4:f4.offset=Data.size α+Data.size β+Data.size γ+Data.size δ) (c0:P.cellsOf f0.type=Data.size α) (c1:P.cellsOf f1.type=Data.size β) (c2:P.cellsOf f2.type=Data.size γ) (c3:P.cellsOf f3.type=Data.size δ) (c4:P.cellsOf f4.type=Data.size ε)
  (ct:P.cellsOf t=Data.size α+Data.size β+Data.size γ+Data.size δ+Data.size ε):pU P t (α:=α×(β×(γ×(δ×ε)))) λx=>ok0 x.1/\ok1 x.2.1/\ok2 x.2.2.1/\ok3 x.2.2.2.1/\ok4 x.2.2.2.2:=by
 intro H enc w base sp hd fuel cs x h;obtain⟨xs,n,_,_,kF,To,hf⟩:=al5 ht h
 match xs,To with
 |[y0,y1,y2,y3,y4],_=>
  have g0:=hf 0 f0 rfl;have g1:=hf 1 f1 rfl;have g2:=hf 2 f2 rfl;have g3:=hf 3 f3 rfl;have g4:=hf 4 f4 rfl;rw[o0,c0,ajM] at g0;rw[o1,c1] at g1;rw[o2,c2] at g2;rw[o3,c3] at g3;rw[o4,c4] at g4;obtain⟨a,ra,ka⟩:=h0 (x:=y0) g0;obtain⟨b,rb,kb⟩:=h1 (x:=y1) g1;obtain⟨c,rc,kc⟩:=h2 (x:=y2) g2;obtain⟨d,rd,kd⟩:=h3 (x:=y3) g3;obtain⟨e,re,ke⟩:=h4 (x:=y4) g4;refine⟨(a,b,c,d,e),⟨_,cs.drop (Data.size α),(dB _ _).symm,ra,⟨_,cs.drop (Data.size α+Data.size β),?_,rb,⟨_,cs.drop (Data.size α+Data.size β+Data.size γ),?_,rc,⟨_,_,?_,rd,re⟩⟩⟩⟩,ka,kb,kc,kd,ke⟩
  .exact Km _ _ _
  .exact Km _ _ _
  have e1:(cs.drop (Data.size α+Data.size β+Data.size γ+Data.size δ)).take (Data.size ε)=cs.drop (Data.size α+Data.size β+Data.size γ+Data.size δ):=cM (by rw[bu,kF,ct];omega);rw[e1];exact Km _ _ _
section
variable {P:ay}{Q:Exit->Act->aa->Prop}{a:Act}{w:aa}
end
theorem Kn {P:ay}{fn:Func}{R:dc->aa->Prop}{n:Nat}{env:Env}{a:Act}{w:aa}(ha:jH n a env)(k:R (.returned (.tuple #[])) w)(hr:fn.results= #[]:=by kernel_rfl):bodyPost P fn R .ret a w:=by
 refine bodyPost_ret (v:=.tuple #[]) ?_ ha.2.1 k;simp[results,hr]
theorem AX {P:ay}{fn:Func}{R:dc->aa->Prop}{n:Nat}{env:Env}{a:Act}{w:aa}(ha:jH n a env)(k:R (.returned (.tuple #[])) w)(hr:fn.results= #[]:=by kernel_rfl):bodyPost P fn R .normal a w:=by
 have:=Kn (P:=P) ha k hr;exact this
def Rv (v:af):Option (DataW af×List MemPlace):=some (.held v,[])
def wfI (x:Int):Prop:= -9223372036854775808<=x/\x<=9223372036854775807
theorem afJ {x:Int}(h:wfI x):(akC .i64 x).wf=true:=by
 have:=h.1;have:=h.2;simp only[Lit.wf,alo,akN,alX,alY];simp;omega
section
variable {P:ay}{B:Code}{p:List Nat}{Q:oh}{a:Act}{w:aa}
end
section
variable {P:ay}{Q:Exit->Act->aa->Prop}{a:Act}{w:aa}
end
structure Raw where
 v:af
instance:Data Raw where
 size:=1
 isAgg:=false
 rd _ _ cs x:=cs=[x.v]/\x.v.oneCell'=true
 len h:=by rw[h.1];rfl
 up _ h:=h
 keep _ h:=h
 one h u hu:=by rw[h.1] at hu;simp at hu;subst hu;exact h.2
section
variable {P:ay}{o:Orig}{w:aa}{S:iD}{rs:List o5}{kt et t:ax}
end
section
variable {P:ay}{Q:Exit->Act->aa->Prop}{a:Act}{w:aa}
end
section
variable {P:ay}{Q:Exit->Act->aa->Prop}{a:Act}{w:aa}
end
section
variable {P:ay}{Q:oh}{a:Act}{w:aa}
end
def ac6 (w:aa)(ms:List Nat)(w':aa):Prop:=w.heap.size<=w'.heap.size/\∀k,k<w.heap.size->k∉ms->w'.heap[k]?=w.heap[k]?
theorem ac6.below {w w1 w2:aa}{ms:List Nat}(h:ac6 w ms w1)(hb:Below w1.heap.size w1 w2):ac6 w ms w2:=
 ⟨bg h.1 hb.size,λk hk hm=>(hb.block k (bh hk h.1)).trans (h.2 k hk hm)⟩
inductive Kc where
 |int
 |str
def jG:Kc->Type
 | .int=>Int
 | .str=>ByteArray
instance aju:(k:Kc)->DecidableEq (jG k)
 | .int=>(inferInstance:DecidableEq Int)
 | .str=>(inferInstance:DecidableEq ByteArray)
def nL:(k:Kc)->jG k->af
 | .int,n=>.int .i64 n
 | .str,s=>.string s
def lu:(k:Kc)->jG k->Lit
 | .int,n=>.int .i64 n
 | .str,s=>.string s.data.toList
def o9:Kc->TypeDesc
 | .int=>.int .i64
 | .str=>.string
def mR:(k:Kc)->jG k->Prop
 | .int,n=>wfI n
 | .str,s=>ByteArray.size s<=maxLen
def ilt (a b:Int):Bool:=decide (a<b)
def afK:(k:Kc)->jG k->jG k->Bool
 | .int,a,b=>ilt a b
 | .str,a,b=>bytesBefore a.data.toList b.data.toList
theorem TY:∀(k:Kc) (a b:jG k),(lu k a).before (lu k b)=afK k a b
 | .int,_,_=>rfl
 | .str,_,_=>rfl
theorem Ko:∀(k:Kc) {a b:jG k},lu k a=lu k b->a=b
 | .int,a,b,h=>by cases h;rfl
 | .str,a,b,h=>by
  have h:ana a.data.toList= .string b.data.toList:=h;have h2:=aod h;obtain⟨⟨a⟩⟩:=a;obtain⟨⟨b⟩⟩:=b;have h2:a=b:=h2;subst h2;rfl
theorem xM (k:Kc)(a b:jG k):(lu k a).sameKey (lu k b)=decide (a=b):=by
 by_cases e:a=b
 .subst e;rw[bB rfl];cases k
  .have h:∀n:Int,(akC .i64 n).sameKey (.int .i64 n)=true:=λn=>by simp[Lit.sameKey]
   exact h a
  exact beq_self_eq_true _
 rw[bQ e];exact anb.2 λq=>e (Ko k (WideAt.sameKey_eq q))
def FE:Kc->af->Option Lit
 | .int,.int q n=>if q= .i64/\(akC .i64 n).wf=true then some (.int .i64 n) else none
 | .str,.string s=>if s.size<=maxLen then some (.string s.data.toList) else none
 |_,_=>none
section
variable {P P':ay}{kt J1 et t:ax}{k:Kc}
theorem xN (h:P.underlying kt=some (o9 k)):keyOf P kt=FE k:=by
 funext v;cases k
 .have h:P.underlying kt=some (.int .i64):=h;cases v<;>simp[keyOf,mapKey,h,FE]
 have h:P.underlying kt=some .string:=h;cases v<;>simp[keyOf,mapKey,h,FE]
theorem vz (h:P.underlying kt=some (o9 k)):Maps.Keyed P kt:=by
 cases k
 .exact Maps.int_keyed h
 exact Maps.string_keyed h
theorem vA (h:P.underlying kt=some (o9 k)){x:jG k}(hw:mR k x):keyOf P kt (nL k x)=some (lu k x):=by
 rw[xN h];cases k
 .have h:∀n:Int,wfI n->FE .int (.int .i64 n)=some (.int .i64 n):=λn hn=>by unfold FE;exact ak ⟨rfl,afJ hn⟩
  exact h x hw
 have h:∀s:ByteArray,s.size<=maxLen->FE .str (.string s)=some (.string s.data.toList):=λn hn=>by unfold FE;exact ak hn
 exact h x hw
theorem TZ {v:af}{l:Lit}(h:FE k v=some l):∃x:jG k,v=nL k x/\l=lu k x/\mR k x:=by
 cases k
 .have key:∀v:af,FE .int v=some l->∃n:Int,v= .int .i64 n/\l= .int .i64 n/\wfI n:=by
   intro v h;cases v with
   |int q n=>
    have h:(if q= .i64/\(akC .i64 n).wf=true then some (akC .i64 n) else none)=some l:=h;split at h
    .rename_i hq;cases h;obtain⟨rfl,hw⟩:=hq;refine⟨n,rfl,rfl,?_⟩;have hw:(decide (alo .i64<=n) && decide (n<=akN .i64))=true:=hw;simp only[aR,decide_eq_true_eq] at hw;have h1:alo .i64= -9223372036854775808:=by decide
     have h2:akN .i64=9223372036854775807:=by decide
     rw[h1,h2] at hw;exact hw
    cases h
   |_=>cases h
  exact key v h
 have key:∀v:af,FE .str v=some l->∃s:ByteArray,v= .string s/\l= .string s.data.toList/\s.size<=maxLen:=by
  intro v h;cases v with
  |string s=>
   have h:(if s.size<=maxLen then some (ana s.data.toList) else none)=some l:=h;split at h
   .rename_i hq;cases h;exact⟨s,rfl,rfl,hq⟩
   cases h
  |_=>cases h
 exact key v h
end
section
variable {k:Kc}{α β:Type}
def iI (l:List (jG k×α))(x:jG k):Option α:=(l.find? λp=>decide (p.1=x)).map (·.2)
def sw (l:List (jG k×α))(x:jG k):List (jG k×α):=l.filter λp=>!decide (p.1=x)
def tK (p:jG k×α):List (jG k×α)->List (jG k×α)
 |[]=>[p]
 |y::r=>if afK k p.1 y.1 then p::y::r else y::tK p r
def nu (l:List (jG k×α))(x:jG k)(v:α):List (jG k×α):=tK (x,v) (sw l x)
def rW (l:List (jG k×af)):DataW af:=.map (l.map λp=>(lu k p.1,.held p.2))
theorem Kq (p:jG k×af):∀l:List (jG k×af),(tK p l).map (λp=>(lu k p.1,aj4 p.2))=al9 (lu k p.1,.held p.2) (l.map λp=>(lu k p.1,aj4 p.2))
 |[]=>rfl
 |y::r=>by
  simp only[tK,bn,al9,TY];split
  .rfl
  rw[bn,Kq p r]
theorem Pe (l:List (jG k×af))(x:jG k):(rW l).del (lu k x)=rW (sw l x):=by
 unfold rW DataW.del sw;simp only[anc]
 congr 2
 refine List.filter_congr λp _=>?_;simp only[Function.comp_apply,xM]
theorem Y8 (l:List (jG k×af))(x:jG k)(v:af):(rW l).put (lu k x) (.held v)=rW (nu l x v):=by
 have h:(rW l).put (lu k x) (.held v)= .map (al9 (lu k x,.held v) ((l.map λp=>(lu k p.1,aj4 p.2)).filter λp=>!p.1.sameKey (lu k x))):=rfl;have h2:(rW l).del (lu k x)= .map ((l.map λp=>(lu k p.1,aj4 p.2)).filter λp=>!p.1.sameKey (lu k x)):=rfl;rw[Pe] at h2;have h3:=aoe h2;rw[h,<-h3];exact aL DataW.map (Kq (x,v) (sw l x)).symm
theorem Ng (l:List (jG k×af))(x:jG k)(z:DataW af):(rW l).atKey (lu k x) z=match iI l x with|some v=>.held v|none=>z:=by
 unfold rW iI DataW.atKey;simp only[ane];have:((λp:Lit×DataW af=>p.1.sameKey (lu k x))∘λp:jG k×af=>(lu k p.1,aj4 p.2))=λp=>decide (p.1=x):=by
  funext p;exact xM k _ _
 rw[this];cases l.find? λp=>decide (p.1=x)<;>rfl
theorem Pf (l:List (jG k×af))(x:jG k):anf (rW l) (lu k x)=(iI l x).isSome:=by
 unfold rW iI anf;simp only[List.any_map,Option.isSome_map,List.find?_isSome];rw[Bool.eq_iff_iff];simp[xM]
theorem Dx (p:jG k×α):∀l:List (jG k×α),(tK p l).length=l.length+1
 |[]=>rfl
 |y::r=>by unfold tK;split<;>simp[Dx p r]
theorem uI (l:List (jG k×α))(x:jG k)(v:α):(nu l x v).length<=l.length+1:=by
 unfold nu sw;rw[Dx];exact Nat.succ_le_succ (akW _ _)
theorem T0 (l:List (jG k×α))(x:jG k):(sw l x).length<=l.length:=akW _ _
theorem Kr (f:α->β)(p:jG k×α):∀l:List (jG k×α),(tK p l).map (λq=>(q.1,f q.2))=tK (p.1,f p.2) (l.map λq=>(q.1,f q.2))
 |[]=>rfl
 |y::r=>by
  simp only[tK,bn];split;· rfl
  .rw[bn,Kr f p r]
theorem Dy (f:α->β)(l:List (jG k×α))(x:jG k):(sw l x).map (λq=>(q.1,f q.2))=sw (l.map λq=>(q.1,f q.2)) x:=by
 unfold sw;rw[anc];rfl
theorem rC (f:α->β)(l:List (jG k×α))(x:jG k)(v:α):(nu l x v).map (λq=>(q.1,f q.2))=nu (l.map λq=>(q.1,f q.2)) x (f v):=by
 unfold nu;rw[Kr,Dy]
theorem nA (f:α->β)(l:List (jG k×α))(x:jG k):iI (l.map λq=>(q.1,f q.2)) x=(iI l x).map f:=by
 unfold iI;rw[ane];show ang _ (ang _ (l.find? λp=>decide (p.1=x)))=_;cases l.find? λp=>decide (p.1=x)<;>rfl
theorem Dz {p q:jG k×α}:∀ {l:List (jG k×α)},q∈tK p l↔q=p\/q∈l
 |[]=>by simp[tK]
 |y::r=>by
  unfold tK;split
  .simp
  simp only[aD,Dz (l:=r)];constructor
  .rintro(h|h|h)
   .exact .inr (.inl h)
   .exact .inl h
   exact .inr (.inr h)
  rintro(h|h|h)
  .exact .inr (.inl h)
  .exact .inl h
  exact .inr (.inr h)
theorem wR {l:List (jG k×α)}{x:jG k}{v:α}{q:jG k×α}:q∈nu l x v↔q=(x,v)\/q∈l/\q.1≠x:=by
 unfold nu sw;rw[Dz];simp
theorem pW {l:List (jG k×α)}{x:jG k}{v:α}(h:iI l x=some v):(x,v)∈l:=by
 unfold iI at h;obtain⟨p,h1,h2⟩:=aX.1 h;have:=alk h1;have e:p.1=x:=by simpa using this
 subst e;subst h2;exact amY h1
theorem yV {l:List (jG k×α)}{x:jG k}:iI l x=none↔∀v,(x,v)∉l:=by
 unfold iI;rw[akQ,List.find?_eq_none];constructor
 .intro h v hm;have:=h _ hm;simp at this
 intro h p hp q;have e:p.1=x:=by simpa using q
 exact h p.2 (by rw[<-e];exact hp)
theorem Gg (p:jG k×α)(x:jG k):∀l:List (jG k×α),(∀q∈l,q.1≠p.1)->iI (tK p l) x=if p.1=x then some p.2 else iI l x
 |[],_=>by unfold iI tK;by_cases e:p.1=x<;>simp[e]
 |y::r,h=>by
  have ih:=Gg p x r λq hq=>h q (List.mem_cons_of_mem _ hq);unfold tK;split
  .unfold iI
   by_cases e:p.1=x
   .simp[e]
   simp[List.find?_cons,e]
  by_cases e2:y.1=x
  .have mc:p.1≠x:=λe=>h y (by simp) (e2.trans e.symm);rw[ah mc];unfold iI;simp[List.find?_cons,e2]
  have s1:iI (y::tK p r) x=iI (tK p r) x:=by unfold iI;simp[List.find?_cons,e2]
  have s2:iI (y::r) x=iI r x:=by unfold iI;simp[List.find?_cons,e2]
  rw[s1,s2,ih]
theorem Gh (l:List (jG k×α))(y x:jG k):iI (sw l y) x=if y=x then none else iI l x:=by
 by_cases e:y=x
 .rw[ak e,yV];intro v hm;unfold sw at hm;have:=(List.mem_filter.1 hm).2;simp[e] at this
 rw[ah e];unfold iI sw;rw[List.find?_filter]
 congr 2
 funext p
 by_cases q:p.1=x
 .have:¬x=y:=λh=>e h.symm;simp[q,this]
 simp[q]
theorem AY (l:List (jG k×α))(y x:jG k)(v:α):iI (nu l y v) x=if y=x then some v else iI l x:=by
 unfold nu;rw[Gg _ _ _ (λq hq=>by have:=(List.mem_filter.1 hq).2;simpa using this),Gh]
 by_cases e:y=x
 .rw[ak e,ak e]
 rw[ah e,ah e,ah e]
end
def lG (k:Kc)(w:aa)(b:Nat)(l:List (jG k×af)):Prop:=∃P kt,P.underlying kt=some (o9 k)/\w.ownsMap P kt Rv b l.length (rW l)
section
variable {P P':ay}{kt J1 et t:ax}{k:Kc}{w w':aa}{b n:Nat}{l:List (jG k×af)}
theorem Rp (h:keyOf P kt=keyOf P' J1){D:DataW af}(ho:w.ownsMap P kt Rv b n D):w.ownsMap P' J1 Rv b n D:=by
 have⟨es,clock,hb,F,hs,hD⟩:=ho;have nO:WideElems.rd P kt Rv=WideElems.rd P' J1 Rv:=by
  funext x;unfold WideElems.rd;rw[h]
 have hrg:WideElems.rg P kt Rv=WideElems.rg P' J1 Rv:=by
  funext x;unfold WideElems.rg;rw[nO]
 exact⟨es,clock,hb,⟨F.size,F.stamped,by rw[<-nO];exact F.reads⟩,hs,by rw[<-hrg];exact hD⟩
theorem T1 {D:DataW af}(ho:w.ownsMap P kt Rv b n D):w.ownsMap P kt Rv b (Maps.size D) D:=by
 obtain⟨es,clock,hb,F,hs,rfl⟩:=ho;exact⟨es,clock,hb,F,by simp[Maps.size,length_sorted],rfl⟩
theorem lG.to (h:lG k w b l)(hu:P.underlying kt=some (o9 k)):w.ownsMap P kt Rv b l.length (rW l):=by
 have⟨P',J1,hu',ho⟩:=h;exact Rp ((xN hu').trans (xN hu).symm) ho
theorem lG.mk (hu:P.underlying kt=some (o9 k))(ho:w.ownsMap P kt Rv b n (rW l)):lG k w b l:=by
 have:=T1 ho;have e:Maps.size (rW l)=l.length:=by simp[Maps.size,rW]
 rw[e] at this;exact⟨P,kt,hu,this⟩
theorem lG.keep (h:lG k w b l)(hb:w'.heap[b]?=w.heap[b]?):lG k w' b l:=by
 have⟨P,kt,hu,es,clock,qd,r⟩:=h;exact⟨P,kt,hu,es,clock,hb.trans qd,r⟩
theorem lG.lt (h:lG k w b l):b<w.heap.size:=by have⟨P,kt,hu,ho⟩:=h;exact ho.lt
theorem lG.new (w:aa)(hu:P.underlying kt=some (o9 k)):lG k (w.alloc (.map #[] 0)) w.heap.size []:=lG.mk hu (World.ownsMap_made (H:=af) w P kt Rv)
theorem lG.look (h:lG k w b l)(ht:P.underlying t=some (.map kt et))(hu:P.underlying kt=some (o9 k)){z:af}(hz:(zeroValue et).run P w= .ok z w){x:jG k}(hx:mR k x):
  (dK t (.map (some b)) (nL k x) false).run P w= .ok ((iI l x).getD z) w:=by
 obtain⟨v,ps,kg,hv⟩:=(h.to hu).lookup (vz hu) ht hz (zd:=.held z) (zp:=[]) rfl (vA hu hx);rw[Ng] at hv;rw[kg];cases hl:iI l x with
 |none=>rw[hl] at hv;simp only[Rv,bM,cn,als] at hv;rw[hv.1];rfl
 |some u=>rw[hl] at hv;simp only[Rv,bM,cn,als] at hv;rw[hv.1];rfl
theorem lG.Gi (h:lG k w b l)(ht:P.underlying t=some (.map kt et))(hu:P.underlying kt=some (o9 k)){z:af}(hz:(zeroValue et).run P w= .ok z w){x:jG k}(hx:mR k x):
  (dK t (.map (some b)) (nL k x) true).run P w= .ok (.tuple #[(iI l x).getD z,.bool (iI l x).isSome]) w:=by
 obtain⟨v,ps,kg,hv⟩:=(h.to hu).look_ok (vz hu) ht hz (zd:=.held z) (zp:=[]) rfl (vA hu hx);rw[Ng] at hv;rw[kg,Pf];cases hl:iI l x with
 |none=>rw[hl] at hv;simp only[Rv,bM,cn,als] at hv;rw[hv.1];rfl
 |some u=>rw[hl] at hv;simp only[Rv,bM,cn,als] at hv;rw[hv.1];rfl
theorem lG.put (h:lG k w b l)(ht:P.underlying t=some (.map kt et))(hu:P.underlying kt=some (o9 k))(hl:l.length<=2147483647){x:jG k}(hx:mR k x)(v:af):
  ∃w',(aj6 t (.map (some b)) (nL k x) v).run P w= .ok () w'/\lG k w' b (nu l x v)/\w.grownBy w' (some b)/\w'.heap.size=w.heap.size:=by
 obtain⟨w',kg,ho,hG⟩:=(h.to hu).store (vz hu) ht (by simp only[maxLen];omega) (vA hu hx) (val:=v) (d:=.held v) (ps:=[]) rfl;rw[Y8] at ho;refine⟨w',kg,lG.mk hu ho,hG.grown,?_⟩;obtain⟨_,_,_,_,_,rfl⟩:=hG;simp[cN]
theorem lG.drop (h:lG k w b l)(ht:P.underlying t=some (.map kt et))(hu:P.underlying kt=some (o9 k)){x:jG k}(hx:mR k x)(ty:ax):
  ∃w',(Builtin.delete_ #[t,kt] ty #[.map (some b),nL k x]).run P w= .ok (.tuple #[]) w'/\lG k w' b (sw l x)/\w.grownBy w' (some b):=by
 obtain⟨w',kg,ho,hG⟩:=(h.to hu).drop (vz hu) ht (vA hu hx) ty;rw[Pe] at ho;exact⟨w',kg,lG.mk hu ho,hG.grown⟩
theorem lG.len (h:lG k w b l)(ht:P.underlying t=some (.map kt et))(hu:P.underlying kt=some (o9 k))(ty:ax):(akw #[t] ty #[.map (some b)]).run P w= .ok (.int .i64 (l.length:Int)) w:=by
 have:=(h.to hu).len ht ty;have e:dN (rW l)=l.length:=by simp[dN,rW]
 rw[e] at this;exact this
end
section
variable {α:Type}
def iA (m:List (Int×α))(x:Int):Option α:=iI (k:=.int) m x
def lD (m:List (Int×α))(x:Int)(v:α):List (Int×α):=nu (k:=.int) m x v
def DA (m:List (Int×α))(x:Int):List (Int×α):=sw (k:=.int) m x
theorem jT (m:List (Int×α))(y x:Int)(v:α):iA (lD m y v) x=if y=x then some v else iA m x:=AY (k:=.int) m y x v
theorem DB (m:List (Int×α))(y x:Int):iA (DA m y) x=if y=x then none else iA m x:=Gh (k:=.int) m y x
theorem ny (m:List (Int×α))(x:Int)(v:α):(lD m x v).length<=m.length+1:=uI (k:=.int) m x v
theorem wS {m:List (Int×α)}{x:Int}:iA m x=none↔∀v,(x,v)∉m:=yV (k:=.int)
theorem xO {m:List (Int×α)}{x:Int}{v:α}(h:iA m x=some v):(x,v)∈m:=pW (k:=.int) h
theorem Pg {m:List (Int×α)}{x:Int}{v:α}{q:Int×α}:q∈lD m x v↔q=(x,v)\/q∈m/\q.1≠x:=wR (k:=.int)
theorem AZ {k:Kc}(p:jG k×α):∀l:List (jG k×α),(tK p l).Perm (p::l)
 |[]=>anh _
 |y::r=>by
  unfold tK;split
  .exact anh _
  exact(List.Perm.cons y (AZ p r)).trans (am4 p y r)
theorem Rq {k:Kc}{l:List (jG k×α)}{x:jG k}(h:iI l x=none):sw l x=l:=by
 unfold sw;rw[List.filter_eq_self];intro p hp;have:=yV.1 h p.2
 by_cases e:p.1=x
 .exact(this (by rw[<-e];exact hp)).elim
 simp[e]
theorem Gj {k:Kc}{l:List (jG k×α)}{x:jG k}{v:α}(h:iI l x=none):(nu l x v).Perm ((x,v)::l):=by
 unfold nu;rw[Rq h];exact AZ _ _
theorem Ks {m:List (Int×α)}{x:Int}{v:α}(h:iA m x=none):(lD m x v).Perm ((x,v)::m):=Gj (k:=.int) h
end
theorem Rr {P P':ay}{r b since c0 clock:Nat}{seen:Array Nat}{es:Array MapEntry}{w w':aa}{v:af}(h:(akX (.pointer (some ⟨r,0,none⟩))).run P w= .ok v w)
  (hb:w.heap[b]?=some (.map es clock)) (hr:w.heap[r]?=some (.mapIter (some b) since seen c0)) (qd:w'.heap[b]?=w.heap[b]?) (Fp:w'.heap[r]?=w.heap[r]?):(akX (.pointer (some ⟨r,0,none⟩))).run P' w'= .ok v w':=by
 rw[hb] at qd;rw[hr] at Fp;simp only[akX,getObj,aO,cj,hr,hb,bO] at h;simp only[akX,getObj,aO,cj,Fp,qd,bO];revert h;generalize seen.back?=bk;cases bk with
 |none=>intro h;simp[cj] at h
 |some q=>
  intro h;simp only[aO,cj,hb,bO] at h;simp only[aO,cj,qd,bO];revert h;cases hq:(clock !=c0) with
  |true=>intro h;simp[cj,aO,unsupported,bO] at h
  |false=>
   simp only[akx,if_false];cases hf:es.find? (λx=>x.born==q) with
   |none=>intro h;simp[cj,unsupported] at h
   |some e=>intro h;simp only[bz] at h ⊢;cases h;rfl
def rX (k:Kc)(w:aa)(mb r:Nat)(l:List (jG k×af))(lf:jG k->Bool)(cnt:Nat)(cur:Option (jG k×af)):Prop:=
 (∃P kt left,P.underlying kt=some (o9 k)/\w.ranges P kt Rv mb r l.length (rW l) left cnt/\∀x,left (lu k x)=lf x)/\
 ∀x v,cur=some (x,v)->∀(P:ay) (w':aa),w'.heap[mb]?=w.heap[mb]?->w'.heap[r]?=w.heap[r]?->(akX (.pointer (some ⟨r,0,none⟩))).run P w'= .ok (.tuple #[nL k x,v]) w'
section
variable {P P':ay}{kt J1 et t:ax}{k:Kc}{w w':aa}{mb r n cnt:Nat}{l:List (jG k×af)}{lf:jG k->Bool}{cur:Option (jG k×af)}
theorem rX.keep (h:rX k w mb r l lf cnt cur)(hb:w'.heap[mb]?=w.heap[mb]?)(hr:w'.heap[r]?=w.heap[r]?):rX k w' mb r l lf cnt cur:=by
 obtain⟨⟨P,kt,left,hu,⟨es,clock,since,seen,c0,h1,F,hs,hD,h2,rest⟩,hl⟩,hc⟩:=h;exact⟨⟨P,kt,left,hu,⟨es,clock,since,seen,c0,hb.trans h1,F,hs,hD,hr.trans h2,rest⟩,hl⟩,λx v e P w'' h3 h4=>hc x v e P w'' (h3.trans hb) (h4.trans hr)⟩
theorem rX.lt (h:rX k w mb r l lf cnt cur):r<w.heap.size:=by obtain⟨⟨P,kt,left,hu,h,_⟩,_⟩:=h;exact h.lt
theorem rX.ne (h:rX k w mb r l lf cnt cur):r≠mb:=by obtain⟨⟨P,kt,left,hu,h,_⟩,_⟩:=h;exact h.ne
theorem lG.range (h:lG k w mb l)(ht:P.underlying t=some (.map kt et))(hu:P.underlying kt=some (o9 k)):
  ∃w',(akY t (.map (some mb))).run P w= .ok (.pointer (some ⟨w.heap.size,0,none⟩)) w'/\rX k w' mb w.heap.size l (λx=>(iI l x).isSome) l.length none/\w.grownBy w' none/\w'.heap.size=w.heap.size+1:=by
 obtain⟨w',h1,h2,h3,h4⟩:=(h.to hu).range (vz hu) ht;have e:dN (rW l)=l.length:=by simp[dN,rW]
 rw[e] at h2;exact⟨w',h1,⟨⟨P,kt,_,hu,h2,λx=>Pf l x⟩,λ_ _ q=>by cases q⟩,h3,h4⟩
theorem Kt (h:keyOf P kt=keyOf P' J1){D:DataW af}{left:Lit->Bool}(ho:w.ranges P kt Rv mb r n D left cnt):w.ranges P' J1 Rv mb r n D left cnt:=by
 have nO:WideElems.rd P kt Rv=WideElems.rd P' J1 Rv:=by
  funext x;unfold WideElems.rd;rw[h]
 have hrg:WideElems.rg P kt Rv=WideElems.rg P' J1 Rv:=by
  funext x;unfold WideElems.rg;rw[nO]
 have⟨es,clock,since,seen,c0,hb,F,hs,hD,h1,h2,h3,h4,h5,h6⟩:=ho;exact⟨es,clock,since,seen,c0,hb,⟨F.size,F.stamped,by rw[<-nO];exact F.reads⟩,hs,by rw[<-hrg];exact hD,h1,h2,h3,by rw[<-hrg];exact h4,by rw[<-hrg];exact h5,h6⟩
theorem rX.next (h:rX k w mb r l lf cnt cur)(hu:P.underlying kt=some (o9 k))(ty:ax):
  ((∀x,lf x=false)/\(akZ (.pointer (some ⟨r,0,none⟩)) false ty).run P w= .ok (.tuple #[.bool false]) w)\/
  ∃x v w' rD,lf x=true/\mR k x/\iI l x=some v/\rD<cnt/\(akZ (.pointer (some ⟨r,0,none⟩)) false ty).run P w= .ok (.tuple #[.bool true,nL k x,v]) w'/\
   rX k w' mb r l (λz=>lf z && !decide (z=x)) rD (some (x,v))/\w.grownBy w' (some r)/\w'.heap.size=w.heap.size:=by
 obtain⟨⟨P',J1,left,hu',hR',hl⟩,_⟩:=h;have hR:w.ranges P kt Rv mb r l.length (rW l) left cnt:=Kt ((xN hu').trans (xN hu).symm) hR';have mc:=hR.ne;rcases hR.next (vz hu) ty with⟨_,h2,h3⟩|⟨key,v,kl,y,w',rD,h1,h2,h3,h4,h5,h6,h7,h8,h9,h10⟩
 .exact .inl ⟨λx=>by rw[<-hl];exact h2 _,h3⟩
 rw[xN hu] at h1;obtain⟨x,rfl,rfl,hw⟩:=TZ h1;simp only[Rv,bM] at h3;subst h3;have Gk:iI l x=some v:=by
  have a:=h4 (.held (.bool false));have b:=h4 (.held (.bool true));rw[Ng] at a b;cases hq:iI l x with
  |none=>
   rw[hq] at a b;have a:aj4 (aj7 false)= .held v:=a;have b:aj4 (aj7 true)= .held v:=b;rw[<-b] at a;cases a
  |some u=>rw[hq] at a;have a:aj4 u= .held v:=a;cases a;rfl
 have⟨es,clock,since,seen,c0,e1,F,hs,hD,e2,e3⟩:=h6;refine .inr ⟨x,v,w',rD,by rw[<-hl];exact h2,hw,Gk,h7,h5,⟨⟨P,kt,λq=>left q && !q.sameKey (lu k x),hu,⟨es,clock,since,seen,c0,e1,F,hs,hD,e2,e3⟩,λz=>?_⟩,λx' v' q P2 w2 q1 q2=>?_⟩,h8,h9⟩
 .show(left (lu k z) && !(lu k z).sameKey (lu k x))=_;rw[hl,xM]
 cases q;exact Rr h10 e1 e2 q1 q2
theorem Gl (ht:P.underlying t=some (.map kt et)):(akY t (.map none)).run P w= .ok (.pointer (some ⟨w.heap.size,0,none⟩)) (w.alloc (.mapIter none 0 #[] 0)):=by
 simp[akY,run_underlying ht,newObj,bO,cj,aO,bz]
theorem T2 {since c0:Nat}{seen:Array Nat}(hr:w.heap[r]?=some (.mapIter none since seen c0))(ty:ax):(akZ (.pointer (some ⟨r,0,none⟩)) false ty).run P w= .ok (.tuple #[.bool false]) w:=by
 simp[akZ,getObj,aO,cj,hr,bO]
end
open ChangeMaps Maps WideElems
def Rt (k:Kc)(w:aa)(b:Nat)(x:jG k)(st:Int):Prop:=∃(es:Array MapEntry) (clock j:Nat) (e:MapEntry),w.heap[b]?=some (.map es clock)/\es[j]?=some e/\e.key=nL k x/\(e.born:Int)=st
theorem Rt.keep {k:Kc}{w w':aa}{b:Nat}{x:jG k}{st:Int}(h:Rt k w b x st)(hb:w'.heap[b]?=w.heap[b]?):Rt k w' b x st:=let⟨es,c,j,e,h1,h2⟩:=h;⟨es,c,j,e,hb.trans h1,h2⟩
section
variable {P:ay}{kt et t:ax}{k:Kc}{w w':aa}{b:Nat}{l:List (jG k×af)}
theorem zM {es:Array MapEntry}{clock:Nat}{o:Obj}(hb:w.heap[b]?=some (.map es clock)):(cN w b o).heap[b]?=some o:=by
 have oB:=(cJ.1 hb).1;show(w.heap.setIfInBounds b o)[b]?=_;rw[aj3,ak rfl,ak oB]
theorem lG.entry (h:lG k w b l)(ht:P.underlying t=some (.map kt et))(hu:P.underlying kt=some (o9 k))(hl:l.length<=2147483647){z:af}(hz:(zeroValue et).run P w= .ok z w){x:jG k}(hx:mR k x):
  ∃(st:Int) (w':aa),(amc t (.map (some b)) (nL k x)).run P w= .ok (.tuple #[(iI l x).getD z,.int .i64 st]) w'/\lG k w' b (nu l x ((iI l x).getD z))/\Rt k w' b x st/\w.grownBy w' (some b)/\w'.heap.size=w.heap.size:=by
 have Ph:=h.look ht hu hz hx;obtain⟨w',kg,ho,hG,mu⟩:=h.put ht hu hl hx ((iI l x).getD z);have sN:=vA hu hx;have K:=vz hu;obtain⟨es,clock,hb,F,hs,hD⟩:=h.to hu;generalize hv0:(iI l x).getD z=v0 at*
 rcases K.find w sN es.toList F.keys with⟨h1,h2⟩|⟨j,e0,h1,h2,h3⟩
 .have hz0:z=v0:=by
   have:(dK t (.map (some b)) (nL k x) false).run P w= .ok z w:=by
    simp[dK,run_underlying ht,aj8 hb,K.check w _ sN,h1,hz,bO]
   rw[Ph] at this;injection this with this
   exact this.symm
  subst hz0;have hr:(aj6 t (.map (some b)) (nL k x) z).run P w= .ok () (cN w b (.map (es.push ⟨nL k x,z,clock⟩) (clock+1))):=by
   simp[aj6,run_underlying ht,aj8 hb,K.check w false sN,h1,akD _ hb,bO,cN]
  have he:w'=cN w b (.map (es.push ⟨nL k x,z,clock⟩) (clock+1)):=by
   rw[kg] at hr;injection hr
  refine⟨(clock:Int),w',?_,ho,⟨_,_,es.size,⟨nL k x,z,clock⟩,by rw[he];exact zM hb,by simp,rfl,rfl⟩,hG,mu⟩;rw[he];simp[amc,run_underlying ht,aj8 hb,K.check w false sN,h1,hz,akD _ hb,bO,cN,goInt]
 have hj:es[j]?=some e0:=by simpa using h2
 have hv:e0.val=v0:=by
  have:(dK t (.map (some b)) (nL k x) false).run P w= .ok e0.val w:=by
   simp[dK,run_underlying ht,aj8 hb,K.check w _ sN,h1,hz,bO]
  rw[Ph] at this;injection this with this
  exact this.symm
 subst hv;have hm:(es.modify j λe=>{e with key:=nL k x})=es.modify j λe=>{e with key:=nL k x,val:=e0.val}:=by
  apply ck;rw[alu,alu,modify_eq_set _ _ _ _ h2,modify_eq_set _ _ _ _ h2]
 have hr:(aj6 t (.map (some b)) (nL k x) e0.val).run P w= .ok () (cN w b (.map (es.modify j λe=>{e with key:=nL k x,val:=e0.val}) clock)):=by
  simp[aj6,run_underlying ht,aj8 hb,K.check w false sN,h1,hj,h3,K.stays w sN,akD _ hb,bO,cN]
 have he:w'=cN w b (.map (es.modify j λe=>{e with key:=nL k x,val:=e0.val}) clock):=by
  rw[kg] at hr;injection hr
 refine⟨(e0.born:Int),w',?_,ho,⟨_,_,j,{e0 with key:=nL k x,val:=e0.val},by rw[he];exact zM hb,by rw[Array.getElem?_modify,ak rfl,hj];rfl,rfl,rfl⟩,hG,mu⟩;rw[he,<-hm];simp[amc,run_underlying ht,aj8 hb,K.check w false sN,h1,hj,h3,K.stays w sN,akD _ hb,bO,cN,goInt]
theorem Ku {α β:Type}{f:α->β}{l:List α}(h:(l.map f).Nodup){i j:Nat}{a c:α}(hi:l[i]?=some a)(hj:l[j]?=some c)(e:f a=f c):i=j:=by
 have h1:(l.map f)[i]?=some (f a):=by rw[b9,hi];rfl
 have h2:(l.map f)[j]?=some (f a):=by rw[b9,hj,e];rfl
 have hil:=(bW.1 h1).1;exact(List.getElem?_inj hil h).1 (h1.trans h2.symm)
theorem lG.entryStore (h:lG k w b l)(ht:P.underlying t=some (.map kt et))(hu:P.underlying kt=some (o9 k))(hl:l.length<=2147483647){x:jG k}(hx:mR k x){st:Int}(AQ:Rt k w b x st)(v:af):
  ∃w',(anj t (.map (some b)) (.int .i64 st) v).run P w= .ok () w'/\lG k w' b (nu l x v)/\w.grownBy w' (some b)/\w'.heap.size=w.heap.size:=by
 obtain⟨w',kg,ho,hG,mu⟩:=h.put ht hu hl hx v;have sN:=vA hu hx;have K:=vz hu;obtain⟨es,clock,hb,F,hs,hD⟩:=h.to hu;have⟨es',ahW,j,e,qd,hj,hek,heb⟩:=AQ;rw[hb] at qd;cases qd;have hjl:es.toList[j]?=some e:=by simpa using hj
 rcases K.find w sN es.toList F.keys with⟨h1,h2⟩|⟨i,e0,h1,h2,h3⟩
 .exact(h2 e (bJ hjl) hek).elim
 have J2:i=j:=Ku F.stamped.2.2 h2 hjl (h3.trans hek.symm);subst J2;rw[hjl] at h2;cases h2;have hfi:es.findIdx? (λe=>(e.born:Int)==st)=some i:=by
  rw[Array.findIdx?_eq_some_iff_getElem];have oB:i<es.size:=(cJ.1 hj).1;have uJ:es[i]=e:=(cJ.1 hj).2;refine⟨oB,by rw[uJ];simp[heb],λq hq hp=>?_⟩;have hp:((es[q].born:Int))=st:=by simpa using hp
  have Fq:es[q].born=e.born:=by
   have:(es[q].born:Int)=(e.born:Int):=hp.trans heb.symm;omega
  have:q=i:=Ku (f:=aof) F.stamped.2.1 (l:=es.toList) (i:=q) (j:=i) (a:=es[q]) (c:=e) (by simp) hjl Fq;omega
 have hm:(es.modify i λe=>{e with val:=v})=es.modify i λe=>{e with key:=nL k x,val:=v}:=by
  apply ck;rw[alu,alu,modify_eq_set _ _ _ _ hjl,modify_eq_set _ _ _ _ hjl,hek]
 have hr:(aj6 t (.map (some b)) (nL k x) v).run P w= .ok () (cN w b (.map (es.modify i λe=>{e with key:=nL k x,val:=v}) clock)):=by
  simp[aj6,run_underlying ht,aj8 hb,K.check w false sN,h1,hj,hek,K.stays w sN,akD _ hb,bO,cN]
 have he:w'=cN w b (.map (es.modify i λe=>{e with key:=nL k x,val:=v}) clock):=by
  rw[kg] at hr;injection hr
 refine⟨w',?_,ho,hG,mu⟩;rw[he,<-hm];simp[anj,aj8 hb,asInt,asIntOf,hfi,akD _ hb,bO,cN]
end
def iU (k:Kc)(α:Type):Type:=List (jG k×α)
def pX {k:Kc}{α:Type}[Data α](S:iD)(w:aa)(b:Nat)(m:iU k α):Prop:=
 ∃zs:List (jG k×(af×α)),lG k w b (zs.map λq=>(q.1,q.2.1))/\m=zs.map (λq=>(q.1,q.2.2))/\∀z∈zs,Rd S w z.2.1 z.2.2
def T3 {k:Kc}{α:Type}[Data α](S:iD)(w:aa)(v:af)(m:iU k α):Prop:=∃x,v= .map x/\match x with
 |none=>m=([]:List (jG k×α))
 |some b=>S b/\pX S w b m
theorem pX.keep {k:Kc}{α:Type}[Data α]{S:iD}{w w':aa}{b:Nat}{m:iU k α}(h:pX S w b m)(hk:kU S w w')(hb:w'.heap[b]?=w.heap[b]?):pX S w' b m:=by
 have⟨zs,h1,h2,h3⟩:=h;exact⟨zs,h1.keep hb,h2,λz hz=>(h3 z hz).keep hk⟩
theorem pX.up {k:Kc}{α:Type}[Data α]{S S':iD}{w:aa}{b:Nat}{m:iU k α}(h:pX S w b m)(hs:∀k,S k->S' k):pX S' w b m:=by
 have⟨zs,h1,h2,h3⟩:=h;exact⟨zs,h1,h2,λz hz=>(h3 z hz).up hs⟩
instance ac7 {k:Kc} {α:Type} [Data α]:Data (iU k α) where
 size:=1
 isAgg:=false
 rd S w cs m:=∃v,cs=[v]/\T3 S w v m
 len:=by rintro S w cs l ⟨v,rfl,_⟩;rfl
 up:=by
  rintro S S' w cs l hs ⟨v,rfl,x,rfl,h⟩;refine⟨_,rfl,x,rfl,?_⟩;cases x with
  |none=>exact h
  |some b=>exact⟨hs _ h.1,h.2.up hs⟩
 keep:=by
  rintro S w w' cs l hk ⟨v,rfl,x,rfl,h⟩;refine⟨_,rfl,x,rfl,?_⟩;cases x with
  |none=>exact h
  |some b=>exact⟨h.1,h.2.keep hk (hk b h.1)⟩
 one:=by
  rintro S w cs l ⟨v,rfl,x,rfl,_⟩ u hu;simp at hu;subst hu;rfl
theorem yW {k:Kc}{α:Type}[Data α]{S:iD}{w:aa}{v:af}{m:iU k α}(h:Rd S w v m):T3 S w v m:=by
 obtain⟨cs,⟨v',rfl,h⟩,rfl⟩:=h;exact h
theorem Iq {k:Kc}{α:Type}[Data α]{S:iD}{w:aa}{v:af}{m:iU k α}(h:T3 S w v m):Rd S w v m:=⟨[v],⟨v,rfl,h⟩,rfl⟩
def tL (α:Type):Type:=Option α
def sP {α:Type}[Data α](S:iD)(w:aa)(v:af):tL α->Prop
 |none=>v= .pointer none
 |some y=> ∃b cur t fz cs,v= .pointer (some ⟨b,0,none⟩)/\S b/\w.heap[b]?=some (.cells cur t fz)/\Data.rd S w cs y/\∀j,j<Data.size α->cur[j]?=cs[j]?
theorem sP.keep {α:Type}[Data α]{S:iD}{w w':aa}{v:af}{x:tL α}(h:sP S w v x)(hk:kU S w w'):sP S w' v x:=by
 cases x with
 |none=>exact h
 |some y=>
  have⟨b,cur,t,fz,cs,h1,h2,h3,h4,h5⟩:=h;exact⟨b,cur,t,fz,cs,h1,h2,(hk b h2).trans h3,Data.keep hk h4,h5⟩
theorem sP.up {α:Type}[Data α]{S S':iD}{w:aa}{v:af}{x:tL α}(h:sP S w v x)(hs:∀k,S k->S' k):sP S' w v x:=by
 cases x with
 |none=>exact h
 |some y=>
  have⟨b,cur,t,fz,cs,h1,h2,h3,h4,h5⟩:=h;exact⟨b,cur,t,fz,cs,h1,hs _ h2,h3,Data.up hs h4,h5⟩
theorem sP.val {α:Type}[Data α]{S:iD}{w:aa}{v:af}{x:tL α}(h:sP S w v x):∃p,v= .pointer p:=by
 cases x with
 |none=>exact⟨_,h⟩
 |some y=>have⟨b,cur,t,fz,cs,h1,_⟩:=h;exact⟨_,h1⟩
instance ac8 {α:Type} [Data α]:Data (tL α) where
 size:=1
 isAgg:=false
 rd S w cs x:=∃v,cs=[v]/\sP S w v x
 len:=by rintro S w cs l ⟨v,rfl,_⟩;rfl
 up:=by rintro S S' w cs l hs ⟨v,rfl,h⟩;exact⟨v,rfl,h.up hs⟩
 keep:=by rintro S w w' cs l hk ⟨v,rfl,h⟩;exact⟨v,rfl,h.keep hk⟩
 one:=by
  rintro S w cs l ⟨v,rfl,h⟩ u hu;obtain⟨p,rfl⟩:=h.val;simp at hu;subst hu;rfl
theorem vB {α:Type}[Data α]{S:iD}{w:aa}{v:af}{x:tL α}(h:Rd S w v x):sP S w v x:=by
 obtain⟨cs,⟨v',rfl,h⟩,rfl⟩:=h;exact h
theorem Nh {α:Type}[Data α]{S:iD}{w:aa}{v:af}{x:tL α}(h:sP S w v x):Rd S w v x:=⟨[v],⟨v,rfl,h⟩,rfl⟩
instance Y9:Data Unit where
 size:=0
 isAgg:=true
 rd _ _ cs _:=cs=[]
 len h:=by rw[h];rfl
 up _ h:=h
 keep _ h:=h
 one h u hu:=by rw[h] at hu;cases hu
inductive Ty where
 |int
 |bool
 |str
 |list (t:Ty)
 |pair (a b:Ty)
 |map (k:Kc) (t:Ty)
 |ptr (t:Ty)
 |unit
def El:Ty->Type
 | .int=>Int
 | .bool=>Bool
 | .str=>ByteArray
 | .list t=>List (El t)
 | .pair a b=>El a×El b
 | .map k t=>iU k (El t)
 | .ptr t=>tL (El t)
 | .unit=>Unit
instance Kv:(t:Ty)->Data (El t)
 | .int=>(inferInstance:Data Int)
 | .bool=>(inferInstance:Data Bool)
 | .str=>(inferInstance:Data ByteArray)
 | .list t=>@instDataList (El t) (Kv t)
 | .pair a b=>@instDataProd (El a) (El b) (Kv a) (Kv b)
 | .map k t=>@ac7 k (El t) (Kv t)
 | .ptr t=>@ac8 (El t) (Kv t)
 | .unit=>Y9
def zB:(t:Ty)->El t
 | .int=>(0:Int)
 | .bool=>false
 | .str=>(⟨#[]⟩:ByteArray)
 | .list _=>[]
 | .pair a b=>(zB a,zB b)
 | .map k t=>([]:List (jG k×El t))
 | .ptr t=>(none:Option (El t))
 | .unit=>()
def Ni:(t s:Ty)->Option (PLift (t=s))
 | .int,.int=>some ⟨rfl⟩
 | .bool,.bool=>some ⟨rfl⟩
 | .str,.str=>some ⟨rfl⟩
 | .unit,.unit=>some ⟨rfl⟩
 | .list t,.list s=>match Ni t s with
  |some ⟨h⟩=>some ⟨aL Ty.list h⟩
  |none=>none
 | .pair a b,.pair c d=>match Ni a c,Ni b d with
  |some ⟨h⟩,some ⟨k⟩=>some ⟨h▸k▸rfl⟩
  |_,_=>none
 | .map .int a,.map .int b=>match Ni a b with
  |some ⟨h⟩=>some ⟨aL (Ty.map .int) h⟩
  |none=>none
 | .map .str a,.map .str b=>match Ni a b with
  |some ⟨h⟩=>some ⟨aL (Ty.map .str) h⟩
  |none=>none
 | .ptr t,.ptr s=>match Ni t s with
  |some ⟨h⟩=>some ⟨aL Ty.ptr h⟩
  |none=>none
 |_,_=>none
def pP {t s:Ty}(a:El t):Option (El s):=match Ni t s with
 |some ⟨h⟩=>some (h▸a)
 |none=>none
theorem mH {t s:Ty}{a:El t}{b:El s}(h:pP (s:=s) a=some b):∃e:t=s,e▸a=b:=by
 unfold pP at h;split at h
 .rename_i e _;exact⟨e,bD h⟩
 cases h
inductive tM where
 |i (n:Int)
 |b (b:Bool)
 |s (s:ByteArray)
 |l (t:Ty) (l:List (El t))
 |m (k:Kc) (t:Ty) (m:iU k (El t))
 |p (t:Ty) (x:tL (El t))
def jo:(t:Ty)->El t->List tM
 | .int,n=>[.i n]
 | .bool,b=>[.b b]
 | .str,s=>[.s s]
 | .list t,l=>[.l t l]
 | .pair a b,x=>jo a x.1++jo b x.2
 | .map k t,m=>[.m k t m]
 | .ptr t,x=>[.p t x]
 | .unit,_=>[]
def sQ (S:iD)(w:aa)(v:af):tM->Prop
 | .i n=>v= .int .i64 n
 | .b b=>v= .bool b
 | .s s=>v= .string s
 | .l _ l=>Rd S w v l
 | .m _ _ m=>Rd S w v m
 | .p _ x=>Rd S w v x
def jU (S:iD)(w:aa):List af->List tM->Prop
 |[],[]=>True
 |v::vs,c::cs=>sQ S w v c/\jU S w vs cs
 |_,_=>False
theorem jU.append {S:iD}{w:aa}:∀ {a:List af} {b:List tM} {c:List af} {d:List tM},jU S w a b->jU S w c d->jU S w (a++c) (b++d)
 |[],[],_,_,_,h=>h
 |_::_,_::_,_,_,h,k=>⟨h.1,h.2.append k⟩
 |[],_::_,_,_,h,_=>h.elim
 |_::_,[],_,_,h,_=>h.elim
theorem jU.split {S:iD}{w:aa}:∀ {vs:List af} {a b:List tM},jU S w vs (a++b)->jU S w (vs.take a.length) a/\jU S w (vs.drop a.length) b
 |vs,[],b,h=>by simpa using⟨tv,h⟩
 |[],_::_,_,h=>h.elim
 |v::vs,x::a,b,h=>by
  obtain⟨h1,h2⟩:=jU.split (vs:=vs) (a:=a) (b:=b) h.2;exact⟨⟨h.1,h1⟩,h2⟩
theorem jU.len {S:iD}{w:aa}:∀ {vs:List af} {a:List tM},jU S w vs a->vs.length=a.length
 |[],[],_=>rfl
 |_::_,_::_,h=>by simp[jU.len h.2]
 |[],_::_,h=>h.elim
 |_::_,[],h=>h.elim
theorem jU.get {S:iD}{w:aa}:∀ {vs:List af} {a:List tM},jU S w vs a->∀ {j:Nat} {c:tM},a[j]?=some c->∃v,vs[j]?=some v/\sQ S w v c
 |[],[],_,_,_,h=>by simp at h
 |v::vs,x::a,h,0,c,e=>by simp at e;subst e;exact⟨v,rfl,h.1⟩
 |v::vs,x::a,h,j+1,c,e=>h.2.get (j:=j) (by simpa using e)
 |[],_::_,h,_,_,_=>h.elim
 |_::_,[],h,_,_,_=>h.elim
theorem sQ.keep {S:iD}{w w':aa}(hk:kU S w w'){v:af}{c:tM}(h:sQ S w v c):sQ S w' v c:=by
 cases c with
 |l t l=>exact Rd.keep hk h
 |m k t m=>exact Rd.keep hk h
 |p t x=>exact Rd.keep hk h
 |_=>exact h
theorem sQ.up {S S':iD}{w:aa}(hs:∀k,S k->S' k){v:af}{c:tM}(h:sQ S w v c):sQ S' w v c:=by
 cases c with
 |l t l=>exact Rd.up hs h
 |m k t m=>exact Rd.up hs h
 |p t x=>exact Rd.up hs h
 |_=>exact h
theorem pO {S:iD}{w:aa}:∀(t:Ty) {cs:List af} {a:El t},Data.rd S w cs a->jU S w cs (jo t a)
 | .int,cs,a,h=>by have h:cs=[.int .i64 a]:=h;subst h;exact⟨rfl,tv⟩
 | .bool,cs,a,h=>by have h:cs=[.bool a]:=h;subst h;exact⟨rfl,tv⟩
 | .str,cs,a,h=>by have h:cs=[.string a]:=h;subst h;exact⟨rfl,tv⟩
 | .unit,cs,a,h=>by have h:cs=[]:=h;subst h;trivial
 | .list t,cs,a,h=>by
  obtain⟨v,rfl,h⟩:=h;exact⟨qc h,tv⟩
 | .pair a b,cs,x,h=>by
  obtain⟨c1,c2,rfl,h1,h2⟩:=h;exact(pO a h1).append (pO b h2)
 | .map k t,cs,a,h=>by
  obtain⟨v,rfl,h⟩:=h;exact⟨Iq h,tv⟩
 | .ptr t,cs,a,h=>by
  obtain⟨v,rfl,h⟩:=h;exact⟨Nh h,tv⟩
theorem CI {S:iD}{w:aa}:∀(t:Ty) {cs:List af} {a:El t},jU S w cs (jo t a)->Data.rd S w cs a
 | .int,cs,a,h=>by
  match cs,h with
  |[v],h=>have h1:v= .int .i64 a:=h.1;subst h1;rfl
 | .bool,cs,a,h=>by
  match cs,h with
  |[v],h=>have h1:v= .bool a:=h.1;subst h1;rfl
 | .unit,cs,a,h=>by
  match cs,h with
  |[],_=>exact(rfl:([]:List af)=[])
 | .str,cs,a,h=>by
  match cs,h with
  |[v],h=>have h1:v= .string a:=h.1;subst h1;rfl
 | .list t,cs,a,h=>by
  match cs,h with
  |[v],h=>exact⟨v,rfl,jV h.1⟩
 | .pair a b,cs,x,h=>by
  obtain⟨h1,h2⟩:=jU.split h;exact⟨_,_,(dB _ _).symm,CI a h1,CI b h2⟩
 | .map k t,cs,a,h=>by
  match cs,h with
  |[v],h=>exact⟨v,rfl,yW h.1⟩
 | .ptr t,cs,a,h=>by
  match cs,h with
  |[v],h=>exact⟨v,rfl,vB h.1⟩
theorem DC:∀(t:Ty) (a:El t),(jo t a).length=Data.size (El t)
 | .int,_=>rfl
 | .bool,_=>rfl
 | .str,_=>rfl
 | .unit,_=>rfl
 | .list _,_=>rfl
 | .map _ _,_=>rfl
 | .ptr _,_=>rfl
 | .pair a b,x=>by
  show(jo a x.1++jo b x.2).length=Data.size (El a)+Data.size (El b);rw[aN,DC a,DC b]
def kR:Ty->Bool| .pair _ _=>true| .unit=>true|_=>false
theorem DD:∀t:Ty,Data.isAgg (El t)=kR t
 | .int=>rfl
 | .bool=>rfl
 | .str=>rfl
 | .unit=>rfl
 | .list _=>rfl
 | .pair _ _=>rfl
 | .map _ _=>rfl
 | .ptr _=>rfl
def iN:Ty->Nat
 | .int=>1
 | .bool=>1
 | .str=>1
 | .unit=>0
 | .list _=>1
 | .map _ _=>1
 | .ptr _=>1
 | .pair a b=>iN a+iN b
theorem kK:∀t:Ty,iN t=Data.size (El t)
 | .int=>rfl
 | .bool=>rfl
 | .str=>rfl
 | .unit=>rfl
 | .list _=>rfl
 | .map _ _=>rfl
 | .ptr _=>rfl
 | .pair a b=>by
  show iN a+iN b=Data.size (El a)+Data.size (El b);rw[kK a,kK b]
theorem lM (t:Ty)(a:El t):(jo t a).length=iN t:=by rw[DC,kK]
inductive BE where
 |lit (b:Bool)
 |dec (p:Prop) (i:Decidable p)
 |raw (b:Bool)
 |not (x:BE)
 |and (x y:BE)
 |or (x y:BE)
def BE.den:BE->Bool
 | .lit b=>b
 | .dec p i=>@decide p i
 | .raw b=>b
 | .not x=>!x.den
 | .and x y=>x.den && y.den
 | .or x y=>x.den||y.den
def BE.is:BE->Bool->Prop
 | .lit c,b=>c=b
 | .dec p _,true=>p
 | .dec p _,false=>¬p
 | .raw c,b=>c=b
 | .not x,true=>x.is false
 | .not x,false=>x.is true
 | .and x y,true=>x.is true/\y.is true
 | .and x y,false=>x.is false\/y.is false
 | .or x y,true=>x.is true\/y.is true
 | .or x y,false=>x.is false/\y.is false
theorem BE.qj:∀(e:BE) (b:Bool),e.is b↔e.den=b
 | .lit c,b=>Iff.rfl
 | .dec p i,true=>by simp[is,den]
 | .dec p i,false=>by simp[is,den]
 | .raw c,b=>Iff.rfl
 | .not x,true=>by simp[is,den,qj x]
 | .not x,false=>by simp[is,den,qj x]
 | .and x y,true=>by simp[is,den,qj x,qj y]
 | .and x y,false=>by rw[is,den,qj x,qj y];cases x.den<;>cases y.den<;>simp
 | .or x y,true=>by rw[is,den,qj x,qj y];cases x.den<;>cases y.den<;>simp
 | .or x y,false=>by simp[is,den,qj x,qj y]
structure jA where
 p:Nat->Option bC
 n:Nat->Nat
 c:Nat->Nat
 b:Nat->Nat
 f:Nat->Lit->af
 m:Nat->Option Nat
def jA.v (A:jA)(j:Nat):af:=.slice (A.p j) (A.n j) (A.c j)
def jA.set (A:jA)(j:Nat)(p:Option bC)(n c b:Nat):jA:=⟨λk=>if k=j then p else A.p k,λk=>if k=j then n else A.n k,λk=>if k=j then c else A.c k,λk=>if k=j then b else A.b k,A.f,A.m⟩
def jA.m6 (A:jA)(j:Nat)(g:Lit->af):jA:=⟨A.p,A.n,A.c,A.b,λk=>if k=j then g else A.f k,A.m⟩
theorem jA.rY (A:jA)(j:Nat)(g:Lit->af):(A.m6 j g).f j=g:=by simp[jA.m6]
def jA.ja (A:jA)(j:Nat)(x:Option Nat):jA:=⟨A.p,A.n,A.c,A.b,A.f,λk=>if k=j then x else A.m k⟩
theorem jA.DE (A:jA)(j:Nat)(x:Option Nat):(A.ja j x).m j=x:=by simp[jA.ja]
theorem jA.si (A:jA)(j:Nat)(p:Option bC)(n c b:Nat):(A.set j p n c b).v j= .slice p n c:=by simp[jA.set,jA.v]
theorem jA.afL (A:jA)(j:Nat)(p:Option bC)(n c b:Nat):(A.set j p n c b).p j=p:=by simp[jA.set]
theorem jA.DF (A:jA)(j:Nat)(p:Option bC)(n c b:Nat):(A.set j p n c b).b j=b:=by simp[jA.set]
inductive Hx where
 |el (i:Int) (sz off:Nat)
 |ky (k:Kc) (x:jG k)
def ix (c:Nat):Lit:=.int .i64 (c:Int)
theorem ac9 {c d:Nat}(h:ix c=ix d):c=d:=by
 unfold ix at h;injection h with _ h
 exact Int.ofNat.inj h
def Hx.lit:Hx->Lit
 | .el i sz off=>ix (i.toNat*sz+off)
 | .ky k x=>lu k x
inductive Sc where
 |v (x:af)
 |b (e:BE)
 |own (j:Nat)
 |mp (j:Nat)
 |ptr (j off:Nat)
 |el (j:Nat) (i:Int) (sz off:Nat)
 |uk (f:bA) (ko:List (Nat×Nat))
 |hd (p q:Nat) (x:Hx)
 |pd (j:Nat)
def Sc.den (A:jA):Sc->af
 | .v x=>x
 | .b e=>.bool e.den
 | .own j=>A.v j
 | .mp j=>.map (A.m j)
 | .ptr j off=>.pointer (some ⟨A.b j,off,none⟩)
 | .el j i sz off=>.pointer (some ⟨Fs (A.v j),Ft (A.v j)+i.toNat*sz+off,none⟩)
 | .uk f ko=>.func (.func f) #[] (ko.map λc=>.pointer (some ⟨A.b c.1,c.2,none⟩)).toArray
 | .hd _ q x=>A.f q x.lit
 | .pd j=>.pointer (A.p j)
def Sc.all (F:Nat->Prop):Sc->Prop
 | .v _=>True
 | .b _=>True
 | .own j=>F j
 | .mp j=>F j
 | .ptr j _=>F j
 | .el j _ _ _=>F j
 | .uk _ ko=> ∀c∈ko,F c.1
 | .hd p q _=>F p/\F q
 | .pd j=>F j
inductive Sy where
 |one (s:Sc)
 |agg (cs:List Sc)
 |tN (ps:List (Bool×List Sc))
def m7 (A:jA)(p:Bool×List Sc):af:=if p.1 then .agg (p.2.map (Sc.den A)).toArray else(p.2.map (Sc.den A)).headD undef
def Sy.den (A:jA):Sy->af
 | .one s=>s.den A
 | .agg cs=>.agg (cs.map (Sc.den A)).toArray
 | .tN ps=>.tuple (ps.map (m7 A)).toArray
def Sy.all (F:Nat->Prop):Sy->Prop
 | .one s=>s.all F
 | .agg cs=> ∀c∈cs,c.all F
 | .tN ps=> ∀p∈ps,∀c∈p.2,c.all F
structure E2 where
 ch:List (Nat×Bool)
 sy:Sy
def oq (w:aa)(e:ax)(sz:Nat)(v:af)(n:Nat)(xs:List af):Prop:=
 xs.length=n*sz/\((v= .slice none 0 0/\n=0)\/∃g d cap cur,v= .slice (some ⟨g,d*sz,none⟩) n cap/\w.heap[g]?=some (.cells cur e (0,0))/\n<=cap/\cap<=maxLen/\(d+cap)*sz<=cur.size/\(cur.toList.drop (d*sz)).take (n*sz)=xs)
theorem oq.keep {w w':aa}{e:ax}{sz:Nat}{v:af}{n:Nat}{xs:List af}(h:oq w e sz v n xs)(hb:∀b,v.ownBlock=some b->w'.heap[b]?=w.heap[b]?):oq w' e sz v n xs:=by
 refine⟨h.1,?_⟩;rcases h.2 with q|⟨g,d,cap,cur,rfl,hg,rest⟩
 .exact .inl q
 exact .inr ⟨g,d,cap,cur,rfl,(hb g rfl).trans hg,rest⟩
theorem oq.of {w:aa}{e:ax}{sz:Nat}{v:af}{n:Nat}{xs:List af}{base:Nat}(h:w.ownsRow base e sz v n xs):oq w e sz v n xs:=by
 refine⟨h.1,?_⟩;rcases h.2 with q|⟨g,cap,cur,h1,_,h2,h3,h4,h5,h6⟩
 .exact .inl q
 exact .inr ⟨g,0,cap,cur,by rw[h1,cT],h2,h3,h4,by rw[cG,h5];exact az _,by rw[cT,ajM];exact h6⟩
theorem oq.nil (w:aa)(e:ax)(sz:Nat):oq w e sz (.slice none 0 0) 0 []:=⟨by simp,.inl ⟨rfl,rfl⟩⟩
theorem oq.slice {w:aa}{e:ax}{sz:Nat}{v:af}{n:Nat}{xs:List af}(h:oq w e sz v n xs):∃p c,v= .slice p n c/\n<=c/\c<=maxLen:=by
 rcases h.2 with⟨rfl,rfl⟩|⟨g,d,cap,cur,rfl,hg,h1,h2,_⟩
 .exact⟨_,_,rfl,az _,by simp[maxLen]⟩
 exact⟨_,_,rfl,h1,h2⟩
def mI {α:Type}[Data α](S:iD)(w:aa)(e:ax)(v:af)(l:List α):Prop:=∃xs,oq w e (Data.size α) v l.length xs/\jW S w xs l
section
variable {α:Type}[Data α]{S S':iD}{w w':aa}{e:ax}{v:af}{l:List α}
theorem mI.keep (h:mI S w e v l)(hk:kU S w w')(hb:∀b,v.ownBlock=some b->w'.heap[b]?=w.heap[b]?):mI S w' e v l:=let⟨xs,h1,h2⟩:=h;⟨xs,h1.keep hb,h2.keep hk⟩
theorem mI.up (h:mI S w e v l)(hs:∀k,S k->S' k):mI S' w e v l:=let⟨xs,h1,h2⟩:=h;⟨xs,h1,h2.up hs⟩
theorem mI.of (h:Own S w e v l):mI S w e v l:=let⟨xs,h1,h2⟩:=h;⟨xs,.of h1,h2⟩
theorem mI.nil:mI S w e (.slice none 0 0) ([]:List α):=⟨[],oq.nil w e _,jW.nil _ _⟩
theorem mI.cells (h:mI S w e v l){i:Int}(h0:0<=i)(h1:i<(l.length:Int))(d:α):
  ∃cs,Data.rd S w cs (l.getD i.toNat d)/\∀j,j<Data.size α->w.cell? ⟨Fs v,Ft v+i.toNat*Data.size α+j,none⟩=cs[j]?:=by
 have⟨xs,hh,hR⟩:=h;rcases hh.2 with⟨_,hn⟩|⟨g,dd,cap,cur,rfl,hg,M7,wM,kF,qg⟩
 .omega
 have hi:i.toNat<l.length:=by omega
 refine⟨_,by rw[aJ,aY hi];exact hR.2 i.toNat hi,λq hq=>?_⟩;show w.cell? ⟨g,dd*Data.size α+i.toNat*Data.size α+q,none⟩=_;rw[cell_of_row w g _ cur e (0,0) hg];rw[bK,ak hq,b7,<-qg,bK,ak ?_,b7,dM,akm];have:=bI (Data.size α) (show i.toNat+1<=l.length from hi);rw[bT] at this;omega
theorem Pj {α:Type}[Data α]{xs:List af}{l:List α}{lo hi:Nat}(h:jW S w xs l)(h1:lo<=hi)(h2:hi<=l.length):jW S w ((xs.drop (lo*Data.size α)).take ((hi-lo)*Data.size α)) ((l.drop lo).take (hi-lo)):=by
 refine⟨?_,λi o7=>?_⟩
 .rw[aW,bu,aW,bu,h.1,<-alv];have:hi-lo<=l.length-lo:=by omega
  rw[dO (bI _ this),dO this]
 rw[aW,bu] at o7;have hil:lo+i<l.length:=by omega
 have e1:((l.drop lo).take (hi-lo))[i]'(by rw[aW,bu];exact o7)=l[lo+i]:=by simp
 rw[e1];have e2:((((xs.drop (lo*Data.size α)).take ((hi-lo)*Data.size α)).drop (i*Data.size α)).take (Data.size α))=(xs.drop ((lo+i)*Data.size α)).take (Data.size α):=by
  rw[List.drop_take,List.take_take,akT,<-bS,dO];rw[<-alv];have:1<=hi-lo-i:=by omega
  calc Data.size α=1*Data.size α:=(Nat.one_mul _).symm
   _<=_:=bI _ this
 rw[e2];exact h.2 (lo+i) hil
theorem Gm {α:Type}[Data α]{p:Option bC}{len cap lo hi:Nat}{l:List α}(h:qY S w (.slice p len cap) l)(h1:lo<=hi)(h2:hi<=l.length):qY S w (sliced p lo hi cap (Data.size α)) ((l.drop lo).take (hi-lo)):=by
 have⟨p',c',e,k1,k2,k3⟩:=h;cases e;have hlen:((l.drop lo).take (hi-lo)).length=hi-lo:=by rw[aW,bu];omega
 refine⟨_,cap-lo,by unfold sliced;rw[hlen],by rw[hlen];omega,by omega,?_⟩;rcases k3 with rfl|⟨g,off,cur,t,fz,rfl,hg,hw,hc⟩
 .exact .inl (by simp)
 by_cases q:cap=lo
 .exact .inl (dy (by rw[hlen];omega))
 refine .inr ⟨g,off+lo*Data.size α,cur,t,fz,by rw[ah q];simp[Addr.add_lit],hg,hw,λi o7=>?_⟩;rw[hlen] at o7;obtain⟨cs,q1,q2⟩:=hc (lo+i) (by omega);have e1:((l.drop lo).take (hi-lo))[i]'(by rw[hlen];exact o7)=l[lo+i]:=by simp
 refine⟨cs,by rw[e1];exact q1,λj hj=>?_⟩;rw[<-q2 j hj,bS]
 congr 1;omega
theorem mI.rd (h:mI S w e v l):Rd (λk=>S k\/v.ownBlock=some k) w v l:=by
 have⟨xs,h1,h2⟩:=h;refine qc ?_;rcases h1.2 with⟨rfl,hn⟩|⟨g,d,cap,cur,rfl,hg,M7,wM,kF,qg⟩
 .have:l=[]:=dy hn;subst this;exact⟨none,0,rfl,by simp,by simp[maxLen],.inl rfl⟩
 refine⟨_,cap,rfl,M7,wM,.inr ⟨g,d*Data.size α,cur,e,(0,0),rfl,.inr rfl,hg,λj hj=>?_⟩⟩;refine⟨_,Data.up (λ_=>.inl) (h2.2 j hj),λq hq=>?_⟩;rw[bK,ak hq,b7,<-qg,bK,ak ?_,b7,dM,akm];have:=bI (Data.size α) (show j+1<=l.length from hj);rw[bT] at this;omega
end
inductive X2 where
 |nest (q:Nat) (h:Option Nat) (e:ax) (t:Ty) (ie:ax) (l:List (El t))
 |mW (q:Nat) (k:Kc) (h:Option (jG k)) (t:Ty) (ie:ax) (m:iU k (List (El t)))
 |zN (t:Ty) (x:tL (El t))
 |par (t:Ty) (x:tL (El t))
 |Ir (t:Ty) (x:El t)
 |CJ (t:Ty) (x:El t)
 |Is (q:Nat) (k:Kc) (t:Ty) (m:iU k (El t)) (x:jG k)
 |FF (D:Nat)
 |sJ (e:ax) (s:ByteArray)
inductive R2 where
 |ro (t:Ty) (l:List (El t))
 |ar (t:Ty) (l:List (El t))
 |row (e:ax) (t:Ty) (l:List (El t))
 |box (t:ax) (cs:List Sc)
 |wE (k:Kc) (t:Ty) (m:iU k (El t))
 |BS (k:Kc) (t:Ty) (m:iU k (El t))
 |map (k:Kc) (t:Ty) (m:iU k (El t))
 |iter (k:Kc) (t:Ty) (m:iU k (El t)) (lf:jG k->Bool) (cnt:Nat) (cur:Option (jG k×El t))
 |ext (x:X2)
structure Rs where
 ok:iD->aa->Prop
 has:Nat->Prop
 keep:∀S w w',ok S w->kU S w w'->(∀b,has b->w'.heap[b]?=w.heap[b]?)->ok S w'
 up:∀(S S':iD) w,ok S w->(∀k,S k->S' k)->ok S' w
def Rs.of (r:o5):Rs:=⟨λS w=>r.ok S w,λb=>r.block=some b,λ_ _ _ h hk hb=>o5.Ie h hk hb,λ_ _ _ h hs=>o5.ab6 h hs⟩
def wT:Rs:=⟨λ_ _=>True,λ_=>False,λ_ _ _ _ _ _=>trivial,λ_ _ _ _ _=>trivial⟩
def BT {α:Type}[Data α](e:ax)(v:af)(l:List α):Rs:=⟨λS w=>mI S w e v l,λb=>v.ownBlock=some b,λ_ _ _ h hk hb=>h.keep hk hb,λ_ _ _ h hs=>h.up hs⟩
def yH {k:Kc}{α:Type}[Data α](x:Option Nat)(m:iU k α):Rs where
 ok S w:=∃b,x=some b/\pX S w b m
 has b:=x=some b
 keep:=λS w w' ⟨b,e,h⟩ hk hb=>⟨b,e,h.keep hk (hb b e)⟩
 up:=λS S' w ⟨b,e,h⟩ hs=>⟨b,e,h.up hs⟩
def Iu {k:Kc}{α:Type}[Data α](S:iD)(w:aa)(b:Nat)(m:iU k α)(lf:jG k->Bool)(cnt:Nat)(cur:Option (jG k×α)):Prop:=
 ∃mb,∃zs:List (jG k×(af×α)),∃cu:Option (jG k×(af×α)),S mb/\rX k w mb b (zs.map λq=>(q.1,q.2.1)) lf cnt (cu.map λq=>(q.1,q.2.1))/\m=zs.map (λq=>(q.1,q.2.2))/\(∀z∈zs,Rd S w z.2.1 z.2.2)/\cur=cu.map (λq=>(q.1,q.2.2))/\∀q,cu=some q->Rd S w q.2.1 q.2.2
def zO {k:Kc}{α:Type}(w:aa)(b:Nat)(m:iU k α)(lf:jG k->Bool)(cur:Option (jG k×α)):Prop:=
 m=([]:List (jG k×α))/\cur=none/\(∀x,lf x=false)/\∃since seen c0,w.heap[b]?=some (.mapIter none since seen c0)
def Nj {k:Kc}{α:Type}[Data α](b:Nat)(m:iU k α)(lf:jG k->Bool)(cnt:Nat)(cur:Option (jG k×α)):Rs where
 ok S w:=Iu S w b m lf cnt cur\/zO w b m lf cur
 has x:=x=b
 keep:=by
  intro S w w' h hk hb;rcases h with⟨mb,zs,cu,h1,h2,h3,h4,h5,h6⟩|⟨h1,h2,h3,s,se,c,h4⟩
  .have h7:=h2.keep (hk mb h1) (hb b rfl);exact .inl ⟨mb,zs,cu,h1,h7,h3,λz hz=>(h4 z hz).keep hk,h5,λq e=>(h6 q e).keep hk⟩
  exact .inr ⟨h1,h2,h3,s,se,c,(hb b rfl).trans h4⟩
 up:=by
  intro S S' w h hs;rcases h with⟨mb,zs,cu,h1,h2,h3,h4,h5,h6⟩|h
  .exact .inl ⟨mb,zs,cu,hs mb h1,h2,h3,λz hz=>(h4 z hz).up hs,h5,λq e=>(h6 q e).up hs⟩
  exact .inr h
def ov (t:Ty)(l:List (El t)):List tM:=l.flatMap (jo t)
theorem mg (t:Ty):∀l:List (El t),(ov t l).length=l.length*iN t
 |[]=>by simp[ov]
 |x::l=>by
  show(jo t x++ov t l).length=_;rw[aN,lM,mg t l,List.length_cons,bT];omega
def yB (S:iD)(w:aa)(ie:ax)(v:af):tM->Prop
 | .l _ l=>mI S w ie v l
 |c=>sQ S w v c/\v.ownBlock=none
theorem yB.keep {S:iD}{w w':aa}{ie:ax}{v:af}{c:tM}(h:yB S w ie v c)(hk:kU S w w')(hb:∀b,v.ownBlock=some b->w'.heap[b]?=w.heap[b]?):yB S w' ie v c:=by
 cases c with
 |l t l=>exact mI.keep h hk hb
 |_=>exact⟨h.1.keep hk,h.2⟩
theorem yB.up {S S':iD}{w:aa}{ie:ax}{v:af}{c:tM}(h:yB S w ie v c)(hs:∀k,S k->S' k):yB S' w ie v c:=by
 cases c with
 |l t l=>exact mI.up h hs
 |_=>exact⟨h.1.up hs,h.2⟩
structure pQ (S:iD)(w:aa)(v:af)(f:Lit->af)(h:Option Nat)(e:ax)(t:Ty)(ie:ax)(l:List (El t)):Prop where
 row:∃xs,oq w e (iN t) v l.length xs/\(∀u∈xs,u.oneCell'=true)/\∀c x,(ov t l)[c]?=some x->h≠some c->xs[c]?=some (f (ix c))/\yB S w ie (f (ix c)) x
 inj:∀c d b,c<l.length*iN t->d<l.length*iN t->h≠some c->h≠some d->(f (ix c)).ownBlock=some b->(f (ix d)).ownBlock=some b->c=d
 out:∀c b,c<l.length*iN t->h≠some c->(f (ix c)).ownBlock=some b->v.ownBlock≠some b
def Nk (v:af)(f:Lit->af)(h:Option Nat)(e:ax)(t:Ty)(ie:ax)(l:List (El t)):Rs where
 ok S w:=pQ S w v f h e t ie l
 has b:=v.ownBlock=some b\/∃c,c<l.length*iN t/\h≠some c/\(f (ix c)).ownBlock=some b
 keep:=by
  intro S w w' H hk hb;have⟨xs,h1,h2,h3⟩:=H.row;refine⟨⟨xs,h1.keep λb q=>hb b (.inl q),h2,λc x hc hh=>?_⟩,H.inj,H.out⟩;obtain⟨k1,k2⟩:=h3 c x hc hh;refine⟨k1,k2.keep hk λb q=>hb b (.inr ⟨c,?_,hh,q⟩)⟩;have:=(bW.1 hc).1;rwa[mg] at this
 up:=λS S' w H hs=>⟨let⟨xs,h1,h2,h3⟩:=H.row;⟨xs,h1,h2,λc x hc hh=>⟨(h3 c x hc hh).1,(h3 c x hc hh).2.up hs⟩⟩,H.inj,H.out⟩
structure yX {k:Kc}{α:Type}[Data α](S:iD)(w:aa)(b:Nat)(f:Lit->af)(h:Option (jG k))(ie:ax)(m:iU k (List α)):Prop where
 map:∃zs:List (jG k×(af×List α)),lG k w b (zs.map λq=>(q.1,q.2.1))/\m=zs.map (λq=>(q.1,q.2.2))/\∀z∈zs,h≠some z.1->z.2.1=f (lu k z.1)/\mI S w ie z.2.1 z.2.2
 non:∀x,iI m x=none->h≠some x->f (lu k x)= .slice none 0 0
 inj:∀x y c,h≠some x->h≠some y->(f (lu k x)).ownBlock=some c->(f (lu k y)).ownBlock=some c->x=y
 out:∀x c,h≠some x->(f (lu k x)).ownBlock=some c->c≠b
def T4 {k:Kc}{α:Type}[Data α](y:Option Nat)(f:Lit->af)(h:Option (jG k))(ie:ax)(m:iU k (List α)):Rs where
 ok S w:=∃b,y=some b/\yX S w b f h ie m
 has c:=y=some c\/∃x,h≠some x/\(f (lu k x)).ownBlock=some c
 keep:=by
  intro S w w' ⟨b,e,H⟩ hk hb;have⟨zs,h1,h2,h3⟩:=H.map;exact⟨b,e,⟨zs,h1.keep (hb b (.inl e)),h2,λz hz hh=>⟨(h3 z hz hh).1,(h3 z hz hh).2.keep hk λc q=>hb c (.inr ⟨z.1,hh,by rw[<-(h3 z hz hh).1];exact q⟩)⟩⟩,H.non,H.inj,H.out⟩
 up:=λS S' w ⟨b,e,H⟩ hs=>⟨b,e,let⟨zs,h1,h2,h3⟩:=H.map;⟨zs,h1,h2,λz hz hh=>⟨(h3 z hz hh).1,(h3 z hz hh).2.up hs⟩⟩,H.non,H.inj,H.out⟩
def oD {α:Type}[Data α](S:iD)(w:aa)(b:Nat)(y:α):Prop:=∃cur t fz cs,S b/\w.heap[b]?=some (.cells cur t fz)/\Data.rd S w cs y/\∀j,j<Data.size α->cur[j]?=cs[j]?
def acd {α:Type}[Data α](b:Nat)(y:α):Rs where
 ok S w:=oD S w b y
 has _:=False
 keep:=λS w w' ⟨cur,t,fz,cs,h1,h2,h3,h4⟩ hk _=>⟨cur,t,fz,cs,h1,(hk b h1).trans h2,Data.keep hk h3,h4⟩
 up:=λS S' w ⟨cur,t,fz,cs,h1,h2,h3,h4⟩ hs=>⟨cur,t,fz,cs,hs b h1,h2,Data.up hs h3,h4⟩
def ace {k:Kc}{α:Type}[Data α](y:Option Nat)(f:Lit->af)(m:iU k α)(key:jG k):Rs where
 ok S w:=∃b,y=some b/\pX S w b m/\∃st,f (lu k key)= .int .i64 st/\Rt k w b key st
 has b:=y=some b
 keep:=λS w w' ⟨b,e,h,st,h1,h2⟩ hk hb=>⟨b,e,h.keep hk (hb b e),st,h1,h2.keep (hb b e)⟩
 up:=λS S' w ⟨b,e,h,h2⟩ hs=>⟨b,e,h.up hs,h2⟩
def Pk (D:Nat):Rs:=⟨λ_ w=>w.heap[D]?=some (.deferred (some [])),λb=>b=D,λ_ _ _ h _ hb=>(hb D rfl).trans h,λ_ _ _ h _=>h⟩
def zP (s:ByteArray):List af:=s.data.toList.map λx=>.int .u8 (x.toNat:Int)
theorem vC {w w':aa}{base:Nat}{e:ax}{sz:Nat}{v:af}{n:Nat}{xs:List af}(h:w.ownsRow base e sz v n xs)(hb:∀b,v.ownBlock=some b->w'.heap[b]?=w.heap[b]?):w'.ownsRow base e sz v n xs:=
 ⟨h.1,h.2.imp id λ⟨g,cap,cur,e1,e2,e3,r⟩=>⟨g,cap,cur,e1,e2,(hb g (by rw[e1];rfl)).trans e3,r⟩⟩
def afM (e:ax)(v:af)(s:ByteArray):Rs:=⟨λ_ w=>w.ownsRow 0 e 1 v s.size (zP s),λb=>v.ownBlock=some b,λ_ _ _ h _ hb=>vC h hb,λ_ _ _ h _=>h⟩
def X2.den (A:jA)(j:Nat):X2->Rs
 | .nest q h e t ie l=>Nk (A.v j) (A.f q) h e t ie l
 | .mW q _ h _ ie m=>T4 (A.m j) (A.f q) h ie m
 | .zN _ x=>.of (.ro (.pointer (A.p j)) x)
 | .par _ _=>wT
 | .Ir _ x=>acd (A.b j) x
 | .CJ _ _=>wT
 | .Is q _ _ m x=>ace (A.m j) (A.f q) m x
 | .FF D=>Pk D
 | .sJ e s=>afM e (A.v j) s
def X2.all (F:Nat->Prop):X2->Prop
 | .nest q _ _ _ _ _=>F q
 | .mW q _ _ _ _ _=>F q
 | .Is q _ _ _ _=>F q
 |_=>True
def R2.den (A:jA)(j:Nat):R2->Rs
 | .ro t l=>.of (@o5.ro (List (El t)) _ (A.v j) l)
 | .ar _ _=>wT
 | .row e t l=>@BT (El t) _ e (A.v j) l
 | .box t cs=>.of (.box (A.b j) t (cs.map (Sc.den A)))
 | .wE _ _ m=>.of (.ro (.map (A.m j)) m)
 | .BS _ _ _=>wT
 | .map _ _ m=>yH (A.m j) m
 | .iter _ _ m lf cnt cur=>Nj (A.b j) m lf cnt cur
 | .ext x=>x.den A j
def R2.all (F:Nat->Prop):R2->Prop
 | .box _ cs=> ∀c∈cs,c.all F
 | .ext x=>x.all F
 |_=>True
def kZ (F:Nat->Prop)(A B:jA):Prop:=∀j,F j->A.v j=B.v j/\A.b j=B.b j/\A.f j=B.f j/\A.m j=B.m j
theorem kZ.set {F:Nat->Prop}{A:jA}{j:Nat}(h:¬F j)(p:Option bC)(n c b:Nat):kZ F A (A.set j p n c b):=λk hk=>by
 have:k≠j:=λe=>h (e▸hk);simp[jA.set,jA.v,this]
theorem kZ.m6 {F:Nat->Prop}{A:jA}{j:Nat}(h:¬F j)(g:Lit->af):kZ F A (A.m6 j g):=λk hk=>by
 have:k≠j:=λe=>h (e▸hk);simp[jA.m6,jA.v,this]
theorem kZ.ja {F:Nat->Prop}{A:jA}{j:Nat}(h:¬F j)(x:Option Nat):kZ F A (A.ja j x):=λk hk=>by
 have:k≠j:=λe=>h (e▸hk);simp[jA.ja,jA.v,this]
theorem kZ.refl (F:Nat->Prop)(A:jA):kZ F A A:=λ_ _=>⟨rfl,rfl,rfl,rfl⟩
theorem kZ.trans {F:Nat->Prop}{A B C:jA}(h:kZ F A B)(k:kZ F B C):kZ F A C:=λj hj=>⟨(h j hj).1.trans (k j hj).1,(h j hj).2.1.trans (k j hj).2.1,(h j hj).2.2.1.trans (k j hj).2.2.1,(h j hj).2.2.2.trans (k j hj).2.2.2⟩
theorem kZ.mono {F G:Nat->Prop}{A B:jA}(h:kZ G A B)(hs:∀j,F j->G j):kZ F A B:=λj hj=>h j (hs j hj)
section
variable {F:Nat->Prop}{A B:jA}
theorem kZ.p (h:kZ F A B){j:Nat}(k:F j):A.p j=B.p j:=by
 have:=(h j k).1;unfold jA.v at this;injection this
theorem Sc.congr (h:kZ F A B):∀ {s:Sc},s.all F->s.den A=s.den B
 | .v _,_=>rfl
 | .b _,_=>rfl
 | .own j,k=>(h j k).1
 | .mp j,k=>by simp only[den];rw[(h j k).2.2.2]
 | .ptr j off,k=>by simp only[den];rw[(h j k).2.1]
 | .el j i sz off,k=>by simp only[den];rw[(h j k).1]
 | .uk f ko,k=>by
  simp only[den]
  congr 2
  exact ajQ λc hc=>by rw[(h c.1 (k c hc)).2.1]
 | .hd p q ix,k=>by simp only[den];rw[(h q k.2).2.2.1]
 | .pd j,k=>by simp only[den];rw[h.p k]
theorem qO (h:kZ F A B){cs:List Sc}(k:∀c∈cs,c.all F):cs.map (Sc.den A)=cs.map (Sc.den B):=ajQ λc hc=>Sc.congr h (k c hc)
theorem Sy.congr (h:kZ F A B):∀ {s:Sy},s.all F->s.den A=s.den B
 | .one s,k=>Sc.congr h k
 | .agg cs,k=>by simp only[den];rw[qO h k]
 | .tN ps,k=>by
  simp only[den]
  congr 2
  exact ajQ λp hp=>by unfold m7;rw[qO h (k p hp)]
theorem X2.congr (h:kZ F A B){j:Nat}(hj:F j):∀ {r:X2},r.all F->r.den A j=r.den B j
 | .nest q _ _ _ _ _,k=>by simp only[den];rw[(h j hj).1,(h q k).2.2.1]
 | .mW q _ _ _ _ _,k=>by simp only[den];rw[(h j hj).2.2.2,(h q k).2.2.1]
 | .zN _ _,_=>by simp only[den];rw[h.p hj]
 | .par _ _,_=>rfl
 | .Ir _ _,_=>by simp only[den];rw[(h j hj).2.1]
 | .CJ _ _,_=>rfl
 | .Is q _ _ _ _,k=>by simp only[den];rw[(h j hj).2.2.2,(h q k).2.2.1]
 | .FF _,_=>rfl
 | .sJ _ _,_=>by simp only[den];rw[(h j hj).1]
theorem R2.congr (h:kZ F A B){j:Nat}(hj:F j):∀ {r:R2},r.all F->r.den A j=r.den B j
 | .ro t l,_=>by simp only[den];rw[(h j hj).1]
 | .ar t l,_=>rfl
 | .row e t l,_=>by simp only[den];rw[(h j hj).1]
 | .box t cs,k=>by simp only[den];rw[(h j hj).2.1,qO h k]
 | .wE k t m,_=>by simp only[den];rw[(h j hj).2.2.2]
 | .BS k t m,_=>rfl
 | .map k t m,_=>by simp only[den];rw[(h j hj).2.2.2]
 | .iter k t m lf cnt cur,_=>by simp only[den];rw[(h j hj).2.1]
 | .ext x,k=>X2.congr h hj k
variable {G:Nat->Prop}
theorem Sc.mono (h:∀j,F j->G j):∀ {s:Sc},s.all F->s.all G
 | .v _,_=>trivial
 | .b _,_=>trivial
 | .own j,k=>h j k
 | .mp j,k=>h j k
 | .ptr j _,k=>h j k
 | .el j _ _ _,k=>h j k
 | .uk _ _,k=>λc hc=>h _ (k c hc)
 | .hd _ _ _,k=>⟨h _ k.1,h _ k.2⟩
 | .pd _,k=>h _ k
theorem Sy.mono (h:∀j,F j->G j):∀ {s:Sy},s.all F->s.all G
 | .one _,k=>Sc.mono h k
 | .agg _,k=>λc hc=>Sc.mono h (k c hc)
 | .tN _,k=>λp hp c hc=>Sc.mono h (k p hp c hc)
theorem X2.mono (h:∀j,F j->G j):∀ {r:X2},r.all F->r.all G
 | .nest _ _ _ _ _ _,k=>h _ k
 | .mW _ _ _ _ _ _,k=>h _ k
 | .zN _ _,_=>trivial
 | .par _ _,_=>trivial
 | .Ir _ _,_=>trivial
 | .CJ _ _,_=>trivial
 | .Is _ _ _ _ _,k=>h _ k
 | .FF _,_=>trivial
 | .sJ _ _,_=>trivial
theorem R2.mono (h:∀j,F j->G j):∀ {r:R2},r.all F->r.all G
 | .ro _ _,_=>trivial
 | .ar _ _,_=>trivial
 | .row _ _ _,_=>trivial
 | .box _ _,k=>λc hc=>Sc.mono h (k c hc)
 | .wE _ _ _,_=>trivial
 | .BS _ _ _,_=>trivial
 | .map _ _ _,_=>trivial
 | .iter _ _ _ _ _ _,_=>trivial
 | .ext _,k=>X2.mono h k
end
structure qA (w w':aa)(H:Nat->Prop):Prop where
 os:w'.os=w.os
 tape:w'.tape=w.tape
 output:w'.output=w.output
 size:w.heap.size<=w'.heap.size
 block:∀k,k<w.heap.size->¬H k->w'.heap[k]?=w.heap[k]?
theorem qA.of {w w':aa}{r:Option Nat}(h:w.grownBy w' r):qA w w' (λb=>r=some b):=⟨h.os,h.tape,h.output,h.size,λk hk hn=>h.block k hk λe=>hn e.symm⟩
theorem qA.refl (w:aa)(H:Nat->Prop):qA w w H:=⟨rfl,rfl,rfl,az _,λ_ _ _=>rfl⟩
theorem qA.trans {a b c:aa}{H K:Nat->Prop}(h:qA a b H)(k:qA b c K)(hk:∀j,j<a.heap.size->K j->H j):qA a c H:=
 ⟨k.os.trans h.os,k.tape.trans h.tape,k.output.trans h.output,bg h.size k.size,λj hj hn=>(k.block j (bh hj h.size) λq=>hn (hk j hj q)).trans (h.block j hj hn)⟩
theorem qA.below {a b:aa}{H:Nat->Prop}(h:Below a.heap.size a b):qA a b H:=⟨h.os,h.tape,h.output,h.size,λk hk _=>h.block k hk⟩
structure jw extends Orig where
 G:Nat->Prop
 gS:∀k,G k->¬S k
 Za:∀k,G k->k<w.heap.size
 pF:Nat->Prop
 pA:jA
 kp:Nat
def T5:jA:=⟨λ_=>none,λ_=>0,λ_=>0,λ_=>0,λ_ _=>undef,λ_=>none⟩
def jw.of (o:Orig):jw:=⟨o,λ_=>False,λ_ h=>h.elim,λ_ h=>h.elim,λ_=>False,T5,0⟩
def jw.new (o:jw)(b:Nat):Prop:=o.w.heap.size<=b\/o.G b
def jw.old (o:jw):iD:=λk=>k<o.w.heap.size/\¬o.G k
abbrev Iv (o:jw)(w':aa):iD:=λk=>o.S k\/(o.new k/\k<w'.heap.size)
structure nM (o:jw)(w:aa)(S:iD)(f:Nat->Option Rs):Prop where
 sj:qA o.w w o.G
 src:∀k,S k->o.S k\/o.new k
 nN:∀k,S k->k<w.heap.size
 ok:∀j r,f j=some r->r.ok S w
 own:∀j r b,f j=some r->r.has b->o.new b/\b<w.heap.size/\¬S b
 apart:∀i j ri rj b,f i=some ri->f j=some rj->ri.has b->rj.has b->i=j
def nk {α:Type}(f:Nat->Option α)(j:Nat)(x:Option α):Nat->Option α:=λk=>if k=j then x else f k
section
variable {o:jw}{w w':aa}{S S':iD}{f:Nat->Option Rs}
theorem jw.Kw {b:Nat}(h:qA o.w w o.G)(k:w.heap.size<=b):o.new b:=.inl (bg h.size k)
theorem nM.old (h:nM o w S f):kU o.old o.w w:=λk hk=>h.sj.block k hk.1 hk.2
theorem nM.start (o:jw):nM o o.w o.S (λ_=>none):=
 ⟨qA.refl _ _,λ_ h=>.inl h,o.ok,λ_ _ h=>(by cases h),λ_ _ _ h=>(by cases h),λ_ _ _ _ _ h=>(by cases h)⟩
abbrev nM.at (h:nM o w S f):Orig:=⟨w,S,h.nN⟩
theorem nM.sub {g:Nat->Option Rs}(h:nM o w S f)(hg:∀j r,g j=some r->f j=some r):nM o w S g:=
 ⟨h.sj,h.src,h.nN,λj r k=>h.ok j r (hg j r k),λj r b k=>h.own j r b (hg j r k),λi j ri rj b k l=>h.apart i j ri rj b (hg i ri k) (hg j rj l)⟩
theorem nM.acf (h:nM o w S f){j:Nat}{r:Rs}(hj:f j=some r)(hb:Below w.heap.size w w'):∀b,r.has b->w'.heap[b]?=w.heap[b]?:=λb e=>hb.block b (h.own j r b hj e).2.1
theorem nM.on (h:nM o w S f)(hb:Below w.heap.size w w'):nM o w' S f where
 sj:=h.sj.trans (qA.below (H:=λ_=>False) hb) λ_ _ q=>q.elim
 src:=h.src
 nN k hk:=bh (h.nN k hk) hb.size
 ok j r hj:=r.keep _ _ _ (h.ok j r hj) (λk hk=>hb.block k (h.nN k hk)) (h.acf hj hb)
 own j r b hj e:=let⟨h1,h2,h3⟩:=h.own j r b hj e;⟨h1,bh h2 hb.size,h3⟩
 apart:=h.apart
theorem nM.call (h:nM o w S f)(hb:Below w.heap.size w w'):nM o w' (λk=>S k\/(w.heap.size<=k/\k<w'.heap.size)) f where
 sj:=(h.on hb).sj
 src k hk:=hk.elim (h.src k) λq=>.inr (jw.Kw h.sj q.1)
 nN k hk:=hk.elim (λq=>bh (h.nN k q) hb.size) λq=>q.2
 ok j r hj:=r.up _ _ _ (r.keep _ _ _ (h.ok j r hj) (λk hk=>hb.block k (h.nN k hk)) (h.acf hj hb)) λ_=>.inl
 own j r b hj e:=let⟨h1,h2,h3⟩:=h.own j r b hj e;⟨h1,bh h2 hb.size,λq=>q.elim h3 λq=>aks _ (bh h2 q.1)⟩
 apart:=h.apart
theorem nM.put (h:nM o w S f)(j:Nat)(r:Rs)(o6:r.ok S w)(hb:∀b,r.has b->o.new b/\b<w.heap.size/\¬S b/\∀i ri,i≠j->f i=some ri->¬ri.has b):nM o w S (nk f j (some r)) where
 sj:=h.sj
 src:=h.src
 nN:=h.nN
 ok i ri hi:=by
  unfold nk at hi;split at hi
  .cases hi;exact o6
  exact h.ok i ri hi
 own i ri b hi e:=by
  unfold nk at hi;split at hi
  .cases hi;obtain⟨h1,h2,h3,_⟩:=hb b e;exact⟨h1,h2,h3⟩
  exact h.own i ri b hi e
 apart i k ri rk b hi hk ei ek:=by
  unfold nk at hi hk;split at hi<;>split at hk
  .rename_i a c;exact a.trans c.symm
  .rename_i a c;cases hi;exact((hb b ei).2.2.2 k rk c hk ek).elim
  .rename_i a c;cases hk;exact((hb b ek).2.2.2 i ri a hi ei).elim
  exact h.apart i k ri rk b hi hk ei ek
theorem nM.T6 (h:nM o w S f)(j:Nat){α:Type}[Data α]{v:af}{a:α}(hr:Rd S w v a):nM o w S (nk f j (some (Rs.of (.ro v a)))):=h.put j _ hr λb e=>by cases e
theorem nM.FG (h:nM o w S f)(j:Nat){r:Rs}(hr:r.ok S w)(hn:∀b,¬r.has b):nM o w S (nk f j (some r)):=h.put j r hr λb e=>(hn b e).elim
theorem nM.T7 (h:nM o w S f)(j:Nat)(x:Obj)(r:Rs)(o6:r.ok S (w.alloc x))(hb:∀b,r.has b->b=w.heap.size):nM o (w.alloc x) S (nk f j (some r)):=by
 refine(h.on (oO w x)).put j r o6 λb e=>?_;have e:=hb b e;subst e;have mu:w.heap.size<(w.alloc x).heap.size:=by simp
 refine⟨jw.Kw h.sj (az _),mu,λq=>aks _ (h.nN _ q),λi ri _ hi e=>aks _ (h.own i ri _ hi e).2.1⟩
theorem nM.swap (h:nM o w S f){g:Nat->Option Rs}{N K:Nat->Prop}(hc:qA w w' (λb=> ∃j r,K j/\f j=some r/\r.has b))(hS:∀k,S k->S' k)
  (hS':∀k,S' k->S k\/(((∃j r,K j/\f j=some r/\r.has k)\/w.heap.size<=k)/\k<w'.heap.size/\∀j r,N j->g j=some r->¬r.has k))
  (hold:∀j r,¬N j->g j=some r->¬K j/\f j=some r) (o6:∀j r,N j->g j=some r->r.ok S' w')
  (wQ:∀j r b,N j->g j=some r->r.has b->((∃i ri,K i/\f i=some ri/\ri.has b)\/w.heap.size<=b)/\b<w'.heap.size)
  (T8:∀i j ri rj b,N i->N j->g i=some ri->g j=some rj->ri.has b->rj.has b->i=j):nM o w' S' g:=by
 have hKn:∀b,(∃j r,K j/\f j=some r/\r.has b)->o.new b/\b<w.heap.size/\¬S b:=λb ⟨j,r,_,h2,h3⟩=>h.own j r b h2 h3;have hKo:∀j r b,¬K j->f j=some r->r.has b->¬ ∃i ri,K i/\f i=some ri/\ri.has b:=λj r b hj hf hb ⟨i,ri,h1,h2,h3⟩=>hj (by rw[h.apart j i r ri b hf h2 hb h3];exact h1);have wh:kU S w w':=λk hk=>hc.block k (h.nN k hk) λq=>(hKn k q).2.2 hk;refine⟨h.sj.trans hc λj hj q=>?_,λk hk=>?_,λk hk=>?_,λj r hj=>?_,λj r b hj hb=>?_,λi j ri rj b hi hj ei ej=>?_⟩
 .rcases(hKn j q).1 with q|q
  .omega
  exact q
 .rcases hS' k hk with q|⟨q,_⟩
  .exact h.src k q
  rcases q with q|q
  .exact .inr (hKn k q).1
  exact .inr (jw.Kw h.sj q)
 .rcases hS' k hk with q|q
  .exact bh (h.nN k q) hc.size
  exact q.2.1
 .by_cases hN:N j
  .exact o6 j r hN hj
  obtain⟨h1,h2⟩:=hold j r hN hj;exact r.up _ _ _ (r.keep _ _ _ (h.ok j r h2) wh λb hb=>hc.block b (h.own j r b h2 hb).2.1 (hKo j r b h1 h2 hb)) hS
 .by_cases hN:N j
  .obtain⟨h1,h2⟩:=wQ j r b hN hj hb;refine⟨?_,h2,λq=>?_⟩
   .rcases h1 with h1|h1
    .exact(hKn b h1).1
    exact jw.Kw h.sj h1
   rcases hS' b q with q|⟨_,_,q⟩
   .rcases h1 with h1|h1
    .exact(hKn b h1).2.2 q
    have:=h.nN b q;omega
   exact q j r hN hj hb
  obtain⟨h1,h2⟩:=hold j r hN hj;obtain⟨k1,k2,k3⟩:=h.own j r b h2 hb;refine⟨k1,bh k2 hc.size,λq=>?_⟩;rcases hS' b q with q|⟨q,_,_⟩
  .exact k3 q
  rcases q with q|q
  .exact hKo j r b h1 h2 hb q
  omega
 by_cases hNi:N i<;>by_cases hNj:N j
 .exact T8 i j ri rj b hNi hNj hi hj ei ej
 .obtain⟨h1,h2⟩:=hold j rj hNj hj;rcases(wQ i ri b hNi hi ei).1 with q|q
  .exact(hKo j rj b h1 h2 ej q).elim
  have:=(h.own j rj b h2 ej).2.1;omega
 .obtain⟨h1,h2⟩:=hold i ri hNi hi;rcases(wQ j rj b hNj hj ej).1 with q|q
  .exact(hKo i ri b h1 h2 ei q).elim
  have:=(h.own i ri b h2 ei).2.1;omega
 exact h.apart i j ri rj b (hold i ri hNi hi).2 (hold j rj hNj hj).2 ei ej
theorem nM.mut (h:nM o w S f)(j:Nat){r:Rs}(hj:f j=some r)(hg:qA w w' r.has):nM o w' S (nk f j none):=by
 refine h.swap (N:=λ_=>False) (K:=λi=>i=j) ⟨hg.os,hg.tape,hg.output,hg.size,λk hk hn=>hg.block k hk λq=>hn ⟨j,r,rfl,hj,q⟩⟩ (λ_ q=>q) (λ_ q=>.inl q) (λi ri _ hi=>?_) (λ_ _ q=>q.elim) (λ_ _ _ q=>q.elim) (λ_ _ _ _ _ q=>q.elim);unfold nk at hi;split at hi
 .cases hi
 rename_i mc;exact⟨mc,hi⟩
end
inductive Tr (α:Type 1):Type 1 where
 |ret (a:α)
 |fail
 |slot (t:Nat) (k:E2->Tr α)
 |res (j:Nat) (k:R2->Tr α)
def Tr.run {α:Type 1}(s:Nat->Option E2)(r:Nat->Option R2):Tr α->Option α
 | .ret a=>some a
 | .fail=>none
 | .slot t k=>match s t with
  |some e=>(k e).run s r
  |none=>none
 | .res j k=>match r j with
  |some x=>(k x).run s r
  |none=>none
theorem Tr.mono {α:Type 1}{s s':Nat->Option E2}{r r':Nat->Option R2}(hs:∀t e,s t=some e->s' t=some e)(hr:∀j x,r j=some x->r' j=some x):∀(T:Tr α) {a:α},T.run s r=some a->T.run s' r'=some a
 | .ret _,_,h=>h
 | .fail,_,h=>h
 | .slot t k,a,h=>by
  simp only[run] at h ⊢;split at h
  .rename_i e he;rw[hs t e he];exact Tr.mono hs hr _ h
  cases h
 | .res j k,a,h=>by
  simp only[run] at h ⊢;split at h
  .rename_i e he;rw[hr j e he];exact Tr.mono hs hr _ h
  cases h
structure Hid where
 lhs:jA->aa->Result af
 rhs:jA->aa->Result af
structure Out:Type 1 where
 cs:List Prop
 hs:List Hid
 sy:Sy
 re:List (Nat×Option R2)
def Ru:List Prop->Prop
 |[]=>True
 |[p]=>p
 |p::q::r=>p/\Ru (q::r)
theorem Pm:∀ {l:List Prop},Ru l↔∀p∈l,p
 |[]=>by simp[Ru]
 |[p]=>by rw[List.forall_mem_singleton];rfl
 |p::q::r=>by
  show(p/\Ru (q::r))↔_;rw[List.forall_mem_cons,Pm]
def jg (i:Int)(n:Nat):Prop:=0<=i/\i<(n:Int)
theorem bd {i:Int}{n:Nat}(h:0<=i/\i<(n:Int):=by omega):jg i n:=h
theorem jB {n:Int}(h: -9223372036854775808<=n/\n<=9223372036854775807:=by omega):jh .i64 n:=h
def tO:af->Sc
 | .bool b=>.b (.lit b)
 |v=>.v v
def FH:af->Sy
 | .agg cs=>.agg (cs.toList.map tO)
 |v=>.one (tO v)
def o8 {α:Type 1}(C:List (Nat×Bool)):aM->(Sy->Tr α)->Tr α
 | .tmp t,k=>.slot t λe=>match e.ch.isPrefixOf C with
  |true=>k e.sy
  |false=>.fail
 | .const v,k=>k (FH v)
 | .func f,k=>k (.one (.uk f []))
 | .global _,_=>.fail
def Rw {α:Type 1}(C:List (Nat×Bool)):List aM->(List Sy->Tr α)->Tr α
 |[],k=>k []
 |x::l,k=>o8 C x λs=>Rw C l λr=>k (s::r)
def one (s:Sc):Tr Out:=.ret ⟨[],[],.one s,[]⟩
def wm (p:Prop)(s:Sc):Tr Out:=.ret ⟨[p],[],.one s,[]⟩
def num (n:Int):Sc:=.v (.int .i64 n)
def jb {α:Type 1}(b:Bool)(T:Tr α):Tr α:=match b with
 |true=>T
 |false=>.fail
abbrev Pn:Ty->Nat:=iN
theorem T9 (t:Ty):Pn t=Data.size (El t):=kK t
def ju (k:Bool):Nat->List tM->List Sc×List (Nat×Option R2)
 |_,[]=>([],[])
 |b,.i n::r=>let x:=ju k b r;(num n::x.1,x.2)
 |b,.b e::r=>let x:=ju k b r;(.b (.raw e)::x.1,x.2)
 |b,.s s::r=>let x:=ju k b r;(.v (.string s)::x.1,x.2)
 |b,.l t l::r=>let x:=ju k (b+1) r;(.own b::x.1,(b,some (match k with|true=>.ro t l|false=>.ar t l))::x.2)
 |b,.m q t m::r=>let x:=ju k (b+1) r;(.mp b::x.1,(b,some (match k with|true=>.wE q t m|false=>.BS q t m))::x.2)
 |b,.p t y::r=>let x:=ju k (b+1) r;(.pd b::x.1,(b,some (match k with|true=>.ext (.zN t y)|false=>.ext (.par t y)))::x.2)
def nV:R2->Option ((t:Ty)×List (El t))
 | .ro t l=>some ⟨t,l⟩
 | .ar t l=>some ⟨t,l⟩
 | .row _ t l=>some ⟨t,l⟩
 |_=>none
def Kx:R2->Option ((k:Kc)×(t:Ty)×iU k (El t))
 | .wE k t m=>some ⟨k,t,m⟩
 | .BS k t m=>some ⟨k,t,m⟩
 | .map k t m=>some ⟨k,t,m⟩
 |_=>none
def Po:R2->Option ((t:Ty)×List (El t))
 | .ext (.nest _ _ _ t _ l)=>some ⟨t,l⟩
 |x=>nV x
def acg:R2->Option ((t:Ty)×List (El t))
 | .ext (.nest _ none _ t _ l)=>some ⟨t,l⟩
 |x=>nV x
def ahX:R2->Option ((k:Kc)×(t:Ty)×iU k (El t))
 | .ext (.mW _ k _ t _ m)=>some ⟨k,.list t,m⟩
 |x=>Kx x
def Nl:R2->Option ((k:Kc)×(t:Ty)×iU k (El t))
 | .ext (.mW _ k none t _ m)=>some ⟨k,.list t,m⟩
 |x=>Kx x
def Ky:R2->Option ((t:Ty)×tL (El t))
 | .ext (.zN t x)=>some ⟨t,x⟩
 | .ext (.par t x)=>some ⟨t,x⟩
 |_=>none
def Ua:R2->Option ((t:Ty)×El t)
 | .ext (.Ir t x)=>some ⟨t,x⟩
 | .ext (.CJ t x)=>some ⟨t,x⟩
 |_=>none
def ot:R2->Bool
 | .ar _ _=>false
 | .BS _ _ _=>false
 | .ext (.par _ _)=>false
 | .ext (.CJ _ _)=>false
 |_=>true
def arith (op:BinOp)(k:cZ)(a b:Int):Tr Out:=
 match op with
 | .add=>wm (jh k (a+b)) (.v (.int k (a+b)))
 | .sub=>wm (jh k (a-b)) (.v (.int k (a-b)))
 | .mul=>wm (jh k (a*b)) (.v (.int k (a*b)))
 | .quo=>wm (0<=a/\0<b/\jh k a) (.v (.int k (a/b)))
 | .rem=>wm (0<=a/\0<b) (.v (.int k (a%b)))
 | .eql=>one (.b (.dec (a=b) inferInstance))
 | .neq=>one (.b (.not (.dec (a=b) inferInstance)))
 | .lss=>one (.b (.dec (a<b) inferInstance))
 | .leq=>one (.b (.dec (a<=b) inferInstance))
 | .gtr=>one (.b (.dec (b<a) inferInstance))
 | .geq=>one (.b (.dec (b<=a) inferInstance))
 | .shr=>jb (decide (k= .u64) && decide (b=1)) (one (.v (.int .u64 (a/2))))
 | .xor=>jb (decide (k= .i64) && decide (b=1)) (wm (0<=a/\a<=9223372036854775807) (.v (.int .i64 (if a%2=0 then a+1 else a-1))))
 |_=>.fail
def Zb:BE->BE->BE
 |x,.lit true=>x
 |x,y=>.and x y
def Zc (P:ay)(cs ds:List Sc):List Field->Option BE
 |[]=>some (.lit true)
 |f::fs=>match f.name== "_",P.underlying f.type,cs[f.offset]?,ds[f.offset]?,Zc P cs ds fs with
  |false,some (.int _),some (.v (.int k a)),some (.v (.int k2 b)),some e=>match decide (k=k2) with
   |true=>some (Zb (.dec (a=b) inferInstance) e)
   |false=>none
  |false,some .string,some (.v (.string a)),some (.v (.string b)),some e=>some (Zb (.dec (a=b) inferInstance) e)
  |_,_,_,_,_=>none
def Pp (P:ay)(t:ax)(cs ds:List Sc)(k:BE->Tr Out):Tr Out:=match P.underlying t with
 |some (.struct fs)=>jb (!P.stoodInHeld t && !P.eqGuardType P.depth t) (match Zc P cs ds fs.toList with
  |some e=>k e
  |none=>.fail)
 |_=>.fail
def ada (P:ay)(op:BinOp)(t:ax):Sy->Sy->Tr Out
 | .agg cs,.agg ds=>match op with
  | .eql=>Pp P t cs ds λe=>one (.b e)
  | .neq=>Pp P t cs ds λe=>one (.b (.not e))
  |_=>.fail
 | .one (.v (.int k a)),.one (.v (.int k' b))=>jb (decide (k=k')) (arith op k a b)
 | .one (.v (.string a)),.one (.v (.string b))=>match op with
  | .add=>wm (a.size+b.size<=9223372036854775807) (.v (.string (a++b)))
  | .eql=>one (.b (.dec (a=b) inferInstance))
  | .neq=>one (.b (.not (.dec (a=b) inferInstance)))
  |_=>.fail
 | .one (.pd j),.one (.v (.pointer none))=>match P.underlying t,op with
  |some (.pointer _),.eql=>.res j λx=>match Ky x with
   |some ⟨t',y⟩=>one (.b (.raw (show Option (El t') from y).isNone))
   |none=>.fail
  |some (.pointer _),.neq=>.res j λx=>match Ky x with
   |some ⟨t',y⟩=>one (.b (.raw (show Option (El t') from y).isSome))
   |none=>.fail
  |_,_=>.fail
 | .one (.ptr j off),.one (.v (.pointer none))=>match P.underlying t,op with
  |some (.pointer _),.eql=>one (.b (.lit false))
  |some (.pointer _),.neq=>one (.b (.lit true))
  |_,_=>.fail
 | .one (.uk _ _),.one (.v .nilFunc)=>match P.underlying t,op with
  |some (.func _ _ _),.eql=>one (.b (.lit false))
  |some (.func _ _ _),.neq=>one (.b (.lit true))
  |_,_=>.fail
 | .one (.b a),.one (.b b)=>match P.underlying t,op with
  |some .bool,.eql=>one (.b (.raw (a.den==b.den)))
  |some .bool,.neq=>one (.b (.not (.raw (a.den==b.den))))
  |_,_=>.fail
 |_,_=>.fail
def BU (j q:Nat)(i:Int)(sz:Nat):Nat->List tM->Option (List Sc)
 |_,[]=>some []
 |c,.i n::r=>(BU j q i sz (c+1) r).map (num n:: ·)
 |c,.b e::r=>(BU j q i sz (c+1) r).map (.b (.raw e):: ·)
 |c,.s s::r=>(BU j q i sz (c+1) r).map (.v (.string s):: ·)
 |c,.l _ _::r=>(BU j q i sz (c+1) r).map (.hd j q (.el i sz c):: ·)
 |_,.m _ _ _::_=>none
 |_,.p _ _::_=>none
def ajv (P:ay)(t:ax)(n:Nat)(one:Tr Out)(many:Tr Out):Tr Out:=
 match P.underlying t with
 |some (.struct _)=>jb ((P.info? t).isSome && aP n (P.cellsOf t)) many
 |some (.array _ _)=>.fail
 |some _=>one
 |none=>.fail
def Kz (P:ay)(k:Bool)(b:Nat)(t:ax)(cs:List tM)(off:Nat):Tr Out:=
 match P.underlying t with
 |some (.struct _)=>
  let c:=ju k b ((cs.drop off).take (P.cellsOf t))
  jb ((P.info? t).isSome && aP c.1.length (P.cellsOf t)) (.ret ⟨[],[],.agg c.1,c.2⟩)
 |some (.array _ _)=>.fail
 |some _=>match cs[off]? with
  |some c=>match ju k b [c] with
   |([s],re)=>.ret ⟨[],[],.one s,re⟩
   |_=>.fail
  |none=>.fail
 |none=>.fail
def Ub (P:ay)(b:Nat)(t:ax):Sy->Tr Out
 | .one (.ptr j off)=>.res j λx=>match x with
  | .box _ cs=>match P.underlying t with
   |some (.struct _)=>jb ((P.info? t).isSome && aP ((cs.drop off).take (P.cellsOf t)).length (P.cellsOf t)) (.ret ⟨[],[],.agg ((cs.drop off).take (P.cellsOf t)),[]⟩)
   |some (.array _ _)=>.fail
   |some _=>match cs[off]? with
    |some s=>one s
    |none=>.fail
   |none=>.fail
  | .ext (.Ir t' y)=>Kz P true b t (jo t' y) off
  | .ext (.CJ t' y)=>Kz P false b t (jo t' y) off
  |_=>.fail
 | .one (.el j i sz off)=>.res j λx=>match x with
  | .ext (.nest q none _ t' _ l)=>jb (aP (Pn t') sz) (match P.underlying t with
   |some (.struct _)=>match BU j q i sz off (((jo t' (l.getD i.toNat (zB t'))).drop off).take (P.cellsOf t)) with
    |some c=>jb ((P.info? t).isSome && aP c.length (P.cellsOf t)) (.ret ⟨[],[],.agg c,[]⟩)
    |none=>.fail
   |some (.array _ _)=>.fail
   |some _=>match(jo t' (l.getD i.toNat (zB t')))[off]? with
    |some c=>match BU j q i sz off [c] with
     |some [s]=>one s
     |_=>.fail
    |none=>.fail
   |none=>.fail)
  |x=>match nV x with
   |some ⟨t',l⟩=>jb (aP (Pn t') sz) (Kz P (ot x) b t (jo t' (l.getD i.toNat (zB t'))) off)
   |none=>.fail
 |_=>.fail
def Uc (C:List (Nat×Bool))(c x y:aM):Tr Out:=
 match c with
 | .tmp t=>o8 C c λs=>match s with
  | .one (.b (.lit true))=>o8 C x λr=>.ret ⟨[],[],r,[]⟩
  | .one (.b (.lit false))=>o8 C y λr=>.ret ⟨[],[],r,[]⟩
  | .one (.b e)=>match x,y with
   | .const (.bool true),y=>o8 (C++[(t,false)]) y λr=>match r with
    | .one (.b q)=>one (.b (.or e q))
    |_=>.fail
   |x,.const (.bool false)=>o8 (C++[(t,true)]) x λr=>match r with
    | .one (.b p)=>one (.b (.and e p))
    |_=>.fail
   |_,_=>.fail
  |_=>.fail
 |_=>.fail
def adb {α:Type 1}(l:List Sc)(k:Int->List Sc->Tr α):Tr α:=match l with
 | .v (.int .i64 m)::l=>k m l
 |_=>.fail
def Ud {α:Type 1}(l:List Sc)(k:Bool->List Sc->Tr α):Tr α:=match l with
 | .b e::l=>k e.den l
 |_=>.fail
def ade {α:Type 1}(l:List Sc)(k:ByteArray->List Sc->Tr α):Tr α:=match l with
 | .v (.string m)::l=>k m l
 |_=>.fail
def Ue {α:Type 1}(t:Ty)(l:List Sc)(k:List (El t)->List Sc->Tr α):Tr α:=match l with
 | .own j::l=>.res j λx=>match acg x with
  |some ⟨t',y⟩=>match pP (t:=.list t') (s:=.list t) y with
   |some z=>k z l
   |none=>.fail
  |none=>.fail
 | .v (.slice none 0 0)::l=>k [] l
 |_=>.fail
def adf {α:Type 1}(k:Kc)(t:Ty)(l:List Sc)(c:iU k (El t)->List Sc->Tr α):Tr α:=match l with
 | .mp j::l=>.res j λx=>match Nl x with
  |some ⟨k',t',y⟩=>match pP (t:=.map k' t') (s:=.map k t) y with
   |some z=>c z l
   |none=>.fail
  |none=>.fail
 | .v (.map none)::l=>c ([]:List (jG k×El t)) l
 |_=>.fail
def adg {α:Type 1}(t:Ty)(l:List Sc)(c:tL (El t)->List Sc->Tr α):Tr α:=match l with
 | .pd j::l=>.res j λx=>match Ky x with
  |some ⟨t',y⟩=>match pP (t:=.ptr t') (s:=.ptr t) y with
   |some z=>c z l
   |none=>.fail
  |none=>.fail
 | .ptr j off::l=>match off with
  |0=>.res j λx=>match Ua x with
   |some ⟨t',y⟩=>match pP (t:=t') (s:=t) y with
    |some z=>c (some z:Option (El t)) l
    |none=>.fail
   |none=>.fail
  |_=>.fail
 | .v (.pointer none)::l=>c (none:Option (El t)) l
 |_=>.fail
def Nn {α:Type 1}:(t:Ty)->List Sc->(El t->List Sc->Tr α)->Tr α
 | .int,l,k=>adb l k
 | .bool,l,k=>Ud l k
 | .str,l,k=>ade l k
 | .unit,l,k=>k () l
 | .list t,l,k=>Ue t l k
 | .map q t,l,k=>adf q t l k
 | .ptr t,l,k=>adg t l k
 | .pair p q,l,k=>Nn p l λx l'=>Nn q l' λy l''=>k (x,y) l''
def qm {α:Type 1}(t:Ty)(y:Sy)(k:El t->Tr α):Tr α:=
 match y,kR t with
 | .one c,false=>Nn t [c] λx l=>match l with
  |[]=>k x
  |_=>.fail
 | .agg cs,true=>Nn t cs λx l=>match l with
  |[]=>k x
  |_=>.fail
 |_,_=>.fail
def BV:(k:Kc)->Sy->Option (jG k)
 | .int,.one (.v (.int .i64 n))=>some (show Int from n)
 | .str,.one (.v (.string s))=>some (show ByteArray from s)
 |_,_=>none
def tS (P:ay)(kt:ax):Kc->Bool
 | .int=>match P.underlying kt with
  |some (.int .i64)=>true
  |_=>false
 | .str=>match P.underlying kt with
  |some .string=>true
  |_=>false
def DG (P:ay)(t:ax):Option Sy:=match P.info? t with
 |some i=>i.zero.map FH
 |none=>none
def qn (P:ay)(t:ax)(y:Sy):Hid:=⟨λ_ w=>(zeroValue t).run P w,λA w=>.ok (y.den A) w⟩
def Gi (P:ay)(b:Nat)(t:ax)(ok:Bool)(p q:Sy):Tr Out:=
 match P.underlying t with
 |some (.map kt et)=>match p with
  | .one (.mp j)=>.res j λr=>match r with
   | .ext (.mW qf k none _ _ m)=>match BV k q with
    |some x=>jb (tS P kt k) (match ok with
     |true=>.ret ⟨[mR k x],[qn P et (.one (.v (.slice none 0 0)))],.tN [(false,[.hd j qf (.ky k x)]),(false,[.b (.raw (iI m x).isSome)])],[]⟩
     |false=>.ret ⟨[mR k x],[qn P et (.one (.v (.slice none 0 0)))],.one (.hd j qf (.ky k x)),[]⟩)
    |none=>.fail
   |r=>match Kx r with
   |some ⟨k,ty,m⟩=>match BV k q,DG P et with
    |some x,some z=>jb (tS P kt k) (qm ty z λx0=>
     let c:=ju (ot r) b (jo ty ((iI m x).getD x0))
     match ok with
     |true=>.ret ⟨[mR k x],[qn P et z],.tN [(kR ty,c.1),(false,[.b (.raw (iI m x).isSome)])],c.2⟩
     |false=>match kR ty,c.1 with
      |true,cs=>.ret ⟨[mR k x],[qn P et z],.agg cs,c.2⟩
      |false,[s]=>.ret ⟨[mR k x],[qn P et z],.one s,c.2⟩
      |_,_=>.fail)
    |_,_=>.fail
   |none=>.fail
  |_=>.fail
 |_=>.fail
def qP (P:ay)(C:List (Nat×Bool))(b:Nat):Op->Tr Out
 | .move x=>o8 C x λs=>.ret ⟨[],[],s,[]⟩
 | .assign x=>o8 C x λs=>.ret ⟨[],[],s,[]⟩
 | .unOp .not _ x=>o8 C x λs=>match s with
  | .one (.b e)=>one (.b (.not e))
  |_=>.fail
 | .extract x i=>o8 C x λs=>match s with
  | .tN ps=>match ps[i]? with
   |some (true,cs)=>.ret ⟨[],[],.agg cs,[]⟩
   |some (false,[c])=>one c
   |_=>.fail
  |_=>.fail
 | .nilCheck x=>o8 C x λs=>match s with
  | .one (.ptr j off)=>one (.ptr j off)
  | .one (.el j i sz off)=>one (.el j i sz off)
  | .one (.pd j)=>.res j λx=>match x with
   | .ext (.zN t y)=>.ret ⟨[(show Option (El t) from y).isSome=true],[],.one (.ptr b 0),[(b,some (.ext (.Ir t ((show Option (El t) from y).getD (zB t)))))]⟩
   | .ext (.par t y)=>.ret ⟨[(show Option (El t) from y).isSome=true],[],.one (.ptr b 0),[(b,some (.ext (.CJ t ((show Option (El t) from y).getD (zB t)))))]⟩
   |_=>.fail
  |_=>.fail
 | .binOp op t x y _=>o8 C x λp=>o8 C y λq=>ada P op t p q
 | .convert s d x=>match P.underlying s,P.underlying d with
  |some (.int _),some (.int k)=>o8 C x λp=>match p with
   | .one (.v (.int _ n))=>wm (jh k n) (.v (.int k n))
   |_=>.fail
  |_,_=>.fail
 | .index t x i=>match P.underlying t with
  |some .string=>o8 C x λp=>o8 C i λq=>match p,q with
   | .one (.v (.string s)),.one (.v (.int _ n))=>wm (jg n s.size) (.v (.int .u8 (jk s n)))
   |_,_=>.fail
  |_=>.fail
 | .indexAddr t x i=>match P.underlying t with
  |some (.slice e)=>o8 C x λp=>o8 C i λq=>match p,q with
   | .one (.own j),.one (.v (.int _ n))=>.res j λr=>match Po r with
    |some ⟨t',l⟩=>jb ((P.info? e).isSome) (wm (jg n l.length) (.el j n (P.cellsOf e) 0))
    |none=>.fail
   |_,_=>.fail
  |_=>.fail
 | .fieldAddr t x f=>match P.underlying t with
  |some (.struct fs)=>match fs[f]? with
   |some fd=>jb (bw 0 (P.cellsOf fd.type)) (o8 C x λp=>match p with
    | .one (.ptr j off)=>one (.ptr j (off+fd.offset))
    | .one (.el j i sz off)=>one (.el j i sz (off+fd.offset))
    |_=>.fail)
   |none=>.fail
  |_=>.fail
 | .load t x=>o8 C x λp=>Ub P b t p
 | .field t x f=>match P.underlying t with
  |some (.struct fs)=>match fs[f]? with
   |some fd=>o8 C x λp=>match p with
    | .agg cs=>match P.underlying fd.type with
     |some (.struct _)=>jb ((P.info? fd.type).isSome) (.ret ⟨[],[],.agg ((cs.drop fd.offset).take (P.cellsOf fd.type)),[]⟩)
     |some (.array _ _)=>.fail
     |some _=>match cs[fd.offset]? with
      |some s=>one s
      |none=>.fail
     |none=>.fail
    |_=>.fail
   |none=>.fail
  |_=>.fail
 | .pick c x y=>Uc C c x y
 | .call c=>match c.callee,c.args.toList with
  | .builtin .len,[x]=>match(c.argTypes[0]?).bind P.underlying with
   |some .string=>o8 C x λp=>match p with
    | .one (.v (.string s))=>one (num (s.size:Int))
    |_=>.fail
   |some (.slice _)=>o8 C x λp=>match p with
    | .one (.own j)=>.res j λr=>match r with
     | .ext (.sJ _ s)=>one (num (s.size:Int))
     |r=>match Po r with
      |some ⟨t',l⟩=>one (num (l.length:Int))
      |none=>.fail
    | .one (.v (.slice none 0 0))=>one (num 0)
    |_=>.fail
   |_=>.fail
  | .builtin .max,[x,y]=>o8 C x λp=>o8 C y λq=>match p,q with
   | .one (.v (.int .i64 a)),.one (.v (.int .i64 b))=>one (num (max a b))
   |_,_=>.fail
  | .builtin .min,[x,y]=>o8 C x λp=>o8 C y λq=>match p,q with
   | .one (.v (.int .i64 a)),.one (.v (.int .i64 b))=>one (num (min a b))
   |_,_=>.fail
  |_,_=>.fail
 |_=>.fail
theorem wU (A:jA)(v:af):(tO v).den A=v:=by unfold tO;split<;>rfl
theorem Uf (A:jA)(v:af):(FH v).den A=v:=by
 unfold FH;split
 .rename_i cs;simp only[Sy.den,List.map_map];have:(Sc.den A∘tO)=id:=by funext x;exact wU A x
  rw[this,List.map_id]
 exact wU A _
def Sc.ku (A:jA):Sc->Prop
 | .el j i _ _=>yG (A.v j) i
 |_=>True
def Sy.ku (A:jA):Sy->Prop
 | .one s=>s.ku A
 | .agg cs=> ∀c∈cs,c.ku A
 | .tN ps=> ∀p∈ps,∀c∈p.2,c.ku A
def R2.ku (A:jA):R2->Prop
 | .box _ cs=> ∀c∈cs,c.ku A
 |_=>True
theorem uK (A:jA)(v:af):(tO v).ku A:=by unfold tO;split<;>trivial
theorem wV (F:Nat->Prop)(v:af):(tO v).all F:=by unfold tO;split<;>trivial
theorem Rx (A:jA)(v:af):(FH v).ku A:=by
 unfold FH;split
 .intro c hc;obtain⟨x,_,rfl⟩:=aV.1 hc;exact uK A x
 exact uK A _
theorem Ug (F:Nat->Prop)(v:af):(FH v).all F:=by
 unfold FH;split
 .intro c hc;obtain⟨x,_,rfl⟩:=aV.1 hc;exact wV F x
 exact wV F _
theorem Sc.lZ {F:Nat->Prop}{A B:jA}(h:kZ F A B):∀ {s:Sc},s.all F->s.ku A->s.ku B
 | .el j i _ _,k,g=>by simp only[ku] at g ⊢;rw[<-(h j k).1];exact g
 | .v _,_,_=>trivial
 | .b _,_,_=>trivial
 | .own _,_,_=>trivial
 | .mp _,_,_=>trivial
 | .ptr _ _,_,_=>trivial
 | .uk _ _,_,_=>trivial
 | .hd _ _ _,_,_=>trivial
 | .pd _,_,_=>trivial
theorem Sy.lZ {F:Nat->Prop}{A B:jA}(h:kZ F A B):∀ {s:Sy},s.all F->s.ku A->s.ku B
 | .one _,k,g=>Sc.lZ h k g
 | .agg _,k,g=>λc hc=>Sc.lZ h (k c hc) (g c hc)
 | .tN _,k,g=>λp hp c hc=>Sc.lZ h (k p hp c hc) (g p hp c hc)
theorem R2.lZ {F:Nat->Prop}{A B:jA}(h:kZ F A B):∀ {s:R2},s.all F->s.ku A->s.ku B
 | .box _ _,k,g=>λc hc=>Sc.lZ h (k c hc) (g c hc)
 | .ro _ _,_,_=>trivial
 | .ar _ _,_,_=>trivial
 | .row _ _ _,_,_=>trivial
 | .wE _ _ _,_,_=>trivial
 | .BS _ _ _,_,_=>trivial
 | .map _ _ _,_,_=>trivial
 | .iter _ _ _ _ _ _,_,_=>trivial
 | .ext _,_,_=>trivial
abbrev ji (A:jA)(r:Nat->Option R2):Nat->Option Rs:=λj=>(r j).map (R2.den A j)
def zQ (o:jw)(A:jA)(j:Nat):R2->Prop
 | .ar _ x=>Rd o.old o.w (A.v j) x
 | .BS _ _ x=>Rd o.old o.w (.map (A.m j)) x
 | .ext (.par _ x)=>Rd o.old o.w (.pointer (A.p j)) x
 | .ext (.CJ _ x)=>oD o.old o.w (A.b j) x
 |_=>True
theorem zQ.congr {o:jw}{F:Nat->Prop}{A B:jA}(h:kZ F A B){j:Nat}(k:F j):∀ {x:R2},zQ o A j x->zQ o B j x
 | .ar _ _,q=>by show Rd _ _ _ _;rw[<-(h j k).1];exact q
 | .BS _ _ _,q=>by show Rd _ _ _ _;rw[<-(h j k).2.2.2];exact q
 | .ext (.par _ _),q=>by show Rd _ _ _ _;rw[<-h.p k];exact q
 | .ext (.CJ _ _),q=>by show oD _ _ _ _;rw[<-(h j k).2.1];exact q
 | .ro _ _,_=>trivial
 | .row _ _ _,_=>trivial
 | .box _ _,_=>trivial
 | .wE _ _ _,_=>trivial
 | .map _ _ _,_=>trivial
 | .iter _ _ _ _ _ _,_=>trivial
 | .ext (.nest _ _ _ _ _ _),_=>trivial
 | .ext (.mW _ _ _ _ _ _),_=>trivial
 | .ext (.zN _ _),_=>trivial
 | .ext (.Ir _ _),_=>trivial
 | .ext (.Is _ _ _ _ _),_=>trivial
 | .ext (.FF _),_=>trivial
 | .ext (.sJ _ _),_=>trivial
structure kD (o:jw)(n:Nat)(A:jA)(S:iD)(F:Nat->Prop)(s:Nat->Option E2)(r:Nat->Option R2)(a:Act)(w:aa):Prop where
 size:a.tmps.size=n
 lH:a.defers=[]
 env:∀t e,s t=some e->F9 a ⟨t,e.ch,e.sy.den A⟩
 rE:∀t e,s t=some e->nc a e.ch->e.sy.all F/\e.sy.ku A
 kP:∀j x,r j=some x->F j/\x.all F/\x.ku A
 jl:nM o w S (ji A r)
 args:∀j x,r j=some x->zQ o A j x
 AP:(∀j,o.pF j->F j)/\kZ o.pF o.pA A
def ach (o:jw)(S:iD)(w:aa)(A:jA)(j:Nat):R2->Prop
 | .ro _ x=>Rd S w (A.v j) x
 | .ar _ x=>Rd o.old o.w (A.v j) x
 | .wE _ _ x=>Rd S w (.map (A.m j)) x
 | .BS _ _ x=>Rd o.old o.w (.map (A.m j)) x
 | .ext (.zN _ x)=>Rd S w (.pointer (A.p j)) x
 | .ext (.par _ x)=>Rd o.old o.w (.pointer (A.p j)) x
 | .ext (.Ir _ x)=>oD S w (A.b j) x
 | .ext (.CJ _ x)=>oD o.old o.w (A.b j) x
 |_=>False
def rF (o:jw)(S:iD)(w:aa)(A:jA):Nat->List (Nat×Option R2)->Prop
 |_,[]=>True
 |b,p::l=>b<=p.1/\(∃x,p.2=some x/\ach o S w A p.1 x)/\rF o S w A (p.1+1) l
theorem rF.ahY {o:jw}{S:iD}{w:aa}{A:jA}{b b':Nat}(h:b<=b'):∀ {l:List (Nat×Option R2)},rF o S w A b' l->rF o S w A b l
 |[],_=>trivial
 |_::_,k=>⟨bg h k.1,k.2⟩
def FU (F:Nat->Prop)(re:List (Nat×Option R2)):Nat->Prop:=λj=>F j\/∃x,(j,x)∈re
def CK (o:jw)(S:iD)(w:aa)(k:Bool)(vs:List af)(cs:List tM):Prop:=match k with
 |true=>jU S w vs cs
 |false=>jU o.old o.w vs cs
theorem CK.cons {o:jw}{S:iD}{w:aa}{k:Bool}{v:af}{vs:List af}{c:tM}{cs:List tM}(h:CK o S w k (v::vs) (c::cs)):(match k with|true=>sQ S w v c|false=>sQ o.old o.w v c)/\CK o S w k vs cs:=by
 cases k<;>exact h
theorem CK.Ry {o:jw}{S:iD}{w:aa}{k:Bool}{c:tM}{cs:List tM}(h:CK o S w k [] (c::cs)):False:=by cases k<;>exact h
theorem CK.ahZ {o:jw}{S:iD}{w:aa}{k:Bool}{v:af}{vs:List af}(h:CK o S w k (v::vs) []):False:=by cases k<;>exact h
theorem nB {o:jw}{S:iD}{w:aa}{k:Bool}{B:Nat}:∀(cs:List tM) (vs:List af) (b:Nat) (A:jA) (F:Nat->Prop),CK o S w k vs cs->(∀j,b<=j->j<B->¬F j)->(∀p∈(ju k b cs).2,p.1<B)->
  ∃A',kZ F A A'/\(ju k b cs).1.map (Sc.den A')=vs/\rF o S w A' b (ju k b cs).2/\∀s∈(ju k b cs).1,s.all (FU F (ju k b cs).2)/\s.ku A'
 |[],[],b,A,F,_,_,_=>⟨A,kZ.refl _ _,rfl,tv,λ_ h=>by cases h⟩
 |[],_::_,_,_,_,h,_,_=>h.ahZ.elim
 | .i n::r,[],_,_,_,h,_,_=>h.Ry.elim
 | .b n::r,[],_,_,_,h,_,_=>h.Ry.elim
 | .s n::r,[],_,_,_,h,_,_=>h.Ry.elim
 | .l t n::r,[],_,_,_,h,_,_=>h.Ry.elim
 | .m q t n::r,[],_,_,_,h,_,_=>h.Ry.elim
 | .p t n::r,[],_,_,_,h,_,_=>h.Ry.elim
 | .i n::r,v::vs,b,A,F,h,hF,hB=>by
  obtain⟨A',h1,h2,h3,h4⟩:=nB r vs b A F h.cons.2 hF hB;have hv:v= .int .i64 n:=by cases k<;>exact h.1
  refine⟨A',h1,by show Sc.den A' _::_=_;rw[h2,hv];rfl,h3,λs hs=>?_⟩;rcases aD.1 hs with rfl|hs
  .exact⟨tv,tv⟩
  exact h4 s hs
 | .b n::r,v::vs,b,A,F,h,hF,hB=>by
  obtain⟨A',h1,h2,h3,h4⟩:=nB r vs b A F h.cons.2 hF hB;have hv:v= .bool n:=by cases k<;>exact h.1
  refine⟨A',h1,by show Sc.den A' _::_=_;rw[h2,hv];rfl,h3,λs hs=>?_⟩;rcases aD.1 hs with rfl|hs
  .exact⟨tv,tv⟩
  exact h4 s hs
 | .s n::r,v::vs,b,A,F,h,hF,hB=>by
  obtain⟨A',h1,h2,h3,h4⟩:=nB r vs b A F h.cons.2 hF hB;have hv:v= .string n:=by cases k<;>exact h.1
  refine⟨A',h1,by show Sc.den A' _::_=_;rw[h2,hv];rfl,h3,λs hs=>?_⟩;rcases aD.1 hs with rfl|hs
  .exact⟨tv,tv⟩
  exact h4 s hs
 | .l t n::r,v::vs,b,A,F,h,hF,hB=>by
  obtain⟨p,c,hv⟩:∃p c,v= .slice p n.length c:=by
   cases k
   .obtain⟨p,c,hv,_⟩:=jV (show Rd o.old o.w v n from h.1);exact⟨p,c,hv⟩
   obtain⟨p,c,hv,_⟩:=jV (show Rd S w v n from h.1);exact⟨p,c,hv⟩
  have hA:=kZ.set (A:=A) (F:=F) (j:=b) (hF b (az _) (hB _ aE)) p n.length c 0;obtain⟨A',h1,h2,h3,h4⟩:=nB r vs (b+1) (A.set b p n.length c 0) (λj=>F j\/j=b) h.cons.2 (λj hj hB hn=>by
   rcases hn with hn|hn
   .exact hF j (by omega) hB hn
   omega) (λp hp=>hB p (aI _ hp))
  have hb:(A'.v b)=v:=by rw[<-(h1 b (.inr rfl)).1,jA.si,hv]
  refine⟨A',hA.trans (h1.mono λj hj=>.inl hj),by show Sc.den A' (.own b)::_=_;rw[h2];simp only[Sc.den,hb],⟨az _,⟨_,rfl,by
   cases k
   .show Rd _ _ (A'.v b) _;rw[hb];exact h.1
   show Rd _ _ (A'.v b) _;rw[hb];exact h.1⟩,h3⟩,λs hs=>?_⟩
  rcases aD.1 hs with rfl|hs
  .exact⟨.inr ⟨_,aE⟩,tv⟩
  refine⟨Sc.mono (λj hj=>?_) (h4 s hs).1,(h4 s hs).2⟩;rcases hj with(hj|hj)|⟨x,hx⟩
  .exact .inl hj
  .subst hj;exact .inr ⟨_,aE⟩
  exact .inr ⟨x,aI _ hx⟩
 | .m q t n::r,v::vs,b,A,F,h,hF,hB=>by
  obtain⟨y,hv⟩:∃y,v= .map y:=by
   cases k
   .obtain⟨y,hv,_⟩:=yW (show Rd o.old o.w v n from h.1);exact⟨y,hv⟩
   obtain⟨y,hv,_⟩:=yW (show Rd S w v n from h.1);exact⟨y,hv⟩
  have hA:=kZ.ja (A:=A) (F:=F) (j:=b) (hF b (az _) (hB _ aE)) y;obtain⟨A',h1,h2,h3,h4⟩:=nB r vs (b+1) (A.ja b y) (λj=>F j\/j=b) h.cons.2 (λj hj hB hn=>by
   rcases hn with hn|hn
   .exact hF j (by omega) hB hn
   omega) (λp hp=>hB p (aI _ hp))
  have hb:(.map (A'.m b))=v:=by rw[<-(h1 b (.inr rfl)).2.2.2,jA.DE,hv]
  refine⟨A',hA.trans (h1.mono λj hj=>.inl hj),by show Sc.den A' (.mp b)::_=_;rw[h2];simp only[Sc.den,hb],⟨az _,⟨_,rfl,by
   cases k
   .show Rd _ _ (.map (A'.m b)) _;rw[hb];exact h.1
   show Rd _ _ (.map (A'.m b)) _;rw[hb];exact h.1⟩,h3⟩,λs hs=>?_⟩
  rcases aD.1 hs with rfl|hs
  .exact⟨.inr ⟨_,aE⟩,tv⟩
  refine⟨Sc.mono (λj hj=>?_) (h4 s hs).1,(h4 s hs).2⟩;rcases hj with(hj|hj)|⟨x,hx⟩
  .exact .inl hj
  .subst hj;exact .inr ⟨_,aE⟩
  exact .inr ⟨x,aI _ hx⟩
 | .p t n::r,v::vs,b,A,F,h,hF,hB=>by
  obtain⟨y,hv⟩:∃y,v= .pointer y:=by
   cases k
   .exact(vB (show Rd o.old o.w v n from h.1)).val
   exact(vB (show Rd S w v n from h.1)).val
  have hA:=kZ.set (A:=A) (F:=F) (j:=b) (hF b (az _) (hB _ aE)) y 0 0 0;obtain⟨A',h1,h2,h3,h4⟩:=nB r vs (b+1) (A.set b y 0 0 0) (λj=>F j\/j=b) h.cons.2 (λj hj hB hn=>by
   rcases hn with hn|hn
   .exact hF j (by omega) hB hn
   omega) (λp hp=>hB p (aI _ hp))
  have hb:(.pointer (A'.p b))=v:=by rw[<-h1.p (.inr rfl),jA.afL,hv]
  refine⟨A',hA.trans (h1.mono λj hj=>.inl hj),by show Sc.den A' (.pd b)::_=_;rw[h2];simp only[Sc.den,hb],⟨az _,⟨_,rfl,by
   cases k
   .show Rd _ _ (.pointer (A'.p b)) _;rw[hb];exact h.1
   show Rd _ _ (.pointer (A'.p b)) _;rw[hb];exact h.1⟩,h3⟩,λs hs=>?_⟩
  rcases aD.1 hs with rfl|hs
  .exact⟨.inr ⟨_,aE⟩,tv⟩
  refine⟨Sc.mono (λj hj=>?_) (h4 s hs).1,(h4 s hs).2⟩;rcases hj with(hj|hj)|⟨x,hx⟩
  .exact .inl hj
  .subst hj;exact .inr ⟨_,aE⟩
  exact .inr ⟨x,aI _ hx⟩
section
variable {P:ay}{o:jw}{n:Nat}{A:jA}{S:iD}{F:Nat->Prop}{s:Nat->Option E2}{r:Nat->Option R2}{a:Act}{w:aa}{C:List (Nat×Bool)}{b:Nat}
theorem xP (H:kD o n A S F s r a w){j:Nat}{x:R2}(hj:r j=some x){t:Ty}{l:List (El t)}(hx:nV x=some ⟨t,l⟩):Rd (· <w.heap.size) w (A.v j) l:=by
 have hm:ji A r j=some (x.den A j):=by simp[ji,hj]
 cases x with
 |ro t' l'=>cases hx;exact Rd.up H.jl.nN (H.jl.ok j _ hm)
 |ar t' l'=>cases hx;exact(Rd.keep H.jl.old (H.args j _ hj)).up λ_ hk=>bh hk.1 H.jl.sj.size
 |row e t' l'=>cases hx;exact(mI.rd (H.jl.ok j _ hm)).up λk hk=>hk.elim (H.jl.nN k) λq=>(H.jl.own j _ k hm q).2.1
 |ext y=>
  cases y with
  |_=>cases hx
 |_=>cases hx
theorem KA (H:kD o n A S F s r a w){j:Nat}{x:R2}(hj:r j=some x){k:Kc}{t:Ty}{m:iU k (El t)}(hx:Kx x=some ⟨k,t,m⟩):(A.m j=none/\m=([]:List (jG k×El t)))\/
  ∃b,∃zs:List (jG k×(af×El t)),A.m j=some b/\lG k w b (zs.map λq=>(q.1,q.2.1))/\m=zs.map (λq=>(q.1,q.2.2))/\∀z∈zs,match ot x with
   |true=>Rd S w z.2.1 z.2.2
   |false=>Rd o.old o.w z.2.1 z.2.2:=by
 have hm:ji A r j=some (x.den A j):=by simp[ji,hj]
 cases x with
 |wE k' t' m'=>
  cases hx;have h:Rd S w (.map (A.m j)) m:=H.jl.ok j _ hm;obtain⟨y,hy,h⟩:=yW h;cases hy;cases hA:A.m j with
  |none=>rw[hA] at h;exact .inl ⟨rfl,h⟩
  |some b=>rw[hA] at h;have⟨_,zs,h1,h2,h3⟩:=h;exact .inr ⟨b,zs,rfl,h1,h2,h3⟩
 |BS k' t' m'=>
  cases hx;obtain⟨y,hy,h⟩:=yW (H.args j _ hj);cases hy;cases hA:A.m j with
  |none=>rw[hA] at h;exact .inl ⟨rfl,h⟩
  |some b=>rw[hA] at h;have⟨hb,zs,h1,h2,h3⟩:=h;exact .inr ⟨b,zs,rfl,h1.keep (H.jl.old b hb),h2,h3⟩
 |map k' t' m'=>
  cases hx;obtain⟨b,e,zs,h1,h2,h3⟩:=H.jl.ok j _ hm;exact .inr ⟨b,zs,e,h1,h2,h3⟩
 |_=>cases hx
theorem Iw (H:kD o n A S F s r a w){j:Nat}{x:R2}(hj:r j=some x){t:Ty}{l:List (El t)}(hx:nV x=some ⟨t,l⟩){i:Int}(h0:0<=i)(h1:i<(l.length:Int)):
  ∃cs,CK o S w (ot x) cs (jo t (l.getD i.toNat (zB t)))/\cs.length=Data.size (El t)/\∀q,q<Data.size (El t)->w.cell? ⟨Fs (A.v j),Ft (A.v j)+i.toNat*Data.size (El t)+q,none⟩=cs[q]?:=by
 have hm:ji A r j=some (x.den A j):=by simp[ji,hj]
 cases x with
 |ro t' l'=>
  cases hx;have hr:Rd S w (A.v j) l:=H.jl.ok j _ hm;obtain⟨cs,k1,k2⟩:=Ge (C:=(· =w)) (T:=S) (λw' e=>by subst e;exact kU.refl _ _) hr h0 h1 (zB t);exact⟨cs,pO t k1,Data.len k1,λq hq=>k2 q hq w rfl⟩
 |ar t' l'=>
  cases hx;have hr:Rd o.old o.w (A.v j) l:=H.args j _ hj;obtain⟨cs,k1,k2⟩:=Ge (C:=(· =w)) (T:=o.old) (λw' e=>by subst e;exact H.jl.old) hr h0 h1 (zB t);exact⟨cs,pO t k1,Data.len k1,λq hq=>k2 q hq w rfl⟩
 |row e t' l'=>
  cases hx;obtain⟨cs,k1,k2⟩:=mI.cells (show mI S w e (A.v j) l from H.jl.ok j _ hm) h0 h1 (zB t);exact⟨cs,pO t k1,Data.len k1,λq hq=>k2 q hq⟩
 |ext y=>
  cases y with
  |_=>cases hx
 |_=>cases hx
theorem DH (H:kD o n A S F s r a w){j:Nat}{x:R2}(hj:r j=some x){t:Ty}{l:List (El t)}(hx:Po x=some ⟨t,l⟩):∃p c,A.v j= .slice p l.length c/\(0<l.length->∃g f,p=some ⟨g,f,none⟩):=by
 have old:nV x=some ⟨t,l⟩->∃p c,A.v j= .slice p l.length c/\(0<l.length->∃g f,p=some ⟨g,f,none⟩):=λhx=>by
  obtain⟨p,c,h1,_,_,h2⟩:=jV (xP H hj hx);refine⟨p,c,h1,λh=>?_⟩;rcases h2 with rfl|⟨g,f,_,_,_,h2,_⟩
  .cases h
  exact⟨g,f,h2⟩
 cases x with
 |ext y=>
  cases y with
  |nest q h e t' ie l'=>
   cases hx;have hm:pQ S w (A.v j) (A.f q) h e t ie l:=H.jl.ok j _ (show ji A r j=some _ by simp[ji,hj];rfl);have⟨xs,h1,_⟩:=hm.row;rcases h1.2 with⟨hv,hn⟩|⟨g,d,cap,cur,hv,_⟩
   .exact⟨_,_,by rw[hv,hn],λq=>by omega⟩
   exact⟨_,_,hv,λ_=>⟨_,_,rfl⟩⟩
  |_=>cases hx
 |_=>exact old hx
theorem Rz (H:kD o n A S F s r a w){j:Nat}{x:R2}(hj:r j=some x){t:Ty}{l:List (El t)}(hx:Po x=some ⟨t,l⟩){i:Int}(h0:0<=i)(h1:i<(l.length:Int)):yG (A.v j) i:=by
 obtain⟨p,c,h2,h3⟩:=DH H hj hx;obtain⟨g,f,rfl⟩:=h3 (by omega);exact⟨g,f,_,c,h2,h0,h1⟩
theorem zR {t:Ty}:∀ {l:List (El t)} {i off:Nat} (hi:i<l.length),off<iN t->(ov t l)[i*iN t+off]?=(jo t (l.getD i (zB t)))[off]?
 |x::l,0,off,_,ho=>by
  show(jo t x++ov t l)[0*iN t+off]?=(jo t x)[off]?;rw[cT,cG,List.getElem?_append_left (by rw[lM];exact ho)]
 |x::l,i+1,off,hi,ho=>by
  show(jo t x++ov t l)[(i+1)*iN t+off]?=(jo t (l.getD i (zB t)))[off]?;rw[List.getElem?_append_right (by rw[lM,bT];omega),lM,show(i+1)*iN t+off-iN t=i*iN t+off by rw[bT];omega];exact zR (by simpa using hi) ho
theorem oq.cell {e:ax}{sz:Nat}{v:af}{n:Nat}{xs:List af}(h:oq w e sz v n xs){c:Nat}{u:af}(hc:xs[c]?=some u):w.cell? ⟨Fs v,Ft v+c,none⟩=some u:=by
 have hl:=(bW.1 hc).1;rcases h.2 with⟨_,rfl⟩|⟨g,d,cap,cur,rfl,hg,h1,h2,h3,h4⟩
 .have:=h.1;omega
 show w.cell? ⟨g,d*sz+c,none⟩=_;rw[cell_of_row w g _ cur e (0,0) hg,<-hc,<-h4,bK,ak (by rw[<-h.1];exact hl),b7,akm]
theorem A4 {v:af}{f:Lit->af}{e:ax}{t:Ty}{ie:ax}{l:List (El t)}(h:pQ S w v f none e t ie l){i:Int}(h0:0<=i)(h1:i<(l.length:Int)){off:Nat}{c:tM}(hc:(jo t (l.getD i.toNat (zB t)))[off]?=some c):
  w.cell? ⟨Fs v,Ft v+(i.toNat*iN t+off),none⟩=some (f (ix (i.toNat*iN t+off)))/\yB S w ie (f (ix (i.toNat*iN t+off))) c:=by
 have⟨xs,k1,_,k2⟩:=h.row;have ho:off<iN t:=by have:=(bW.1 hc).1;rwa[lM] at this
 obtain⟨k3,k4⟩:=k2 (i.toNat*iN t+off) c (by rw[zR (by omega) ho];exact hc) (by simp);exact⟨k1.cell k3,k4⟩
theorem DI {ie:ax}{j q:Nat}{i:Int}{sz:Nat}:∀ {cs:List tM} {c:Nat} {out:List Sc},BU j q i sz c cs=some out->(∀d x,cs[d]?=some x->yB S w ie (A.f q (ix (i.toNat*sz+(c+d)))) x)->
  out.length=cs.length/\∀d u,out[d]?=some u->u.den A=A.f q (ix (i.toNat*sz+(c+d)))/\(F j->F q->u.all F)/\u.ku A
 |[],c,out,h,_=>by cases h;exact⟨rfl,λd u q=>by simp at q⟩
 |x::r,c,out,h,k=>by
  have k0:=k 0 x rfl;have k1:∀d y,r[d]?=some y->yB S w ie (A.f q (ix (i.toNat*sz+(c+1+d)))) y:=λd y hy=>by
   have:=k (d+1) y (by simpa using hy);rwa[show c+(d+1)=c+1+d by omega] at this
  have main:∀z:Sc,(BU j q i sz (c+1) r).map (z:: ·)=some out->(z.den A=A.f q (ix (i.toNat*sz+(c+0)))/\(F j->F q->z.all F)/\z.ku A)->out.length=(x::r).length/\∀d u,out[d]?=some u->u.den A=A.f q (ix (i.toNat*sz+(c+d)))/\(F j->F q->u.all F)/\u.ku A:=by
   intro z hz hzk;obtain⟨o',h1,rfl⟩:=aX.1 hz;obtain⟨h2,h3⟩:=DI h1 k1;refine⟨by simp[h2],λd u hu=>?_⟩;cases d with
   |zero=>
    have:z=u:=by simpa using hu
    subst this;exact hzk
   |succ d=>
    have:=h3 d u (by simpa using hu);rwa[show c+(d+1)=c+1+d by omega]
  cases x with
  |i n=>exact main _ h ⟨k0.1.symm,λ_ _=>trivial,tv⟩
  |b n=>exact main _ h ⟨k0.1.symm,λ_ _=>trivial,tv⟩
  |s n=>exact main _ h ⟨k0.1.symm,λ_ _=>trivial,tv⟩
  |l t n=>exact main _ h ⟨rfl,λh1 h2=>⟨h1,h2⟩,tv⟩
  |m _ _ _=>cases h
  |p _ _=>cases h
theorem Gn (H:kD o n A S F s r a w)(hC:nc a C){t:Nat}{e:E2}(he:s t=some e)(hp:e.ch.isPrefixOf C=true):a.tmps[t]?=some (e.sy.den A):=(H.env t e he).1 (rz hp hC)
theorem iR {α:Type 1}(H:kD o n A S F s r a w)(hC:nc a C){x:aM}{k:Sy->Tr α}{out:α}(h:(o8 C x k).run s r=some out):∃y:Sy,a.eval x=y.den A/\y.all F/\y.ku A/\(k y).run s r=some out:=by
 cases x with
 |tmp t=>
  simp only[o8,Tr.run] at h;split at h
  .rename_i e he;split at h
   .rename_i hp;refine⟨e.sy,?_,(H.rE t e he (rz hp hC)).1,(H.rE t e he (rz hp hC)).2,h⟩;simp only[dz,cq,Gn H hC he hp,cK]
   cases h
  cases h
 |const v=>exact⟨FH v,(Uf A v).symm,Ug F v,Rx A v,h⟩
 |func f=>exact⟨.one (.uk f []),rfl,λc hc=>(by cases hc),tv,h⟩
 |global g=>cases h
theorem iB {α:Type 1}{b:Bool}{T:Tr α}{out:α}(h:(jb b T).run s r=some out):b=true/\T.run s r=some out:=by
 cases b with
 |true=>exact⟨rfl,h⟩
 |false=>cases h
theorem iW {α:Type 1}{j:Nat}{k:R2->Tr α}{out:α}(h:(Tr.res j k).run s r=some out):∃x,r j=some x/\(k x).run s r=some out:=by
 simp only[Tr.run] at h;split at h
 .rename_i e he;exact⟨e,he,h⟩
 cases h
def DJ (P:ay)(o:jw)(A:jA)(S:iD)(F:Nat->Prop)(w:aa)(b:Nat)(op:Op)(a:Act)(out:Out):Prop:=
 ∃A',kZ F A A'/\(∀o:aC,o.op=op->de P (· =w) w (out.sy.den A') ((execOp a.eval o).run P w))/\out.sy.all (FU F out.re)/\out.sy.ku A'/\rF o S w A' b out.re
theorem jK {op:Op}{out:Out}{mF:Option af}{p:Prop}(FI:out.re=[])(mw:out.sy.all F)(hg:out.sy.ku A)(h:kQ P (· =w) (λx=>some (a.eval x)) op mF=some (out.sy.den A,p))(hp:p):DJ P o A S F w b op a out:=by
 refine⟨A,kZ.refl _ _,λo ho=>?_,Sy.mono (λj hj=>.inl hj) mw,hg,by rw[FI];trivial⟩;subst ho;exact Ii (ρ:=a.eval) (λx u hx=>bD hx) h hp w rfl
theorem jC {c:Sc}{out:Out}(h:(one c).run s r=some out):out=⟨[],[],.one c,[]⟩:=(bD h).symm
theorem nC {p:Prop}{c:Sc}{out:Out}(h:(wm p c).run s r=some out)(hc:∀q∈out.cs,q):out=⟨[p],[],.one c,[]⟩/\p:=by
 have e:=(bD h).symm;subst e;exact⟨rfl,hc p (by simp)⟩
theorem Iy (a b:ByteArray):(a.toList==b.toList)=decide (a=b):=by
 by_cases h:a=b
 .subst h;simp
 rw[bQ h];refine anb.2 λq=>h (afF q)
theorem ah0 (n:Nat):n ^^^ 1=if n%2=0 then n+1 else n-1:=by
 have h1:(n ^^^ 1)/2=n/2:=by rw[Nat.xor_div_two];simp
 have h2:(n ^^^ 1)%2=(n+1)%2:=by
  have h:(n ^^^ 1)%2 ^ 1=(n%2 ^ 1) ^^^ (1%2 ^ 1):=Nat.xor_mod_two_pow;rw[Nat.pow_one] at h;rw[h];rcases Nat.mod_two_eq_zero_or_one n with q|q
  .rw[q];show 1=_;omega
  rw[q];show 0=_;omega
 split<;>omega
theorem Uh {op:aC}{t t':ax}{x y:aM}{n:Int}(ho:op.op= .binOp .xor t x y t')(hx:a.eval x= .int .i64 n)(hy:a.eval y= .int .i64 1)(hn:0<=n/\n<=9223372036854775807):de P (· =w) w (.int .i64 (if n%2=0 then n+1 else n-1)) ((execOp a.eval op).run P w):=by
 obtain⟨m,rfl⟩:=Int.eq_ofNat_of_zero_le hn.1;have hm:m<2 ^ 64:=by omega
 have h1:(anm .xor .i64 (m:Int) 1)=pure (.int .i64 (if(m:Int)%2=0 then(m:Int)+1 else(m:Int)-1)):=by
  show(pure (bY .i64 (ann.wrap (((BitVec.ofInt 64 (m:Int)) ^^^ (BitVec.ofInt 64 1)).toNat:Int))):Sem af)=_;have e1:(BitVec.ofInt 64 (m:Int)).toNat=m:=by
   rw[BitVec.toNat_ofInt];omega
  have e2:(BitVec.ofInt 64 1).toNat=1:=by decide
  rw[BitVec.toNat_xor,e1,e2,ah0]
  congr 2
  have e3:(((if m%2=0 then m+1 else m-1:Nat)):Int)=if(m:Int)%2=0 then(m:Int)+1 else(m:Int)-1:=by split<;>split<;>omega
  rw[e3];exact jh.wrap (k:=.i64) ⟨by split<;>omega,by split<;>omega⟩
 have h2:(eqGuard .xor t x y (.int .i64 (m:Int)) (.int .i64 1)).run P w= .ok () w:=by simp[eqGuard,bz]
 simp only[execOp,ho,aO,hx,hy,h2,bV];have h3:(binOp .xor t (.int .i64 (m:Int)) (.int .i64 1))=anm .xor .i64 (m:Int) 1:=rfl;rw[h3,h1];exact⟨rfl,rfl⟩
theorem DK {op:aC}{t t' e:ax}{x y:aM}{p:Option bC}(hu:P.underlying t=some (.pointer e))(ho:op.op= .binOp .eql t x y t')(hx:a.eval x= .pointer p)(hy:a.eval y= .pointer none):de P (· =w) w (.bool p.isNone) ((execOp a.eval op).run P w):=by
 have h1:(akt t (.pointer p) (.pointer none)).run P w= .ok p.isNone w:=by
  unfold Op.equal;rw[show aka=(aka-1)+1 from by decide];cases p<;>(unfold Op.equalIn;rw[aO,run_underlying hu];rfl)
 have h2:(eqGuard .eql t x y (.pointer p) (.pointer none)).run P w= .ok () w:=by simp[eqGuard,bz]
 simp only[execOp,ho,aO,hx,hy,h2,bV,binOp,h1,bz];exact⟨rfl,rfl⟩
theorem DL {op:aC}{t t' e:ax}{x y:aM}{p:Option bC}(hu:P.underlying t=some (.pointer e))(ho:op.op= .binOp .neq t x y t')(hx:a.eval x= .pointer p)(hy:a.eval y= .pointer none):de P (· =w) w (.bool p.isSome) ((execOp a.eval op).run P w):=by
 have h1:(akt t (.pointer p) (.pointer none)).run P w= .ok p.isNone w:=by
  unfold Op.equal;rw[show aka=(aka-1)+1 from by decide];cases p<;>(unfold Op.equalIn;rw[aO,run_underlying hu];rfl)
 have h2:(eqGuard .neq t x y (.pointer p) (.pointer none)).run P w= .ok () w:=by simp[eqGuard,bz]
 simp only[execOp,ho,aO,hx,hy,h2,bV,binOp,h1,bz];exact⟨rfl,by cases p<;>rfl⟩
theorem No {op:aC}{t t':ax}{x y:aM}{g:Fn}{p c:Array af}{e1 e2:Array ax}{e3:Bool}(hu:P.underlying t=some (.func e1 e2 e3))(ho:op.op= .binOp .eql t x y t')(hx:a.eval x= .func g p c)(hy:a.eval y= .nilFunc):de P (· =w) w (.bool false) ((execOp a.eval op).run P w):=by
 have h1:(akt t (.func g p c) .nilFunc).run P w= .ok false w:=by
  unfold Op.equal;rw[show aka=(aka-1)+1 from by decide];unfold Op.equalIn;rw[aO,run_underlying hu];rfl
 have h2:(eqGuard .eql t x y (.func g p c) .nilFunc).run P w= .ok () w:=by simp[eqGuard,bz]
 simp only[execOp,ho,aO,hx,hy,h2,bV,binOp,h1,bz];exact⟨rfl,rfl⟩
theorem Np {op:aC}{t t':ax}{x y:aM}{g:Fn}{p c:Array af}{e1 e2:Array ax}{e3:Bool}(hu:P.underlying t=some (.func e1 e2 e3))(ho:op.op= .binOp .neq t x y t')(hx:a.eval x= .func g p c)(hy:a.eval y= .nilFunc):de P (· =w) w (.bool true) ((execOp a.eval op).run P w):=by
 have h1:(akt t (.func g p c) .nilFunc).run P w= .ok false w:=by
  unfold Op.equal;rw[show aka=(aka-1)+1 from by decide];unfold Op.equalIn;rw[aO,run_underlying hu];rfl
 have h2:(eqGuard .neq t x y (.func g p c) .nilFunc).run P w= .ok () w:=by simp[eqGuard,bz]
 simp only[execOp,ho,aO,hx,hy,h2,bV,binOp,h1,bz];exact⟨rfl,rfl⟩
theorem Ui (H:kD o n A S F s r a w){op:BinOp}{t t':ax}{x y:aM}{k:cZ}{m q:Int}{out:Out}(hx:a.eval x= .int k m)(hy:a.eval y= .int k q)(h:(arith op k m q).run s r=some out)(hc:∀p∈out.cs,p):DJ P o A S F w b (.binOp op t x y t') a out/\out.hs=[]:=by
 cases op
 case add=>obtain⟨rfl,hp⟩:=nC h hc;exact⟨jK (mF:=none) rfl tv tv (by simp only[kQ,hx,hy,oV,if_true];rfl) hp,rfl⟩
 case sub=>obtain⟨rfl,hp⟩:=nC h hc;exact⟨jK (mF:=none) rfl tv tv (by simp only[kQ,hx,hy,oV,if_true];rfl) hp,rfl⟩
 case mul=>obtain⟨rfl,hp⟩:=nC h hc;exact⟨jK (mF:=none) rfl tv tv (by simp only[kQ,hx,hy,oV,if_true];rfl) hp,rfl⟩
 case quo=>obtain⟨rfl,hp⟩:=nC h hc;exact⟨jK (mF:=none) rfl tv tv (by simp only[kQ,hx,hy,oV,if_true];rfl) hp,rfl⟩
 case rem=>obtain⟨rfl,hp⟩:=nC h hc;exact⟨jK (mF:=none) rfl tv tv (by simp only[kQ,hx,hy,oV,if_true];rfl) hp,rfl⟩
 case shr=>
  obtain⟨hg,h2⟩:=iB h;rw[aR] at hg;have hk:=aA hg.1;have hb:=aA hg.2;subst hk;subst hb;rw[jC h2];exact⟨jK (mF:=some (.int .u64 (m/2))) rfl tv tv (by simp only[kQ,hx,hy,oV];rfl) (Y5 (by decide)),rfl⟩
 case xor=>
  obtain⟨hg,h2⟩:=iB h;rw[aR] at hg;have hk:=aA hg.1;have hb:=aA hg.2;subst hk;subst hb;obtain⟨rfl,hp⟩:=nC h2 hc;exact⟨⟨A,kZ.refl _ _,λop ho=>Uh ho hx hy hp,tv,tv,tv⟩,rfl⟩
 case eql=>rw[jC h];exact⟨jK (mF:=none) (p:=True) rfl tv tv (by simp only[kQ,hx,hy,oV,if_true];rfl) tv,rfl⟩
 case neq=>rw[jC h];exact⟨jK (mF:=none) (p:=True) rfl tv tv (by simp only[kQ,hx,hy,oV,if_true];rfl) tv,rfl⟩
 case lss=>rw[jC h];exact⟨jK (mF:=none) (p:=True) rfl tv tv (by simp only[kQ,hx,hy,oV,if_true];rfl) tv,rfl⟩
 case leq=>rw[jC h];exact⟨jK (mF:=none) (p:=True) rfl tv tv (by simp only[kQ,hx,hy,oV,if_true];rfl) tv,rfl⟩
 case gtr=>rw[jC h];exact⟨jK (mF:=none) (p:=True) rfl tv tv (by simp only[kQ,hx,hy,oV,if_true];rfl) tv,rfl⟩
 case geq=>rw[jC h];exact⟨jK (mF:=none) (p:=True) rfl tv tv (by simp only[kQ,hx,hy,oV,if_true];rfl) tv,rfl⟩
 all_goals cases h
theorem KB (x y:BE):(Zb x y).den=(x.den && y.den):=by
 unfold Zb;split
 .simp[BE.den]
 rfl
theorem Iz {cs ds:List Sc}(d:Nat):∀ {fs:List Field} {e:BE},Zc P cs ds fs=some e->(amf (d+1) (cs.map (Sc.den A)).toArray (ds.map (Sc.den A)).toArray fs).run P w= .ok e.den w
 |[],e,h=>by cases h;rfl
 |f::fs,e,h=>by
  unfold Zc at h;have uJ:∀ {l:List Sc} {x:Sc},l[f.offset]?=some x->((l.map (Sc.den A)).toArray)[f.offset]?=some (x.den A):=λhl=>by rw[ajR,b9,hl];rfl
  split at h
  .rename_i k' k a k2 b e' hn hu h1 h2 h3;split at h
   .rename_i hk;have hk:=aA hk;subst hk;cases h;have hp:P.plainKey f.type=true:=by unfold Program.plainKey;rw[hu]
    have Rk:f.name≠ "_" :=by simpa using hn
    simp only[amf,ak Rk,aO,run_part_plain w hp (uJ h1),run_part_plain w hp (uJ h2),bV,Sc.den,run_equalIn_int w d f.type k k' a b hu,KB,BE.den]
    by_cases q:a=b
    .subst q;simp[Iz d h3]
    simp[q,bz]
   cases h
  .rename_i a b e' hn hu h1 h2 h3;cases h;have hp:P.plainKey f.type=true:=by unfold Program.plainKey;rw[hu]
   have Rk:f.name≠ "_" :=by simpa using hn
   simp only[amf,ak Rk,aO,run_part_plain w hp (uJ h1),run_part_plain w hp (uJ h2),bV,Sc.den,run_equalIn_string w d f.type a b hu,KB,BE.den,Iy]
   by_cases q:a=b
   .subst q;simp[Iz d h3]
   simp[q,bz]
  cases h
theorem Gp {t:ax}{cs ds:List Sc}{k:BE->Tr Out}{out:Out}(h:(Pp P t cs ds k).run s r=some out):∃e:BE,(k e).run s r=some out/\P.eqGuardType P.depth t=false/\(Op.equalIn 10000 t (.agg (cs.map (Sc.den A)).toArray) (.agg (ds.map (Sc.den A)).toArray)).run P w= .ok e.den w:=by
 unfold Pp at h;split at h
 .rename_i fs hu;obtain⟨hg,h⟩:=iB h;simp only[aR,Bool.not_eq_true'] at hg;split at h
  .rename_i e he;refine⟨e,h,hg.2,?_⟩;have hf:P.fieldsOf t=fs:=by unfold Program.fieldsOf;rw[hu]
   rw[run_equalIn_struct w 9999 t _ _ (by rw[hf];exact hu) hg.1,hf];exact Iz 9998 he
  cases h
 cases h
theorem Zd (H:kD o n A S F s r a w){op:BinOp}{t t':ax}{x y:aM}{p q:Sy}{out:Out}(hx:a.eval x=p.den A)(hy:a.eval y=q.den A)(h:(ada P op t p q).run s r=some out)(hc:∀p∈out.cs,p):DJ P o A S F w b (.binOp op t x y t') a out/\out.hs=[]:=by
 unfold ada at h;split at h
 .rename_i cs ds;have hx:a.eval x= .agg (cs.map (Sc.den A)).toArray:=hx;have hy:a.eval y= .agg (ds.map (Sc.den A)).toArray:=hy;split at h
  .obtain⟨e,h,hg,he⟩:=Gp (A:=A) (w:=w) h;rw[jC h];refine⟨⟨A,kZ.refl _ _,λop ho=>?_,tv,tv,tv⟩,rfl⟩;simp only[execOp,ho,aO,hx,hy,run_eqGuard_agg w .eql t x y _ _ hg,bV,run_eql_struct,he];exact⟨rfl,rfl⟩
  .obtain⟨e,h,hg,he⟩:=Gp (A:=A) (w:=w) h;rw[jC h];refine⟨⟨A,kZ.refl _ _,λop ho=>?_,tv,tv,tv⟩,rfl⟩;simp only[execOp,ho,aO,hx,hy,run_eqGuard_agg w .neq t x y _ _ hg,bV,run_neq_struct,he];exact⟨rfl,rfl⟩
  cases h
 .obtain⟨hk,h2⟩:=iB h;have hk:=aA hk;subst hk;exact Ui H hx hy h2 hc
 .rename_i u v;have hx:a.eval x= .string u:=hx;have hy:a.eval y= .string v:=hy;split at h
  .obtain⟨rfl,hp⟩:=nC h hc;exact⟨jK (mF:=none) rfl tv tv (by simp only[kQ,hx,hy,oV];rfl) hp,rfl⟩
  .rw[jC h];exact⟨jK (mF:=none) (p:=True) rfl tv tv (by simp only[kQ,hx,hy,oV,Iy];rfl) tv,rfl⟩
  .rw[jC h];exact⟨jK (mF:=none) (p:=True) rfl tv tv (by simp only[kQ,hx,hy,oV,Iy];rfl) tv,rfl⟩
  cases h
 .rename_i j;have hx:a.eval x= .pointer (A.p j):=hx;have hy:a.eval y= .pointer none:=hy;have key:∀ {z:R2} {t':Ty} {d:tL (El t')},r j=some z->Ky z=some ⟨t',d⟩->(A.p j).isNone=(show Option (El t') from d).isNone:=by
   intro z t' d hz hd;have nO:∃T w',sP T w' (.pointer (A.p j)) d:=by
    cases z with
    |ext z=>
     cases z with
     |zN t x=>cases hd;exact⟨S,w,vB (H.jl.ok j _ (show ji A r j=some _ by simp[ji,hz];rfl))⟩
     |par t x=>cases hd;exact⟨o.old,o.w,vB (H.args j _ hz)⟩
     |_=>cases hd
    |_=>cases hd
   have⟨T,w',nO⟩:=nO;cases d with
   |none=>have nO:cx (A.p j)= .pointer none:=nO;cases hq:A.p j with
    |none=>rfl
    |some _=>rw[hq] at nO;cases nO
   |some y=>have⟨b,_,_,_,_,e,_⟩:=nO;cases hq:A.p j with
    |none=>rw[hq] at e;cases e
    |some _=>rfl
  split at h
  .obtain⟨z,hz,h⟩:=iW h;split at h
   .rename_i t' d hd;rw[jC h];refine⟨⟨A,kZ.refl _ _,λop ho=>?_,tv,tv,tv⟩,rfl⟩;rw[show(Sy.one (.b (.raw (show Option (El t') from d).isNone))).den A= .bool (A.p j).isNone by rw[key hz hd];rfl];exact DK (by assumption) ho hx hy
   cases h
  .obtain⟨z,hz,h⟩:=iW h;split at h
   .rename_i t' d hd;rw[jC h];refine⟨⟨A,kZ.refl _ _,λop ho=>?_,tv,tv,tv⟩,rfl⟩;rw[show(Sy.one (.b (.raw (show Option (El t') from d).isSome))).den A= .bool (A.p j).isSome by
     have:=key hz hd;rw[<-ano,<-ano,<-this];cases A.p j<;>cases d<;>rfl]
    exact DL (by assumption) ho hx hy
   cases h
  cases h
 .rename_i j off;have hx:a.eval x= .pointer (some ⟨A.b j,off,none⟩):=hx;have hy:a.eval y= .pointer none:=hy;split at h
  .rw[jC h];exact⟨⟨A,kZ.refl _ _,λop ho=>DK (by assumption) ho hx hy,tv,tv,tv⟩,rfl⟩
  .rw[jC h];exact⟨⟨A,kZ.refl _ _,λop ho=>DL (by assumption) ho hx hy,tv,tv,tv⟩,rfl⟩
  cases h
 .split at h
  .rw[jC h];exact⟨⟨A,kZ.refl _ _,λop ho=>No (by assumption) ho hx hy,tv,tv,tv⟩,rfl⟩
  .rw[jC h];exact⟨⟨A,kZ.refl _ _,λop ho=>Np (by assumption) ho hx hy,tv,tv,tv⟩,rfl⟩
  cases h
 .rename_i u v;have hx:a.eval x= .bool u.den:=hx;have hy:a.eval y= .bool v.den:=hy;split at h
  .rw[jC h];exact⟨jK (mF:=none) (p:=P.underlying t=some .bool) rfl tv tv (by simp only[kQ,hx,hy,oV];rfl) (by assumption),rfl⟩
  .rw[jC h];exact⟨jK (mF:=none) (p:=P.underlying t=some .bool) rfl tv tv (by simp only[kQ,hx,hy,oV];rfl) (by assumption),rfl⟩
  cases h
 cases h
end
theorem jU.drop {S:iD}{w:aa}:∀(k:Nat) {vs:List af} {a:List tM},jU S w vs a->jU S w (vs.drop k) (a.drop k)
 |0,_,_,h=>h
 |k+1,[],[],_=>trivial
 |k+1,_::_,_::_,h=>jU.drop k h.2
 |_+1,[],_::_,h=>h.elim
 |_+1,_::_,[],h=>h.elim
theorem jU.take {S:iD}{w:aa}:∀(k:Nat) {vs:List af} {a:List tM},jU S w vs a->jU S w (vs.take k) (a.take k)
 |0,_,_,_=>trivial
 |k+1,[],[],_=>trivial
 |k+1,_::_,_::_,h=>⟨h.1,jU.take k h.2⟩
 |_+1,[],_::_,h=>h.elim
 |_+1,_::_,[],h=>h.elim
theorem CK.drop {o:jw}{S:iD}{w:aa}{k:Bool}(j:Nat){vs:List af}{cs:List tM}(h:CK o S w k vs cs):CK o S w k (vs.drop j) (cs.drop j):=by
 cases k
 .exact jU.drop j h
 exact jU.drop j h
theorem CK.take {o:jw}{S:iD}{w:aa}{k:Bool}(j:Nat){vs:List af}{cs:List tM}(h:CK o S w k vs cs):CK o S w k (vs.take j) (cs.take j):=by
 cases k
 .exact jU.take j h
 exact jU.take j h
theorem CK.get {o:jw}{S:iD}{w:aa}{k:Bool}{vs:List af}{cs:List tM}(h:CK o S w k vs cs){j:Nat}{c:tM}(hc:cs[j]?=some c):∃v,vs[j]?=some v/\CK o S w k [v] [c]:=by
 cases k
 .obtain⟨v,h1,h2⟩:=jU.get h hc;exact⟨v,h1,h2,tv⟩
 obtain⟨v,h1,h2⟩:=jU.get h hc;exact⟨v,h1,h2,tv⟩
theorem RA {w w':aa}{b q:Nat}(h:w'.heap[b]?=w.heap[b]?):w'.cell? ⟨b,q,none⟩=w.cell? ⟨b,q,none⟩:=by
 unfold World.cell?;simp only[h]
section
variable {P:ay}{o:jw}{n:Nat}{A:jA}{S:iD}{F:Nat->Prop}{s:Nat->Option E2}{r:Nat->Option R2}{a:Act}{w:aa}{C:List (Nat×Bool)}{b:Nat}
theorem uL {op:Op}{out:Out}{mF:Option af}{p:Prop}{A':jA}(hA:kZ F A A')(mw:out.sy.all (FU F out.re))(hg:out.sy.ku A')(FJ:rF o S w A' b out.re)(h:kQ P (· =w) (λx=>some (a.eval x)) op mF=some (out.sy.den A',p))(hp:p):DJ P o A S F w b op a out:=by
 refine⟨A',hA,λo ho=>?_,mw,hg,FJ⟩;subst ho;exact Ii (ρ:=a.eval) (λx u hx=>bD hx) h hp w rfl
theorem iX {out Nq:Out}(h:(Tr.ret Nq).run s r=some out):out=Nq:=(bD h).symm
theorem DM {j:Nat}(h:F j):FU F [] j:=.inl h
theorem DN {B:Nat}{k:Bool}(hF:∀j,b<=j->j<B->¬F j){t:ax}{x:aM}{off lV base:Nat}{cs:List tM}{vs:List af}{out:Out}(hx:a.eval x= .pointer (some ⟨lV,base+off,none⟩))(DO:CK o S w k vs cs)(qF:∀q,q<vs.length->w.cell? ⟨lV,base+q,none⟩=vs[q]?)
  (h:(Kz P k b t cs off).run s r=some out) (hB:∀p∈out.re,p.1<B):DJ P o A S F w b (.load t x) a out/\out.hs=[]/\∀p∈out.cs,p:=by
 unfold Kz at h;split at h
 .rename_i fs hu;obtain⟨MT,h⟩:=iB h;rw[aR] at MT;have oy:=akF MT.2;have e:=iX h;subst e;obtain⟨A',k1,k2,k3,k4⟩:=nB _ _ b A F (CK.take (P.cellsOf t) (CK.drop off DO)) hF hB;have IA:((vs.drop off).take (P.cellsOf t)).length=P.cellsOf t:=by rw[<-k2,bp];exact oy
  refine⟨uL (A':=A') (mF:=some (.agg (((vs.drop off).take (P.cellsOf t))).toArray)) (p:=(P.info? t).isSome=true/\Kb (· =w) lV (base+off) (P.cellsOf t) ((vs.drop off).take (P.cellsOf t)).toArray) k1 (λc yY=>(k4 c yY).1) (λc yY=>(k4 c yY).2) k3 ?_ ⟨MT.1,?_,?_⟩,rfl,λ_ q=>by cases q⟩
  .simp only[kQ,hu,hx,Sy.den];rw[k2]
  .simp only[aj0];exact IA
  intro w' xK q hq;subst xK;have hq2:off+q<vs.length:=by
   rw[aW,bu] at IA;omega
  rw[dM,qF (off+q) hq2,ajR,bK,ak hq,b7]
 .cases h
 .rename_i d F7 Kg hu;split at h
  .rename_i c kF;obtain⟨v,FC,TV⟩:=CK.get DO kF;split at h
   .rename_i sc re hce;have e:=iX h;subst e;obtain⟨A',k1,k2,k3,k4⟩:=nB [c] [v] b A F TV hF (by rw[hce];exact hB);rw[hce] at k2 k3 k4;have k2:sc.den A'=v:=by simpa using k2
    refine⟨uL (A':=A') (mF:=some v) (p:=qh (· =w) lV (base+off) v) k1 (k4 sc (by simp)).1 (k4 sc (by simp)).2 k3 ?_ ?_,rfl,λ_ q=>by cases q⟩
    .simp only[kQ,hx,Sy.den];rw[hu,k2];cases d<;>first|exact(F7 _ rfl).elim|exact(Kg _ _ rfl).elim|rfl
    intro w' xK;subst xK;rw[qF off (bW.1 FC).1,FC]
   cases h
  cases h
 cases h
theorem BW {T:iD}{w':aa}{t:Ty}{lV:Nat}{y:El t}(h:oD T w' lV y):∃vs,Data.rd T w' vs y/\vs.length=iN t/\T lV/\∀q,q<vs.length->w'.cell? ⟨lV,0+q,none⟩=vs[q]?:=by
 have⟨cur,t',fz,cs,h1,h2,h3,h4⟩:=h;refine⟨cs,h3,by rw[Data.len h3,kK],h1,λq hq=>?_⟩;rw[cG,cell_of_row w' lV q cur t' fz h2];exact h4 q (by rw[<-Data.len h3];exact hq)
theorem Uj {B:Nat}(H:kD o n A S F s r a w)(hF:∀j,b<=j->j<B->¬F j){t:ax}{x:aM}{p:Sy}{out:Out}(hx:a.eval x=p.den A)(mw:p.all F)(hg:p.ku A)(h:(Ub P b t p).run s r=some out)(hB:∀p∈out.re,p.1<B):DJ P o A S F w b (.load t x) a out/\out.hs=[]:=by
 unfold Ub at h;split at h
 ·
  rename_i j off;obtain⟨y,hy,h⟩:=iW h;have hx:a.eval x= .pointer (some ⟨A.b j,off,none⟩):=hx;have hr:=H.kP j y hy;have Dw:ji A r j=some (y.den A j):=by simp[ji,hy]
  split at h
  .rename_i bt cs;have hm:ji A r j=some (Rs.of (.box (A.b j) bt (cs.map (Sc.den A)))):=Dw;have hb:w.heap[A.b j]?=some (.cells (cs.map (Sc.den A)).toArray bt (0,0)):=H.jl.ok j _ hm;have qF:∀q,w.cell? ⟨A.b j,q,none⟩=(cs.map (Sc.den A))[q]?:=λq=>by rw[cell_of_row w _ q _ _ _ hb];simp
   split at h
   .rename_i fs hu;obtain⟨MT,h⟩:=iB h;rw[aR] at MT;have hlen:=akF MT.2;have e:=iX h;subst e;refine⟨uL (A':=A) (mF:=some (.agg (((cs.drop off).take (P.cellsOf t)).map (Sc.den A)).toArray)) (p:=(P.info? t).isSome=true/\Kb (· =w) (A.b j) off (P.cellsOf t) (((cs.drop off).take (P.cellsOf t)).map (Sc.den A)).toArray) (kZ.refl _ _) ?_ ?_ tv ?_ ⟨MT.1,?_,?_⟩,rfl⟩
    .intro c yY;exact Sc.mono (λ_=>DM) (hr.2.1 c (dP (cQ yY)))
    .intro c yY;exact hr.2.2 c (dP (cQ yY))
    .simp only[kQ,hu,hx];rfl
    .rw[aW,bu] at hlen;simp;exact hlen
    intro w' xK q hq;subst xK;rw[qF,ajR,ak1,alw,bK,ak hq,b7]
   .cases h
   .rename_i d F7 Kg hu;split at h
    .rename_i c kF;have e:=jC h;subst e;have oQ:=bJ kF;refine⟨uL (A':=A) (mF:=some (c.den A)) (p:=qh (· =w) (A.b j) off (c.den A)) (kZ.refl _ _) (Sc.mono (λ_=>DM) (hr.2.1 c oQ)) (hr.2.2 c oQ) tv ?_ ?_,rfl⟩
     .simp only[kQ,hx];rw[hu];cases d<;>first|exact(F7 _ rfl).elim|exact(Kg _ _ rfl).elim|rfl
     intro w' xK;subst xK;rw[qF,b9,kF];rfl
    cases h
   cases h
  .rename_i t' y;have hp:oD S w (A.b j) y:=H.jl.ok j _ Dw;obtain⟨vs,h1,h2,_,h3⟩:=BW hp;obtain⟨k1,k2,_⟩:=DN (P:=P) (k:=true) (base:=0) hF (by rw[cG];exact hx) (pO t' h1) h3 h hB;exact⟨k1,k2⟩
  .rename_i t' y;have hp:oD o.old o.w (A.b j) y:=H.args j _ hy;obtain⟨vs,h1,h2,h4,h3⟩:=BW hp;obtain⟨k1,k2,_⟩:=DN (P:=P) (k:=false) (w:=w) (base:=0) hF (by rw[cG];exact hx) (pO t' h1) (λq hq=>by rw[<-h3 q hq];exact RA (H.jl.old _ h4)) h hB;exact⟨k1,k2⟩
  cases h
 ·
  rename_i j i sz off;obtain⟨y,hy,h⟩:=iW h;obtain⟨g,f,m,cp,hv,h0,h1⟩:yG (A.v j) i:=hg;split at h
  .rename_i q e t' ie l;obtain⟨mu,h⟩:=iB h;have mu:=akF mu;subst mu;have hm:pQ S w (A.v j) (A.f q) none e t' ie l:=H.jl.ok j _ (show ji A r j=some _ by simp[ji,hy];rfl);obtain⟨J3,Ze,_⟩:=H.kP j _ hy;have Ze:F q:=Ze;have hlen:m=l.length:=by
    obtain⟨p',c',e,_⟩:=DH H hy (t:=t') (l:=l) rfl;rw[hv] at e;cases e;rfl
   subst hlen;have hx:a.eval x= .pointer (some ⟨Fs (A.v j),Ft (A.v j)+i.toNat*iN t'+off,none⟩):=hx;split at h
   .rename_i fs hu;split at h
    .rename_i c hc;obtain⟨MT,h⟩:=iB h;rw[aR] at MT;have oy:=akF MT.2;have e:=iX h;subst e;have Dk:∀d x,(((jo t' (l.getD i.toNat (zB t'))).drop off).take (P.cellsOf t))[d]?=some x->(jo t' (l.getD i.toNat (zB t')))[off+d]?=some x:=λd x hd=>by
      rw[bK] at hd;split at hd
      .rwa[b7] at hd
      cases hd
     obtain⟨k1,k2⟩:=DI (F:=F) (S:=S) (w:=w) (A:=A) (ie:=ie) hc λd x hd=>by
      exact(A4 hm h0 h1 (Dk d x hd)).2
     refine⟨uL (A':=A) (mF:=some (.agg (c.map (Sc.den A)).toArray)) (p:=(P.info? t).isSome=true/\Kb (· =w) (Fs (A.v j)) (Ft (A.v j)+i.toNat*iN t'+off) (P.cellsOf t) (c.map (Sc.den A)).toArray) (kZ.refl _ _) (λu hu=>?_) (λu hu=>?_) tv ?_ ⟨MT.1,?_,?_⟩,rfl⟩
     .obtain⟨d,hd⟩:=ajO.1 hu;exact Sc.mono (λ_=>DM) ((k2 d u hd).2.1 J3 Ze)
     .obtain⟨d,hd⟩:=ajO.1 hu;exact(k2 d u hd).2.2
     .simp only[kQ,hu,hx,Sy.den]
     .simp;exact oy
     intro w' xK d hd;subst xK;have FK:d<c.length:=by omega
     have YN:c[d]?=some c[d]:=aY FK;have hxd:(((jo t' (l.getD i.toNat (zB t'))).drop off).take (P.cellsOf t))[d]?=some (((jo t' (l.getD i.toNat (zB t'))).drop off).take (P.cellsOf t))[d]:=aY (by rw[<-k1];exact FK);have:=(A4 hm h0 h1 (Dk d _ hxd)).1;rw[ajR,b9,YN,bX,(k2 d _ YN).1,<-this]
     congr 2;omega
    cases h
   .cases h
   .rename_i d F7 Kg hu;split at h
    .rename_i c kF;split at h
     .rename_i sc hsc;have e:=jC h;subst e;obtain⟨n1,n2⟩:=A4 hm h0 h1 kF;obtain⟨k1,k2⟩:=DI (F:=F) (S:=S) (w:=w) (A:=A) (ie:=ie) hsc λd x hd=>by
       cases d with
       |zero=>
        have:c=x:=by simpa using hd
        subst this;exact n2
       |succ d=>simp at hd
      obtain⟨z1,z2,z3⟩:=k2 0 sc rfl;refine⟨uL (A':=A) (mF:=some (sc.den A)) (p:=qh (· =w) (Fs (A.v j)) (Ft (A.v j)+i.toNat*iN t'+off) (sc.den A)) (kZ.refl _ _) (Sc.mono (λ_=>DM) (z2 J3 Ze)) z3 tv ?_ ?_,rfl⟩
      .simp only[kQ,hx,Sy.den];rw[hu];cases d<;>first|exact(F7 _ rfl).elim|exact(Kg _ _ rfl).elim|rfl
      intro w' xK;subst xK;rw[z1,akl,<-n1,dM]
     cases h
    cases h
   cases h
  split at h
  .rename_i t' l hl;obtain⟨mu,h⟩:=iB h;have mu:=akF mu;rw[T9] at mu;have nO:=xP H hy hl;have hlen:m=l.length:=by
    obtain⟨p',c',e,_⟩:=jV nO;rw[hv] at e;cases e;rfl
   subst hlen;obtain⟨vs,DO,hvl,qF⟩:=Iw H hy hl h0 h1;have hx:a.eval x= .pointer (some ⟨Fs (A.v j),Ft (A.v j)+i.toNat*Data.size (El t')+off,none⟩):=by rw[mu];exact hx
   obtain⟨k1,k2,_⟩:=DN (P:=P) hF hx DO (λq hq=>qF q (by rw[<-hvl];exact hq)) h hB;exact⟨k1,k2⟩
  cases h
 cases h
theorem Uk (H:kD o n A S F s r a w)(hC:nc a C){c x y:aM}{out:Out}(h:(Uc C c x y).run s r=some out):DJ P o A S F w b (.pick c x y) a out/\out.hs=[]:=by
 have key:∀(e:BE) (v:Sy),a.eval c= .bool e.den->(e.den=true->a.eval x=v.den A)->(e.den=false->a.eval y=v.den A)->v.all F->v.ku A->DJ P o A S F w b (.pick c x y) a ⟨[],[],v,[]⟩:=by
  intro e v hc h1 h2 h3 h4;refine⟨A,kZ.refl _ _,λo ho=>?_,Sy.mono (λ_=>DM) h3,h4,tv⟩;simp only[execOp,ho,hc,asBool,aO,bz,bV];cases hd:e.den with
  |true=>simp only[if_true,h1 hd];exact⟨rfl,rfl⟩
  |false=>simp only[akx,if_false,h2 hd];exact⟨rfl,rfl⟩
 unfold Uc at h;split at h
 .rename_i t;simp only[o8,Tr.run] at h;split at h
  .rename_i en Tm;split at h
   .rename_i hp;have Nr:=Gn H hC Tm hp;have zC:a.eval (.tmp t)=en.sy.den A:=by simp only[dz,cq,Nr,cK]
    split at h
    .rename_i MW;obtain⟨v,e1,e2,e3,h⟩:=iR H hC h;have e:=iX h;subst e;rw[MW] at zC;exact⟨key (.lit true) v zC (λ_=>e1) (λq=>by cases q) e2 e3,rfl⟩
    .rename_i MW;obtain⟨v,e1,e2,e3,h⟩:=iR H hC h;have e:=iX h;subst e;rw[MW] at zC;exact⟨key (.lit false) v zC (λq=>by cases q) (λ_=>e1) e2 e3,rfl⟩
    .rename_i e _ _ MW;rw[MW] at zC Nr;have zC:a.eval (.tmp t)= .bool e.den:=zC;have TP:∀b',e.den=b'->nc a (C++[(t,b')]):=by
      intro b' qd l hl;rcases aK.1 hl with hl|hl
      .exact hC l hl
      rw[av] at hl;subst hl;subst qd;exact Nr
     split at h
     .have hx:∀q,a.eval (.const (.bool q))= .bool q:=λ_=>rfl
      by_cases hd:e.den=false
      .obtain⟨v,e1,e2,e3,h⟩:=iR H (TP false hd) h;split at h
       .rename_i q;have e':=jC h;subst e';refine⟨key e (.one (.b (.or e q))) zC (λk=>by rw[hd] at k;cases k) (λ_=>?_) tv tv,rfl⟩;rw[e1];show aj7 q.den= .bool (e.den||q.den);rw[hd];rfl
       cases h
      have hd:e.den=true:=by simpa using hd
      have:∃q,out=⟨[],[],.one (.b (.or e q)),[]⟩:=by
       generalize hk:(λr:Sy=>match r with| .one (.b q)=>one (.b (.or e q))|_=>Tr.fail)=k at h;have RB:∀(u:Sy),(k u).run s r=some out->∃q,out=⟨[],[],.one (.b (.or e q)),[]⟩:=by
        intro u hu;subst hk;simp only at hu;split at hu
        .exact⟨_,jC hu⟩
        cases hu
       cases y with
       |tmp t2=>
        simp only[o8,Tr.run] at h;split at h
        .split at h
         .exact RB _ h
         cases h
        cases h
       |const v=>exact RB _ h
       |func f=>exact RB _ h
       |global g=>cases h
      obtain⟨q,rfl⟩:=this;refine⟨key e (.one (.b (.or e q))) zC (λ_=>?_) (λk=>by rw[hd] at k;cases k) tv tv,rfl⟩;rw[hx];show aj7 true= .bool (e.den||q.den);rw[hd];rfl
     .have hx:∀q,a.eval (.const (.bool q))= .bool q:=λ_=>rfl
      by_cases hd:e.den=true
      .obtain⟨v,e1,e2,e3,h⟩:=iR H (TP true hd) h;split at h
       .rename_i q;have e':=jC h;subst e';refine⟨key e (.one (.b (.and e q))) zC (λ_=>?_) (λk=>by rw[hd] at k;cases k) tv tv,rfl⟩;rw[e1];show aj7 q.den= .bool (e.den && q.den);rw[hd];rfl
       cases h
      have hd:e.den=false:=by simpa using hd
      have:∃q,out=⟨[],[],.one (.b (.and e q)),[]⟩:=by
       generalize hk:(λr:Sy=>match r with| .one (.b q)=>one (.b (.and e q))|_=>Tr.fail)=k at h;have RB:∀(u:Sy),(k u).run s r=some out->∃q,out=⟨[],[],.one (.b (.and e q)),[]⟩:=by
        intro u hu;subst hk;simp only at hu;split at hu
        .exact⟨_,jC hu⟩
        cases hu
       cases x with
       |tmp t2=>
        simp only[o8,Tr.run] at h;split at h
        .split at h
         .exact RB _ h
         cases h
        cases h
       |const v=>exact RB _ h
       |func f=>exact RB _ h
       |global g=>cases h
      obtain⟨q,rfl⟩:=this;refine⟨key e (.one (.b (.and e q))) zC (λk=>by rw[hd] at k;cases k) (λ_=>?_) tv tv,rfl⟩;rw[hx];show aj7 false= .bool (e.den && q.den);rw[hd];rfl
     cases h
    cases h
   cases h
  cases h
 cases h
end
section
variable {P:ay}{o:jw}{n:Nat}{A:jA}{S:iD}{F:Nat->Prop}{s:Nat->Option E2}{r:Nat->Option R2}{a:Act}{w:aa}{C:List (Nat×Bool)}{b:Nat}
theorem Ul (H:kD o n A S F s r a w)(hC:nc a C){c:Call}{out:Out}(h:(qP P C b (.call c)).run s r=some out)(hc:∀p∈out.cs,p):DJ P o A S F w b (.call c) a out/\out.hs=[]:=by
 simp only[qP] at h;split at h
 .rename_i x qo kW;split at h
  .rename_i hu;obtain⟨p,e1,e2,e3,h⟩:=iR H hC h;split at h
   .rename_i u;rw[jC h];have e1:a.eval x= .string u:=e1;refine⟨jK (mF:=none) (p:=True) rfl tv tv ?_ tv,rfl⟩;simp only[kQ,qo,kW,bn,cr,e1,hu];rfl
   cases h
  .rename_i e hu;obtain⟨p,e1,e2,e3,h⟩:=iR H hC h;split at h
   .rename_i j;obtain⟨y,hy,h⟩:=iW h;split at h
    .rename_i et by_;rw[jC h];have e1:a.eval x=A.v j:=e1;have kY:w.ownsRow 0 et 1 (A.v j) by_.size (zP by_):=H.jl.ok j _ (show ji A r j=some _ by simp[ji,hy];rfl);have hlen:yF (A.v j) (by_.size:Int):=by
      rcases kY.2 with⟨e,z⟩|⟨g,cap,cur,e,_⟩
      .exact⟨_,_,_,e,by rw[z]⟩
      exact⟨_,_,_,e,rfl⟩
     refine⟨jK (mF:=some (.int .i64 (by_.size:Int))) (p:=yF (A.v j) (by_.size:Int)) rfl tv tv ?_ hlen,rfl⟩;simp only[kQ,qo,kW,bn,cr,e1,hu];rfl
    split at h
    .rename_i t l hl;rw[jC h];have e1:a.eval x=A.v j:=e1;refine⟨jK (mF:=some (.int .i64 (l.length:Int))) (p:=yF (A.v j) (l.length:Int)) rfl tv tv ?_ (let⟨p,c,e,_⟩:=DH H hy hl;⟨p,_,c,e,rfl⟩),rfl⟩;simp only[kQ,qo,kW,bn,cr,e1,hu];rfl
    cases h
   .rw[jC h];have e1:a.eval x= .slice none 0 0:=e1;refine⟨jK (mF:=some (.int .i64 0)) (p:=yF (.slice none 0 0) 0) rfl tv tv ?_ ⟨_,_,_,rfl,rfl⟩,rfl⟩;simp only[kQ,qo,kW,bn,cr,e1,hu];rfl
   cases h
  cases h
 .rename_i x y qo kW;obtain⟨p,e1,e2,e3,h⟩:=iR H hC h;obtain⟨q,f1,f2,f3,h⟩:=iR H hC h;split at h
  .rename_i u v _;rw[jC h];have e1:a.eval x= .int .i64 u:=e1;have f1:a.eval y= .int .i64 v:=f1;refine⟨jK (mF:=some (.int .i64 (max u v))) (p:=∀ty w,(alh c.argTypes ty [.int .i64 u,.int .i64 v].toArray).run P w= .ok (.int .i64 (max u v)) w) rfl tv tv ?_ (λty w=>ac3 ty w),rfl⟩;simp only[kQ,qo,kW,bn,cr,e1,f1];rfl
  cases h
 .rename_i x y qo kW;obtain⟨p,e1,e2,e3,h⟩:=iR H hC h;obtain⟨q,f1,f2,f3,h⟩:=iR H hC h;split at h
  .rename_i u v _;rw[jC h];have e1:a.eval x= .int .i64 u:=e1;have f1:a.eval y= .int .i64 v:=f1;refine⟨jK (mF:=some (.int .i64 (min u v))) (p:=∀ty w,(ali c.argTypes ty [.int .i64 u,.int .i64 v].toArray).run P w= .ok (.int .i64 (min u v)) w) rfl tv tv ?_ (λty w=>ac4 ty w),rfl⟩;simp only[kQ,qo,kW,bn,cr,e1,f1];rfl
  cases h
 cases h
theorem RC {B:Nat}(H:kD o n A S F s r a w)(hC:nc a C)(hF:∀j,b<=j->j<B->¬F j){op:Op}{out:Out}(h:(qP P C b op).run s r=some out)(hc:∀p∈out.cs,p)(hB:∀p∈out.re,p.1<B):DJ P o A S F w b op a out/\out.hs=[]:=by
 cases op
 case move x=>
  obtain⟨p,e1,e2,e3,h⟩:=iR H hC h;rw[iX h];exact⟨jK (mF:=none) (p:=True) rfl e2 e3 (by simp only[kQ,e1];rfl) tv,rfl⟩
 case assign x=>
  obtain⟨p,e1,e2,e3,h⟩:=iR H hC h;rw[iX h];exact⟨jK (mF:=none) (p:=True) rfl e2 e3 (by simp only[kQ,e1];rfl) tv,rfl⟩
 case unOp uo t x=>
  cases uo
  case not=>
   obtain⟨p,e1,e2,e3,h⟩:=iR H hC h;split at h
   .rename_i e;rw[jC h];have e1:a.eval x= .bool e.den:=e1;exact⟨jK (mF:=none) (p:=True) rfl tv tv (by simp only[kQ,e1];rfl) tv,rfl⟩
   cases h
  all_goals cases h
 case extract x i=>
  obtain⟨p,e1,e2,e3,h⟩:=iR H hC h;split at h
  .rename_i ps;have e1:a.eval x= .tuple (ps.map (m7 A)).toArray:=e1;split at h
   .rename_i cs Kl;rw[iX h];have hm:=bJ Kl;refine⟨jK (mF:=none) (p:=True) rfl (λc hc=>e2 _ hm c hc) (λc hc=>e3 _ hm c hc) ?_ tv,rfl⟩;simp only[kQ,e1,ajR,b9,Kl];rfl
   .rename_i c Kl;rw[jC h];have hm:=bJ Kl;refine⟨jK (mF:=none) (p:=True) rfl (e2 _ hm c (by simp)) (e3 _ hm c (by simp)) ?_ tv,rfl⟩;simp only[kQ,e1,ajR,b9,Kl];rfl
   cases h
  cases h
 case nilCheck x=>
  obtain⟨p,e1,e2,e3,h⟩:=iR H hC h;split at h
  .rename_i j off;rw[jC h];exact⟨jK (mF:=none) (p:=True) rfl e2 e3 (by simp only[kQ,e1,Sy.den,Sc.den]) tv,rfl⟩
  .rename_i j i sz off;rw[jC h];exact⟨jK (mF:=none) (p:=True) rfl e2 e3 (by simp only[kQ,e1,Sy.den,Sc.den]) tv,rfl⟩
  .rename_i j;have e1:a.eval x= .pointer (A.p j):=e1;obtain⟨z,hz,h⟩:=iW h;have fin:∀ {t:Ty} {y:tL (El t)} {k:Bool} {T:iD} {w':aa},sP T w' (.pointer (A.p j)) y->(∀lV,A.p j=some ⟨lV,0,none⟩->∀d:El t,oD T w' lV d->ach o S w (A.set b (A.p j) 0 0 lV) b (.ext (if k then .Ir t d else .CJ t d)))->
     out=⟨[(show Option (El t) from y).isSome=true],[],.one (.ptr b 0),[(b,some (.ext (if k then .Ir t ((show Option (El t) from y).getD (zB t)) else .CJ t ((show Option (El t) from y).getD (zB t)))))]⟩->DJ P o A S F w b (.nilCheck x) a out/\out.hs=[]:=by
    intro t y k T w' hp FJ e;subst e;have hs:(show Option (El t) from y).isSome=true:=hc _ (by simp);cases y with
    |none=>cases hs
    |some d=>
     have⟨lV,cur,t0,fz,cs,p1,p2,p3,p4,p5⟩:=hp;have p1:A.p j=some ⟨lV,0,none⟩:=by injection p1
     have xQ:¬F b:=hF b (az _) (hB _ (av.2 rfl));refine⟨⟨A.set b (A.p j) 0 0 lV,kZ.set xQ _ _ _ _,λop ho=>?_,.inr ⟨_,av.2 rfl⟩,tv,⟨az _,⟨_,rfl,FJ lV p1 d ⟨cur,t0,fz,cs,p2,p3,p4,p5⟩⟩,tv⟩⟩,rfl⟩;have Zf:(Sy.one (.ptr b 0)).den (A.set b (A.p j) 0 0 lV)= .pointer (some ⟨lV,0,none⟩):=by
      show cx (some ⟨(A.set b (A.p j) 0 0 lV).b b,0,none⟩)=_;rw[jA.DF]
     rw[Zf];simp only[execOp,ho,e1,p1];exact⟨rfl,rfl⟩
   split at h
   .rename_i t y;refine fin (k:=true) (T:=S) (w':=w) (vB (H.jl.ok j _ (show ji A r j=some _ by simp[ji,hz];rfl))) (λlV hb d hd=>?_) (iX h);show oD S w ((A.set b (A.p j) 0 0 lV).b b) d;rw[jA.DF];exact hd
   .rename_i t y;refine fin (k:=false) (T:=o.old) (w':=o.w) (vB (H.args j _ hz)) (λlV hb d hd=>?_) (iX h);show oD o.old o.w ((A.set b (A.p j) 0 0 lV).b b) d;rw[jA.DF];exact hd
   cases h
  cases h
 case binOp bo t x y t'=>
  obtain⟨p,e1,e2,e3,h⟩:=iR H hC h;obtain⟨q,f1,f2,f3,h⟩:=iR H hC h;exact Zd H e1 f1 h hc
 case convert sT dT x=>
  simp only[qP] at h;split at h
  .rename_i k1 k h1 h2;obtain⟨p,e1,e2,e3,h⟩:=iR H hC h;split at h
   .rename_i k2 m;obtain⟨rfl,hp⟩:=nC h hc;have e1:a.eval x= .int k2 m:=e1;exact⟨jK (mF:=none) rfl tv tv (by simp only[kQ,h1,h2,e1];rfl) hp,rfl⟩
   cases h
  cases h
 case index t x i=>
  simp only[qP] at h;split at h
  .rename_i hu;obtain⟨p,e1,e2,e3,h⟩:=iR H hC h;obtain⟨q,f1,f2,f3,h⟩:=iR H hC h;split at h
   .rename_i u k m _;obtain⟨rfl,hp⟩:=nC h hc;have e1:a.eval x= .string u:=e1;have f1:a.eval i= .int k m:=f1;exact⟨jK (mF:=none) rfl tv tv (by simp only[kQ,hu,e1,f1];rfl) (show jg m u.size from hp),rfl⟩
   cases h
  cases h
 case indexAddr t x i=>
  simp only[qP] at h;split at h
  .rename_i e hu;obtain⟨p,e1,e2,e3,h⟩:=iR H hC h;obtain⟨q,f1,f2,f3,h⟩:=iR H hC h;split at h
   .rename_i j k m _;obtain⟨y,hy,h⟩:=iW h;split at h
    .rename_i t' l hl;obtain⟨hi,h⟩:=iB h;obtain⟨rfl,hp⟩:=nC h hc;have e1:a.eval x=A.v j:=e1;have f1:a.eval i= .int k m:=f1;have hix:=Rz H hy hl hp.1 hp.2;exact⟨jK (mF:=none) (p:=(P.info? e).isSome=true/\yG (A.v j) m) rfl e2 hix (by simp only[kQ,hu,e1,f1];rfl) ⟨hi,hix⟩,rfl⟩
    cases h
   cases h
  cases h
 case fieldAddr t x f=>
  simp only[qP] at h;split at h
  .rename_i fs hu;split at h
   .rename_i fd YL;obtain⟨hi,h⟩:=iB h;have hi:0<P.cellsOf fd.type:=by simpa using bZ▸hi
    obtain⟨p,e1,e2,e3,h⟩:=iR H hC h;split at h
    .rename_i j off;rw[jC h];have e1:a.eval x= .pointer (some ⟨A.b j,off,none⟩):=e1;exact⟨jK (mF:=none) (p:=0<P.cellsOf fd.type) rfl e2 tv (by simp only[kQ,hu,e1,YL];rfl) hi,rfl⟩
    .rename_i j i sz off;rw[jC h];have e1:a.eval x= .pointer (some ⟨Fs (A.v j),Ft (A.v j)+i.toNat*sz+off,none⟩):=e1;exact⟨jK (mF:=none) (p:=0<P.cellsOf fd.type) rfl e2 e3 (by simp only[kQ,hu,e1,YL,Sy.den,Sc.den,dM]) hi,rfl⟩
    cases h
   cases h
  cases h
 case load t x=>
  obtain⟨p,e1,e2,e3,h⟩:=iR H hC h;exact Uj H hF e1 e2 e3 h hB
 case field t x f=>
  simp only[qP] at h;split at h
  .rename_i fs hu;split at h
   .rename_i fd YL;obtain⟨p,e1,e2,e3,h⟩:=iR H hC h;split at h
    .rename_i cs;have e1:a.eval x= .agg (cs.map (Sc.den A)).toArray:=e1;split at h
     .rename_i fs' h3;obtain⟨hi,h⟩:=iB h;rw[iX h];refine⟨jK (mF:=none) (p:=(P.info? fd.type).isSome=true) rfl (λc hc=>e2 c (dP (cQ hc))) (λc hc=>e3 c (dP (cQ hc))) ?_ hi,rfl⟩;simp only[kQ,hu,e1,YL,h3,Sy.den,ak1,alw]
      congr 3
      apply ck;rw[Array.toList_extract,List.extract_eq_take_drop];simp
     .cases h
     .rename_i d F7 Kg h3;split at h
      .rename_i c kF;rw[jC h];have hm:=bJ kF;refine⟨jK (mF:=none) (p:=True) rfl (e2 c hm) (e3 c hm) ?_ tv,rfl⟩;have hg:((cs.map (Sc.den A)).toArray[fd.offset]?).map (λv=>(v,True))=some (c.den A,True):=by
        rw[ajR,b9,kF];rfl
       simp only[kQ,hu,e1,YL,h3];cases d<;>first|exact(F7 _ rfl).elim|exact(Kg _ _ rfl).elim|exact hg
      cases h
     cases h
    cases h
   cases h
  cases h
 case pick c x y=>exact Uk H hC h
 case call c=>exact Ul H hC h hc
 all_goals cases h
end
def sB:R2->Bool
 | .ar _ _=>true
 | .BS _ _ _=>true
 | .ext (.par _ _)=>true
 | .ext (.CJ _ _)=>true
 |_=>false
theorem nD {o:jw}{A:jA}{j:Nat}:∀ {x:R2},sB x=false->zQ o A j x
 | .ar _ _,h=>by cases h
 | .BS _ _ _,h=>by cases h
 | .ext (.par _ _),h=>by cases h
 | .ext (.CJ _ _),h=>by cases h
 | .ro _ _,_=>trivial
 | .row _ _ _,_=>trivial
 | .box _ _,_=>trivial
 | .wE _ _ _,_=>trivial
 | .map _ _ _,_=>trivial
 | .iter _ _ _ _ _ _,_=>trivial
 | .ext (.nest _ _ _ _ _ _),_=>trivial
 | .ext (.mW _ _ _ _ _ _),_=>trivial
 | .ext (.zN _ _),_=>trivial
 | .ext (.Ir _ _),_=>trivial
 | .ext (.Is _ _ _ _ _),_=>trivial
 | .ext (.FF _),_=>trivial
 | .ext (.sJ _ _),_=>trivial
def sC (r:Nat->Option R2)(j:Nat)(x:Option R2):Nat->Option R2:=λk=>match aP j k with
 |true=>x
 |false=>r k
def ja (r:Nat->Option R2):List (Nat×Option R2)->Nat->Option R2
 |[]=>r
 |p::l=>sC (ja r l) p.1 p.2
def rZ (s:Nat->Option E2)(d:Nat)(x:Option E2):Nat->Option E2:=λk=>match aP d k with
 |true=>x
 |false=>s k
theorem jP {a b:Nat}(h:aP a b=true):a=b:=akF h
theorem aci {a b:Nat}(h:aP a b=false):a≠b:=Nat.ne_of_beq_eq_false h
theorem lN (r:Nat->Option R2)(j:Nat)(x:Option R2):sC r j x j=x:=by unfold sC;rw[dD]
theorem mP {r:Nat->Option R2}{j k:Nat}{x:Option R2}(h:j≠k):sC r j x k=r k:=by
 unfold sC;split
 .rename_i e;exact(h (jP e)).elim
 rfl
theorem mh (s:Nat->Option E2)(j:Nat)(x:Option E2):rZ s j x j=x:=by unfold rZ;rw[dD]
theorem qZ {s:Nat->Option E2}{j k:Nat}{x:Option E2}(h:j≠k):rZ s j x k=s k:=by
 unfold rZ;split
 .rename_i e;exact(h (jP e)).elim
 rfl
theorem Um (A:jA)(r:Nat->Option R2)(j:Nat)(x:Option R2):ji A (sC r j x)=nk (ji A r) j (x.map (R2.den A j)):=by
 funext k;unfold ji nk
 by_cases e:k=j
 .subst e;rw[lN,ak rfl]
 rw[mP (λq=>e q.symm),ah e]
section
variable {P:ay}{o:jw}{n:Nat}{A A':jA}{S:iD}{F G:Nat->Prop}{s:Nat->Option E2}{r:Nat->Option R2}{a:Act}{w w':aa}{C:List (Nat×Bool)}{b:Nat}
theorem Ns (hA:kZ F A A')(hr:∀j x,r j=some x->F j/\x.all F):ji A r=ji A' r:=by
 funext j;unfold ji;cases h:r j with
 |none=>rfl
 |some x=>simp only[bX];rw[R2.congr hA (hr j x h).1 (hr j x h).2]
theorem kD.agree (H:kD o n A S F s r a w)(hA:kZ F A A')(hG:∀j,F j->G j):kD o n A' S G s r a w where
 size:=H.size
 lH:=H.lH
 env t e he:=⟨λhc=>by rw[show(⟨t,e.ch,e.sy.den A'⟩:Tl).val=e.sy.den A from(Sy.congr hA (H.rE t e he hc).1).symm];exact(H.env t e he).1 hc,(H.env t e he).2⟩
 rE t e he hc:=⟨Sy.mono hG (H.rE t e he hc).1,Sy.lZ hA (H.rE t e he hc).1 (H.rE t e he hc).2⟩
 kP j x hj:=⟨hG j (H.kP j x hj).1,R2.mono hG (H.kP j x hj).2.1,R2.lZ hA (H.kP j x hj).2.1 (H.kP j x hj).2.2⟩
 jl:=by rw[<-Ns hA λj x hj=>⟨(H.kP j x hj).1,(H.kP j x hj).2.1⟩];exact H.jl
 args j x hj:=(H.args j x hj).congr hA (H.kP j x hj).1
 AP:=⟨λj h=>hG j (H.AP.1 j h),H.AP.2.trans (hA.mono H.AP.1)⟩
theorem kD.vp (H:kD o n A S F s r a w)(j:Nat)(x:Option R2)(hj:∀y,x=some y->F j/\y.all F/\y.ku A)(hx:∀y,x=some y->zQ o A j y){S':iD}(hf:nM o w' S' (nk (ji A r) j (x.map (R2.den A j)))):kD o n A S' F s (sC r j x) a w' where
 size:=H.size
 lH:=H.lH
 env:=H.env
 rE:=H.rE
 kP k y hk:=by
  by_cases e:j=k
  .subst e;rw[lN] at hk;exact hj y hk
  rw[mP e] at hk;exact H.kP k y hk
 jl:=by rw[Um];exact hf
 args k y hk:=by
  by_cases e:j=k
  .subst e;rw[lN] at hk;exact hx _ hk
  rw[mP e] at hk;exact H.args k y hk
 AP:=H.AP
theorem kD.ro (H:kD o n A S F s r a w){re:List (Nat×Option R2)}(hA:kZ F A A')(FJ:rF o S w A' b re):kD o n A' S (FU F re) s (ja r re) a w:=by
 have H1:kD o n A' S (FU F re) s r a w:=H.agree hA λj h=>.inl h;have key:∀(l:List (Nat×Option R2)) (b:Nat),rF o S w A' b l->(∀p∈l,p∈re)->kD o n A' S (FU F re) s (ja r l) a w:=by
  intro l
  induction l with
  |nil=>intro b _ _;exact H1
  |cons p l ih=>
   intro b hr hs;have⟨h1,⟨x,hx,nO⟩,h3⟩:=hr;have H2:=ih _ h3 λq hq=>hs q (aI _ hq);show kD o n A' S (FU F re) s (sC (ja r l) p.1 p.2) a w;refine H2.vp p.1 p.2 (λy hy=>⟨.inr ⟨p.2,hs p (by simp)⟩,?_⟩) (λy hy=>?_) ?_
   .rw[hx] at hy;cases hy;cases x<;>first|exact⟨tv,tv⟩|exact nO.elim|skip
    rename_i z;cases z<;>first|exact⟨tv,tv⟩|exact nO.elim
   .rw[hx] at hy;cases hy;cases x<;>first|exact nO|exact nO.elim|trivial|skip
    rename_i z;cases z<;>first|exact nO|exact nO.elim|trivial
   rw[hx];cases x with
   |ro t l=>exact H2.jl.T6 p.1 nO
   |ar t l=>exact H2.jl.FG p.1 (r:=wT) tv λ_ q=>q
   |wE k t l=>exact H2.jl.T6 p.1 nO
   |BS k t l=>exact H2.jl.FG p.1 (r:=wT) tv λ_ q=>q
   |row _ _ _=>exact nO.elim
   |box _ _=>exact nO.elim
   |map _ _ _=>exact nO.elim
   |iter _ _ _ _ _ _=>exact nO.elim
   |ext z=>
    cases z with
    |zN t x=>exact H2.jl.T6 p.1 nO
    |par t x=>exact H2.jl.FG p.1 (r:=wT) tv λ_ q=>q
    |Ir t x=>exact H2.jl.FG p.1 (r:=acd (A'.b p.1) x) nO λ_ q=>q
    |CJ t x=>exact H2.jl.FG p.1 (r:=wT) tv λ_ q=>q
    |nest _ _ _ _ _ _=>exact nO.elim
    |mW _ _ _ _ _ _=>exact nO.elim
    |Is _ _ _ _ _=>exact nO.elim
    |FF _=>exact nO.elim
    |sJ _ _=>exact nO.elim
 exact key re b FJ λ_ h=>h
theorem kD.put (H:kD o n A S F s r a w){d:Nat}{y:Sy}{u:af}(hd:d<n)(pN:∀t e,s t=some e->∀l∈e.ch,l.1≠d)(hCd:∀l∈C,l.1≠d)(hy:nc a C->y.all F/\y.ku A)(hu:(nc a C->u=y.den A)/\(¬nc a C->u=undef)):kD o n A S F (rZ s d (some ⟨C,y⟩)) r (a.put (some d) u) w where
 size:=by simp[dA,H.size]
 lH:=H.lH
 env t e he:=by
  by_cases q:d=t
  .subst q;rw[mh] at he;cases he;have hs:(a.put (some d) u).tmps[d]?=some u:=by
    simp only[dA,aj3,if_true];rw[ak (by rw[H.size];exact hd)]
   have hC:C.all (λl=>l.1 !=d)=true:=aU.2 λl hl=>by simpa using hCd l hl
   refine⟨λhc=>?_,λhc=>?_⟩
   .show(a.put (some d) u).tmps[d]?=some (y.den A);rw[hs,hu.1 ((rA hC).1 hc)]
   show(a.put (some d) u).tmps[d]?=some undef;rw[hs,hu.2 (λk=>hc ((rA hC).2 k))]
  rw[qZ q] at he;refine xJ ?_ (H.env t e he);rw[aR,aU];exact⟨by simpa using λk=>q k.symm,λl hl=>by simpa using pN t e he l hl⟩
 rE t e he hc:=by
  by_cases q:d=t
  .subst q;rw[mh] at he;cases he;exact hy ((rA (aU.2 λl hl=>by simpa using hCd l hl)).1 hc)
  rw[qZ q] at he;exact H.rE t e he ((rA (aU.2 λl hl=>by simpa using pN t e he l hl)).1 hc)
 kP:=H.kP
 jl:=H.jl
 args:=H.args
 AP:=H.AP
theorem nM.freeze {f:Nat->Option Rs}(h:nM o w S f)(j:Nat){x y:Rs}(hj:f j=some x)(hn:∀b,¬y.has b)(o6:y.ok (λk=>S k\/x.has k) w):∃S',(∀k,S k->S' k)/\nM o w S' (nk f j (some y)):=by
 refine⟨λk=>S k\/x.has k,λk=>.inl,h.swap (N:=λi=>i=j) (K:=λi=>i=j) (qA.refl _ _) (λ_=>.inl) (λk hk=>?_) (λi ri hi hr=>?_) (λi ri hi hr=>?_) (λi ri b hi hr hb=>?_) (λi k ri rk b hi hk hr _ hb _=>by rw[hi,hk])⟩
 .rcases hk with hk|hk
  .exact .inl hk
  refine .inr ⟨.inl ⟨j,x,rfl,hj,hk⟩,(h.own j x k hj hk).2.1,λi ri hi hr hb=>?_⟩;subst hi;unfold nk at hr;rw[ak rfl] at hr;cases hr;exact hn k hb
 .unfold nk at hr;rw[ah hi] at hr;exact⟨hi,hr⟩
 .subst hi;unfold nk at hr;rw[ak rfl] at hr;cases hr;exact o6
 subst hi;unfold nk at hr;rw[ak rfl] at hr;cases hr;exact(hn b hb).elim
theorem Gq {T:iD}:∀ {cs:List tM} {vs:List af},vs.length=cs.length->(∀(d:Nat) x v,cs[d]?=some x->vs[d]?=some v->sQ T w v x)->jU T w vs cs
 |[],[],_,_=>trivial
 |[],_::_,h,_=>by cases h
 |_::_,[],h,_=>by cases h
 |c::cs,v::vs,h,k=>⟨k 0 c v rfl rfl,Gq (by simpa using h) λd x u h1 h2=>k (d+1) x u (by simpa using h1) (by simpa using h2)⟩
theorem yB.cel {ie:ax}{v:af}{c:tM}(h:yB S w ie v c):sQ (λk=>S k\/v.ownBlock=some k) w v c:=by
 cases c with
 |l t l=>exact mI.rd h
 |_=>exact h.1.up λ_=>.inl
theorem pQ.rd {v:af}{f:Lit->af}{e:ax}{t:Ty}{ie:ax}{l:List (El t)}(h:pQ S w v f none e t ie l):Rd (λk=>S k\/(Nk v f none e t ie l).has k) w v l:=by
 have⟨xs,h1,_,h2⟩:=h.row;refine mI.rd (S:=λk=>S k\/(Nk v f none e t ie l).has k) (e:=e) ⟨xs,by rw[<-kK];exact h1,by rw[h1.1,kK],λi hi=>?_⟩|>.up λk hk=>?_
 .have hlen:((xs.drop (i*Data.size (El t))).take (Data.size (El t))).length=(jo t l[i]).length:=by
   have:=bI (iN t) (show i+1<=l.length from hi);rw[bT,<-h1.1] at this;rw[lM,aW,bu,<-kK];omega
  refine CI t (Gq hlen λd x u hx hu=>?_);have hd:d<iN t:=by have:=(bW.1 hx).1;rwa[lM] at this
  rw[<-kK,bK,ak hd,b7] at hu;have Pq:(ov t l)[i*iN t+d]?=some x:=by
   rw[zR hi hd,aJ,aY hi];exact hx
  obtain⟨k1,k2⟩:=h2 _ x Pq (by simp);rw[hu] at k1;cases k1;refine k2.cel.up λk hk=>?_;rcases hk with hk|hk
  .exact .inl hk
  refine .inr (.inr ⟨_,?_,by simp,hk⟩);have:=(bW.1 Pq).1;rwa[mg] at this
 rcases hk with hk|hk
 .exact hk
 exact .inr (.inl hk)
theorem yX.at {k:Kc}{α:Type}[Data α]{b:Nat}{f:Lit->af}{ie:ax}{m:iU k (List α)}(h:yX S w b f none ie m):pX (λc=>S c\/(T4 (some b) f none ie m).has c) w b m:=by
 have⟨zs,h1,h2,h3⟩:=h.map;refine⟨zs,h1,h2,λz hz=>?_⟩;obtain⟨k1,k2⟩:=h3 z hz (by simp);refine k2.rd.up λc hc=>?_;rcases hc with hc|hc
 .exact .inl hc
 exact .inr (.inr ⟨z.1,by simp,by rw[<-k1];exact hc⟩)
def yI:R2->Option R2
 | .row _ t l=>some (.ro t l)
 | .map k t m=>some (.wE k t m)
 | .ext (.nest _ none _ t _ l)=>some (.ro t l)
 | .ext (.mW _ k none t _ m)=>some (.wE k (.list t) m)
 |_=>none
def numOf:Sc->Option Nat
 | .own j=>some j
 | .mp j=>some j
 | .pd j=>some j
 | .ptr j _=>some j
 |_=>none
theorem Un {x z:R2}(h:yI x=some z):sB x=false:=by
 cases x<;>first|rfl|(cases h;done)|skip
 rename_i y;cases y<;>first|rfl|(cases h;done)
theorem IB {x z:R2}(h:yI x=some z):(∃t l,z= .ro t l)\/∃k t m,z= .wE k t m:=by
 cases x with
 |row e t l=>cases h;exact .inl ⟨_,_,rfl⟩
 |map k t m=>cases h;exact .inr ⟨_,_,_,rfl⟩
 |ext y=>
  cases y with
  |nest q hh e t ie l=>
   cases hh with
   |none=>cases h;exact .inl ⟨_,_,rfl⟩
   |some _=>cases h
  |mW q k hh t ie m=>
   cases hh with
   |none=>cases h;exact .inr ⟨_,_,_,rfl⟩
   |some _=>cases h
  |_=>cases h
 |_=>cases h
theorem Nt {x z:R2}{A:jA}{S:iD}{w:aa}{j:Nat}(h:yI x=some z)(hx:(x.den A j).ok S w):(∀b,¬(z.den A j).has b)/\(z.den A j).ok (λk=>S k\/(x.den A j).has k) w:=by
 cases x with
 |row e t l=>cases h;exact⟨λb q=>(by cases q),mI.rd hx⟩
 |map k t m=>
  cases h;have⟨b,hb,hm⟩:=hx;exact⟨λb q=>(by cases q),Iq ⟨some b,by rw[<-hb],.inr hb,hm.up λ_=>.inl⟩⟩
 |ext y=>
  cases y with
  |nest q hh e t ie l=>
   cases hh with
   |none=>cases h;exact⟨λb q=>(by cases q),pQ.rd hx⟩
   |some _=>cases h
  |mW q k hh t ie m=>
   cases hh with
   |none=>
    cases h;have⟨b,hb,hm⟩:=hx;refine⟨λb q=>(by cases q),Iq ⟨some b,by rw[<-hb],.inr (.inl hb),?_⟩⟩;have:=hm.at
    rw[<-hb] at this;exact this
   |some _=>cases h
  |_=>cases h
 |_=>cases h
def Uo:List Sc->(List (Nat×Option R2)->Tr Out)->Tr Out
 |[],k=>k []
 |c::l,k=>match numOf c with
  |some j=>.res j λx=>match yI x with
   |some z=>Uo l λre=>k ((j,some z)::re)
   |none=>match sB x with
    |true=>.fail
    |false=>Uo l k
  |none=>Uo l k
def Frz (r:Nat->Option R2)(re:List (Nat×Option R2)):Prop:=∀p∈re,∃y z,r p.1=some y/\yI y=some z/\p.2=some z
def afN (r:Nat->Option R2)(re:List (Nat×Option R2))(l:List Sc):Prop:=∀c∈l,∀j,numOf c=some j->∀y,r j=some y->sB y=false/\∀z,yI y=some z->(j,some z)∈re
theorem tT:∀(l:List Sc) (k:List (Nat×Option R2)->Tr Out) {out:Out},(Uo l k).run s r=some out->∃re,Frz r re/\afN r re l/\(k re).run s r=some out
 |[],k,out,h=>⟨[],λ_ q=>(by cases q),λ_ q=>(by cases q),h⟩
 |c::l,k,out,h=>by
  simp only[Uo] at h;split at h
  .rename_i j hc;simp only[Tr.run] at h;split at h
   .rename_i x hx;split at h
    .rename_i z hz;obtain⟨re,h1,h3,h2⟩:=tT l _ h;refine⟨_,λp hp=>?_,λc' yY i hi y hy=>?_,h2⟩
     .rcases aD.1 hp with rfl|hp
      .exact⟨x,z,hx,hz,rfl⟩
      exact h1 p hp
     rcases aD.1 yY with rfl|yY
     .rw[hc] at hi;cases hi;rw[hx] at hy;cases hy;refine⟨Un hz,λz' wW=>?_⟩;rw[hz] at wW;cases wW;exact aE
     exact⟨(h3 c' yY i hi y hy).1,λz' wW=>aI _ ((h3 c' yY i hi y hy).2 z' wW)⟩
    rename_i hz;split at h
    .cases h
    rename_i ha;obtain⟨re,h1,h3,h2⟩:=tT l _ h;refine⟨re,h1,λc' yY i hi y hy=>?_,h2⟩;rcases aD.1 yY with rfl|yY
    .rw[hc] at hi;cases hi;rw[hx] at hy;cases hy;exact⟨ha,λz' wW=>by rw[hz] at wW;cases wW⟩
    exact h3 c' yY i hi y hy
   cases h
  rename_i hc;obtain⟨re,h1,h3,h2⟩:=tT l _ h;refine⟨re,h1,λc' yY i hi y hy=>?_,h2⟩;rcases aD.1 yY with rfl|yY
  .rw[hc] at hi;cases hi
  exact h3 c' yY i hi y hy
theorem Up:∀ {re:List (Nat×Option R2)},Frz r re->∀ {j:Nat} {y:R2},r j=some y->ja r re j=some y\/∃z,yI y=some z/\ja r re j=some z
 |[],_,j,y,h=>.inl h
 |p::re,hf,j,y,h=>by
  by_cases e:p.1=j
  .have e2:ja r (p::re) j=p.2:=by rw[<-e];exact lN _ _ _
   obtain⟨y',z,h1,h2,h3⟩:=hf p (by simp);rw[e,h] at h1;cases h1;exact .inr ⟨z,h2,by rw[e2,h3]⟩
  have e2:ja r (p::re) j=ja r re j:=mP e;rw[e2];exact Up (λq hq=>hf q (aI _ hq)) h
theorem Zg {re:List (Nat×Option R2)}(h:Frz r re){j:Nat}{z:R2}(hm:(j,some z)∈re):ja r re j=some z:=by
 induction re with
 |nil=>cases hm
 |cons p re ih=>
  by_cases q:p.1=j
  .have e:ja r (p::re) j=p.2:=by rw[<-q];exact lN _ _ _
   rw[e];obtain⟨y1,z1,h1,h2,h3⟩:=h p (by simp);obtain⟨y2,z2,h4,h5,h6⟩:=h _ hm;have h4:r j=some y2:=h4;rw[q,h4] at h1;cases h1;rw[h2] at h5;cases h5;cases h6;exact h3
  have e:ja r (p::re) j=ja r re j:=mP q;rw[e];refine ih (λz hz=>h z (aI _ hz)) ?_;rcases aD.1 hm with k|k
  .rw[<-k] at q;exact(q rfl).elim
  exact k
theorem kD.freeze (H:kD o n A S F s r a w):∀ {re:List (Nat×Option R2)},Frz r re->∃S',(∀k,S k->S' k)/\kD o n A S' F s (ja r re) a w
 |[],_=>⟨S,λ_ h=>h,H⟩
 |p::re,h=>by
  obtain⟨S1,h1,H1⟩:=kD.freeze H (re:=re) λq hq=>h q (aI _ hq);obtain⟨y,z,hr,hz,hp⟩:=h p (by simp);have fin:∀x,ja r re p.1=some x->(∃S',(∀k,S1 k->S' k)/\nM o w S' (nk (ji A (ja r re)) p.1 (some (z.den A p.1))))->∃S',(∀k,S k->S' k)/\kD o n A S' F s (ja r (p::re)) a w:=λx hx ⟨S2,k2,hf⟩=>by
   refine⟨S2,λk q=>k2 k (h1 k q),H1.vp p.1 p.2 (λy hy=>?_) (λy hy=>?_) (by rw[hp];exact hf)⟩
   .rw[hp] at hy;cases hy;rcases IB hz with⟨_,_,rfl⟩|⟨_,_,_,rfl⟩<;>exact⟨(H1.kP p.1 x hx).1,tv,tv⟩
   rw[hp] at hy;cases hy;rcases IB hz with⟨_,_,rfl⟩|⟨_,_,_,rfl⟩<;>trivial
  rcases Up (λq hq=>h q (aI _ hq)) hr with hx|⟨z',wW,hx⟩
  .have hm:ji A (ja r re) p.1=some (y.den A p.1):=by simp[ji,hx]
   obtain⟨k1,k2⟩:=Nt hz (H1.jl.ok p.1 _ hm);exact fin _ hx (H1.jl.freeze p.1 hm k1 k2)
  rw[hz] at wW;cases wW;have hm:ji A (ja r re) p.1=some (z.den A p.1):=by simp[ji,hx]
  refine fin _ hx ⟨S1,λ_ q=>q,H1.jl.FG p.1 (H1.jl.ok p.1 _ hm) λb q=>?_⟩;rcases IB hz with⟨_,_,rfl⟩|⟨_,_,_,rfl⟩<;>cases q
end
section
variable {P:ay}{o:jw}{n:Nat}{A A':jA}{S T:iD}{F G:Nat->Prop}{s:Nat->Option E2}{r:Nat->Option R2}{a:Act}{w w':aa}{C:List (Nat×Bool)}{b:Nat}
structure IC (T:iD)(w:aa)(A:jA)(j:Nat)(x:R2):Prop where
 l:∀t l,acg x=some ⟨t,l⟩->Rd T w (A.v j) (l:List (El t))
 m:∀k t m,Nl x=some ⟨k,t,m⟩->Rd T w (.map (A.m j)) (m:iU k (El t))
 p:∀t y,Ky x=some ⟨t,y⟩->Rd T w (.pointer (A.p j)) (y:tL (El t))
 s:∀t y,Ua x=some ⟨t,y⟩->oD T w (A.b j) (y:El t)
def Reads (T:iD)(w:aa)(A:jA)(r:Nat->Option R2):Prop:=∀j x,r j=some x->IC T w A j x
def sR (T:iD)(w:aa)(A:jA)(r:Nat->Option R2)(cs:List Sc):Prop:=∀c∈cs,∀j,numOf c=some j->∀x,r j=some x->IC T w A j x
theorem sS {α:Type 1}:∀(t:Ty) (l:List Sc) (k:El t->List Sc->Tr α) {out:α},sR T w A r l->(Nn t l k).run s r=some out->∃(x:El t) (u rest:List Sc),l=u++rest/\Data.rd T w (u.map (Sc.den A)) x/\(k x rest).run s r=some out
 | .int,l,k,out,hR,h=>by
  have h:(adb l k).run s r=some out:=h;unfold adb at h;split at h
  .exact⟨_,[_],_,rfl,rfl,h⟩
  cases h
 | .bool,l,k,out,hR,h=>by
  have h:(Ud l k).run s r=some out:=h;unfold Ud at h;split at h
  .exact⟨_,[_],_,rfl,rfl,h⟩
  cases h
 | .unit,l,k,out,hR,h=>⟨(),[],l,rfl,rfl,h⟩
 | .str,l,k,out,hR,h=>by
  have h:(ade l k).run s r=some out:=h;unfold ade at h;split at h
  .exact⟨_,[_],_,rfl,rfl,h⟩
  cases h
 | .list t,l,k,out,hR,h=>by
  have h:(Ue t l k).run s r=some out:=h;unfold Ue at h;split at h
  .obtain⟨x,hx,h⟩:=iW h;split at h
   .rename_i t' y hy;split at h
    .rename_i z hz;obtain⟨e,rfl⟩:=mH hz;cases e;exact⟨y,[_],_,rfl,⟨_,rfl,jV ((hR _ aE _ rfl x hx).l t y hy)⟩,h⟩
    cases h
   cases h
  .exact⟨[],[_],_,rfl,⟨_,rfl,jV Nb⟩,h⟩
  cases h
 | .map q t,l,k,out,hR,h=>by
  have h:(adf q t l k).run s r=some out:=h;unfold adf at h;split at h
  .obtain⟨x,hx,h⟩:=iW h;split at h
   .rename_i k' t' y hy;split at h
    .rename_i z hz;obtain⟨e,rfl⟩:=mH hz;cases e;exact⟨y,[_],_,rfl,⟨_,rfl,yW ((hR _ aE _ rfl x hx).m q t y hy)⟩,h⟩
    cases h
   cases h
  .exact⟨([]:List (jG q×El t)),[_],_,rfl,⟨_,rfl,none,rfl,rfl⟩,h⟩
  cases h
 | .ptr t,l,k,out,hR,h=>by
  have h:(adg t l k).run s r=some out:=h;unfold adg at h;split at h
  .obtain⟨x,hx,h⟩:=iW h;split at h
   .rename_i t' y hy;split at h
    .rename_i z hz;obtain⟨e,rfl⟩:=mH hz;cases e;exact⟨y,[_],_,rfl,⟨_,rfl,vB ((hR _ aE _ rfl x hx).p t y hy)⟩,h⟩
    cases h
   cases h
  .split at h
   .obtain⟨x,hx,h⟩:=iW h;split at h
    .rename_i t' y hy;split at h
     .rename_i z hz;obtain⟨e,rfl⟩:=mH hz;cases e;obtain⟨cur,t0,fz,cs,p1,p2,p3,p4⟩:=(hR _ aE _ rfl x hx).s t y hy;exact⟨(some y:Option (El t)),[_],_,rfl,⟨_,rfl,_,cur,t0,fz,cs,rfl,p1,p2,p3,p4⟩,h⟩
     cases h
    cases h
   cases h
  .exact⟨(none:Option (El t)),[_],_,rfl,⟨_,rfl,rfl⟩,h⟩
  cases h
 | .pair p q,l,k,out,hR,h=>by
  simp only[Nn] at h;obtain⟨x,u,rest,rfl,h1,h⟩:=sS p l _ hR h;obtain⟨y,u2,afO,rfl,h2,h⟩:=sS q _ _ (λc hc=>hR c (bq _ hc)) h;exact⟨(x,y),u++u2,afO,by rw[bl],⟨_,_,by rw[List.map_append],h1,h2⟩,h⟩
def iJ:Sy->List Sc
 | .one c=>[c]
 | .agg cs=>cs
 | .tN _=>[]
theorem oE {α:Type 1}{t:Ty}{y:Sy}{k:El t->Tr α}{out:α}(hR:sR T w A r (iJ y))(h:(qm t y k).run s r=some out):∃x:El t,Rd T w (y.den A) x/\(k x).run s r=some out:=by
 unfold qm at h;split at h
 .rename_i c hp;obtain⟨x,u,rest,hu,h1,h⟩:=sS t _ _ hR h;split at h
  .rw[aZ] at hu;subst hu;refine⟨x,⟨_,h1,?_⟩,h⟩;rw[DD,hp];rfl
  cases h
 .rename_i cs hp;obtain⟨x,u,rest,hu,h1,h⟩:=sS t _ _ hR h;split at h
  .rw[aZ] at hu;subst hu;refine⟨x,⟨_,h1,?_⟩,h⟩;rw[DD,hp];rfl
  cases h
 cases h
theorem oD.keep {α:Type}[Data α]{T:iD}{w w':aa}{b:Nat}{y:α}(h:oD T w b y)(hk:kU T w w'):oD T w' b y:=let⟨cur,t,fz,cs,h1,h2,h3,h4⟩:=h;⟨cur,t,fz,cs,h1,(hk b h1).trans h2,Data.keep hk h3,h4⟩
theorem oD.up {α:Type}[Data α]{T T':iD}{w:aa}{b:Nat}{y:α}(h:oD T w b y)(hs:∀k,T k->T' k):oD T' w b y:=let⟨cur,t,fz,cs,h1,h2,h3,h4⟩:=h;⟨cur,t,fz,cs,hs b h1,h2,Data.up hs h3,h4⟩
theorem wX (H:kD o n A S F s r a w){j:Nat}{x:R2}(hj:r j=some x)(ha:sB x=false):IC (λk=>S k\/(x.den A j).has k) w A j x:=by
 have o6:(x.den A j).ok S w:=H.jl.ok j _ (show ji A r j=some _ by simp[ji,hj]);cases x with
 |ro t' l'=>exact⟨(λt l q=>by cases q;exact Rd.up (λ_=>.inl) o6),(λ_ _ _ q=>by cases q),(λ_ _ q=>by cases q),(λ_ _ q=>by cases q)⟩
 |ar _ _=>cases ha
 |row e t' l'=>exact⟨(λt l q=>by cases q;exact mI.rd o6),(λ_ _ _ q=>by cases q),(λ_ _ q=>by cases q),(λ_ _ q=>by cases q)⟩
 |box _ _=>exact⟨(λ_ _ q=>by cases q),(λ_ _ _ q=>by cases q),(λ_ _ q=>by cases q),(λ_ _ q=>by cases q)⟩
 |wE k' t' l'=>exact⟨(λ_ _ q=>by cases q),(λk t m q=>by cases q;exact Rd.up (λ_=>.inl) o6),(λ_ _ q=>by cases q),(λ_ _ q=>by cases q)⟩
 |BS _ _ _=>cases ha
 |map k' t' l'=>
  refine⟨(λ_ _ q=>by cases q),(λk t m q=>?_),(λ_ _ q=>by cases q),(λ_ _ q=>by cases q)⟩;cases q;exact(Nt (x:=.map k' t' l') rfl o6).2
 |iter _ _ _ _ _ _=>exact⟨(λ_ _ q=>by cases q),(λ_ _ _ q=>by cases q),(λ_ _ q=>by cases q),(λ_ _ q=>by cases q)⟩
 |ext y=>
  cases y with
  |nest q hh e t' ie l'=>
   cases hh with
   |none=>exact⟨(λt l q=>by cases q;exact pQ.rd o6),(λ_ _ _ q=>by cases q),(λ_ _ q=>by cases q),(λ_ _ q=>by cases q)⟩
   |some _=>exact⟨(λ_ _ q=>by cases q),(λ_ _ _ q=>by cases q),(λ_ _ q=>by cases q),(λ_ _ q=>by cases q)⟩
  |mW q k' hh t' ie m'=>
   cases hh with
   |none=>
    refine⟨(λ_ _ q=>by cases q),(λk t m q=>?_),(λ_ _ q=>by cases q),(λ_ _ q=>by cases q)⟩;cases q;exact(Nt (x:=.ext (.mW _ k' none t' ie m')) rfl o6).2
   |some _=>exact⟨(λ_ _ q=>by cases q),(λ_ _ _ q=>by cases q),(λ_ _ q=>by cases q),(λ_ _ q=>by cases q)⟩
  |zN t' x'=>exact⟨(λ_ _ q=>by cases q),(λ_ _ _ q=>by cases q),(λt y q=>by cases q;exact Rd.up (λ_=>.inl) o6),(λ_ _ q=>by cases q)⟩
  |par _ _=>cases ha
  |Ir t' x'=>exact⟨(λ_ _ q=>by cases q),(λ_ _ _ q=>by cases q),(λ_ _ q=>by cases q),(λt y q=>by cases q;exact oD.up (show oD S w (A.b j) x' from o6) λk hk=>.inl hk)⟩
  |CJ _ _=>cases ha
  |Is _ _ _ _ _=>exact⟨(λ_ _ q=>by cases q),(λ_ _ _ q=>by cases q),(λ_ _ q=>by cases q),(λ_ _ q=>by cases q)⟩
  |FF _=>exact⟨(λ_ _ q=>by cases q),(λ_ _ _ q=>by cases q),(λ_ _ q=>by cases q),(λ_ _ q=>by cases q)⟩
  |sJ _ _=>exact⟨(λ_ _ q=>by cases q),(λ_ _ _ q=>by cases q),(λ_ _ q=>by cases q),(λ_ _ q=>by cases q)⟩
theorem IC.up {T T':iD}{j:Nat}{x:R2}(h:IC T w A j x)(hs:∀k,T k->T' k):IC T' w A j x:=⟨λt l q=>(h.l t l q).up hs,λk t m q=>(h.m k t m q).up hs,λt y q=>(h.p t y q).up hs,λt y q=>(h.s t y q).up hs⟩
theorem Zh (H:kD o n A S F s r a w){j:Nat}{x:R2}(hj:r j=some x)(ha:sB x=true):IC o.old w A j x:=by
 have hk:=H.args j x hj;cases x with
 |ar t' l'=>exact⟨(λt l q=>by cases q;exact Rd.keep H.jl.old hk),(λ_ _ _ q=>by cases q),(λ_ _ q=>by cases q),(λ_ _ q=>by cases q)⟩
 |BS k' t' l'=>exact⟨(λ_ _ q=>by cases q),(λk t m q=>by cases q;exact Rd.keep H.jl.old hk),(λ_ _ q=>by cases q),(λ_ _ q=>by cases q)⟩
 |ext y=>
  cases y with
  |par t' x'=>exact⟨(λ_ _ q=>by cases q),(λ_ _ _ q=>by cases q),(λt y q=>by cases q;exact Rd.keep H.jl.old hk),(λ_ _ q=>by cases q)⟩
  |CJ t' x'=>exact⟨(λ_ _ q=>by cases q),(λ_ _ _ q=>by cases q),(λ_ _ q=>by cases q),(λt y q=>by cases q;exact oD.keep hk H.jl.old)⟩
  |_=>cases ha
 |_=>cases ha
theorem A5 (H:kD o n A S F s r a w):Reads (· <w.heap.size) w A r:=λj x hj=>by
 cases ha:sB x with
 |false=>exact(wX H hj ha).up λk hk=>hk.elim (H.jl.nN k) λq=>(H.jl.own j _ k (show ji A r j=some _ by simp[ji,hj]) q).2.1
 |true=>exact(Zh H hj ha).up λk hk=>bh hk.1 H.jl.sj.size
theorem Uq (H:kD o n A S F s r a w){j:Nat}{z:R2}(hj:r j=some z)(hz:∃y,yI y=some z):IC S w A j z:=by
 have⟨y,hy⟩:=hz;rcases IB hy with⟨t,l,rfl⟩|⟨k,t,m,rfl⟩
 .exact(wX H hj rfl).up λk hk=>hk.elim id λq=>by cases q
 exact(wX H hj rfl).up λk hk=>hk.elim id λq=>by cases q
theorem tU (H:kD o n A S F s r a w){cs:List Sc}(hc:∀c∈cs,∀j,numOf c=some j->∀y,r j=some y->sB y=false):sR (Iv o w) w A r cs:=λc wM j hcj x hj=>by
 refine(wX H hj (hc c wM j hcj x hj)).up λk hk=>?_;rcases hk with hk|hk
 .rcases H.jl.src k hk with h3|h3
  .exact .inl h3
  exact .inr ⟨h3,H.jl.nN k hk⟩
 obtain⟨h1,h2,_⟩:=H.jl.own j _ k (show ji A r j=some _ by simp[ji,hj]) hk;exact .inr ⟨h1,h2⟩
end
def oG:List Ty->Type
 |[]=>Unit
 |t::ts=>El t×oG ts
def qp:List (Bool×Ty)->Type
 |[]=>Unit
 |p::ts=>El p.2×qp ts
def BX (S T:iD)(w:aa):(lg:List (Bool×Ty))->List af->qp lg->Prop
 |[],[],_=>True
 |(k,t)::lg,v::vs,x=>(match k with
  |true=>Rd S w v (x.1:El t)
  |false=>Rd T w v (x.1:El t))/\BX S T w lg vs x.2
 |_,_,_=>False
def A6 (S:iD)(w:aa):(ts:List Ty)->List af->oG ts->Prop
 |[],[],_=>True
 |t::ts,v::vs,x=>Rd S w v x.1/\A6 S w ts vs x.2
 |_,_,_=>False
def pg (S:iD)(w:aa):(ts:List Ty)->af->oG ts->Prop
 |[t],v,x=>Rd S w v x.1
 |ts,v,x=> ∃vs:List af,v= .tuple vs.toArray/\A6 S w ts vs x
def je (P:ay)(f:bA)(lg:List (Bool×Ty))(rs:List Ty)(wo:qp lg->Prop)(fn:qp lg->oG rs):Prop:=
 ∀(o:Orig) (vs:List af) (x:qp lg),BX o.S (· <o.w.heap.size) o.w lg vs x->wo x->Calls P f vs.toArray o.w (Fv o λS v w'=>pg S w' rs v (fn x))
def l7:(ts:List Ty)->oG ts->Nat->List (Bool×List Sc)×List (Nat×Option R2)
 |[],_,_=>([],[])
 |t::ts,y,b=>let c:=ju true b (jo t y.1);let r:=l7 ts y.2 (b+c.2.length);((kR t,c.1)::r.1,c.2++r.2)
def pn (rs:List Ty)(y:oG rs)(b:Nat):Sy×List (Nat×Option R2):=
 match l7 rs y b with
 |([(true,cs)],re)=>(.agg cs,re)
 |([(false,[c])],re)=>(.one c,re)
 |(ps,re)=>(.tN ps,re)
section
variable {P:ay}{o:jw}{n:Nat}{A A':jA}{S T:iD}{F G:Nat->Prop}{s:Nat->Option E2}{r:Nat->Option R2}{a:Act}{w w':aa}{C:List (Nat×Bool)}{b:Nat}
theorem nW {k:Bool}:∀(cs:List tM) (b:Nat),∀p∈(ju k b cs).2,b<=p.1/\p.1<b+(ju k b cs).2.length
 |[],_,_,h=>by cases h
 | .i _::r,b,p,h=>nW r b p h
 | .b _::r,b,p,h=>nW r b p h
 | .s _::r,b,p,h=>nW r b p h
 | .l t l::r,b,p,h=>by
  obtain⟨x,h⟩:∃x,p∈(b,x)::(ju k (b+1) r).2:=⟨_,h⟩;show b<=p.1/\p.1<b+((ju k (b+1) r).2.length+1);rcases aD.1 h with rfl|h
  .simp
  have:=nW r (b+1) p h;omega
 | .p t l::r,b,p,h=>by
  obtain⟨x,h⟩:∃x,p∈(b,x)::(ju k (b+1) r).2:=⟨_,h⟩;show b<=p.1/\p.1<b+((ju k (b+1) r).2.length+1);rcases aD.1 h with rfl|h
  .simp
  have:=nW r (b+1) p h;omega
 | .m q t l::r,b,p,h=>by
  obtain⟨x,h⟩:∃x,p∈(b,x)::(ju k (b+1) r).2:=⟨_,h⟩;show b<=p.1/\p.1<b+((ju k (b+1) r).2.length+1);rcases aD.1 h with rfl|h
  .simp
  have:=nW r (b+1) p h;omega
theorem rF.agree (hA:kZ F A A'):∀ {re:List (Nat×Option R2)} {b:Nat},(∀p∈re,F p.1)->rF o S w A b re->rF o S w A' b re
 |[],_,_,_=>trivial
 |p::re,b,hk,h=>by
  have⟨h1,⟨x,hx,hr⟩,h3⟩:=h;have e:=hA p.1 (hk p (by simp));refine⟨h1,⟨x,hx,?_⟩,rF.agree hA (λq hq=>hk q (aI _ hq)) h3⟩;have hF:=hk p (by simp);cases x<;>first|(show Rd _ _ _ _;rw[<-e.1];exact hr)|(show Rd _ _ _ _;rw[<-e.2.2.2];exact hr)|exact hr|skip
  rename_i z;cases z<;>first|exact hr|(show Rd _ _ _ _;rw[<-hA.p hF];exact hr)|(show oD _ _ _ _;rw[<-e.2.1];exact hr)
theorem rF.append:∀ {re re':List (Nat×Option R2)} {b b':Nat},rF o S w A b re->(∀p∈re,p.1<b')->b<=b'->rF o S w A b' re'->rF o S w A b (re++re')
 |[],_,_,_,_,_,hb,k=>k.ahY hb
 |p::re,re',b,b',h,hl,hb,k=>⟨h.1,h.2.1,rF.append h.2.2 (λq hq=>hl q (aI _ hq)) (by have:=hl p (by simp);omega) k⟩
theorem rG {t:Ty}{v:af}{x:El t}(h:Rd S w v x):∃vs,jU S w vs (jo t x)/\v=(if kR t then .agg vs.toArray else vs.headD undef):=by
 have⟨cs,h1,h2⟩:=h;exact⟨cs,pO t h1,by rw[<-DD];exact h2⟩
theorem yZ {B:Nat}:∀(ts:List Ty) (y:oG ts) (vs:List af) (b:Nat) (A:jA) (F:Nat->Prop),A6 S w ts vs y->(∀j,b<=j->j<B->¬F j)->(∀p∈(l7 ts y b).2,p.1<B)->
  ∃A',kZ F A A'/\(l7 ts y b).1.map (m7 A')=vs/\rF o S w A' b (l7 ts y b).2/\∀p∈(l7 ts y b).1,∀c∈p.2,c.all (FU F (l7 ts y b).2)/\c.ku A'
 |[],_,[],b,A,F,_,_,_=>⟨A,kZ.refl _ _,rfl,tv,λ_ h=>by cases h⟩
 |[],_,_::_,_,_,_,h,_,_=>h.elim
 |_::_,_,[],_,_,_,h,_,_=>h.elim
 |t::ts,y,v::vs,b,A,F,h,hF,hB=>by
  obtain⟨cs,kF,hv⟩:=rG h.1;obtain⟨A1,h1,h2,h3,h4⟩:=nB (o:=o) (S:=S) (w:=w) (k:=true) _ cs b A F kF hF λp hp=>hB p (aQ _ hp);have wq:=nW (k:=true) (jo t y.1) b;obtain⟨A2,k1,k2,k3,k4⟩:=yZ ts y.2 vs (b+(ju true b (jo t y.1)).2.length) A1 (FU F (ju true b (jo t y.1)).2) h.2 (λj hj hjB hn=>by
   rcases hn with hn|⟨x,hx⟩
   .exact hF j (by omega) hjB hn
   have:=wq _ hx;omega) λp hp=>hB p (bq _ hp)
  have mw:∀c∈(ju true b (jo t y.1)).1,c.all (FU F (ju true b (jo t y.1)).2):=λc hc=>(h4 c hc).1;have Zi:∀j,FU F (ju true b (jo t y.1)).2 j->FU F (l7 (t::ts) y b).2 j:=λj hj=>by
   rcases hj with hj|⟨x,hx⟩
   .exact .inl hj
   exact .inr ⟨x,aQ _ hx⟩
  refine⟨A2,h1.trans (k1.mono λj hj=>.inl hj),?_,?_,λp hp c hc=>?_⟩
  .show m7 A2 (kR t,(ju true b (jo t y.1)).1)::(l7 ts y.2 _).1.map (m7 A2)=_;rw[k2]
   congr 1
   unfold m7;rw[<-qO k1 mw,h2,hv]
  .exact rF.append (rF.agree k1 (λp hp=>.inr ⟨p.2,hp⟩) h3) (λp hp=>(wq p hp).2) (by omega) k3
  have hp:p=(kR t,(ju true b (jo t y.1)).1)\/p∈(l7 ts y.2 (b+(ju true b (jo t y.1)).2.length)).1:=aD.1 hp;rcases hp with rfl|hp
  .exact⟨Sc.mono Zi (mw c hc),Sc.lZ k1 (mw c hc) (h4 c hc).2⟩
  refine⟨Sc.mono (λj hj=>?_) (k4 p hp c hc).1,(k4 p hp c hc).2⟩;rcases hj with hj|⟨x,hx⟩
  .exact Zi j hj
  exact .inr ⟨x,bq _ hx⟩
theorem BY:∀(ts:List Ty) (y:oG ts) (b:Nat),(l7 ts y b).1.length=ts.length
 |[],_,_=>rfl
 |t::ts,y,b=>by
  show(l7 ts y.2 _).1.length+1=ts.length+1;rw[BY ts y.2]
theorem KC (rs:List Ty)(y:oG rs)(b:Nat):(pn rs y b).2=(l7 rs y b).2:=by
 unfold pn;split<;>(rename_i q;rw[q])
theorem Ur {B:Nat}{rs:List Ty}{y:oG rs}{v:af}(h:pg S w rs v y)(hF:∀j,b<=j->j<B->¬F j)(hB:∀p∈(pn rs y b).2,p.1<B):
  ∃A',kZ F A A'/\(pn rs y b).1.den A'=v/\rF o S w A' b (pn rs y b).2/\(pn rs y b).1.all (FU F (pn rs y b).2)/\(pn rs y b).1.ku A':=by
 have many:∀vs:List af,(∀x,rs≠[x])->v= .tuple vs.toArray->A6 S w rs vs y->∃A',kZ F A A'/\(pn rs y b).1.den A'=v/\rF o S w A' b (pn rs y b).2/\(pn rs y b).1.all (FU F (pn rs y b).2)/\(pn rs y b).1.ku A':=by
  intro vs mc hv hr;obtain⟨A',h1,h2,h3,h4⟩:=yZ rs y vs b A F hr hF (by rw[<-KC];exact hB);have hl:∀q,(l7 rs y b).1≠[q]:=by
   intro q hq;have hl:=BY rs y b;rw[hq] at hl
   match rs,hl,mc with
   |[t],_,mc=>exact mc t rfl
  have e:pn rs y b=(.tN (l7 rs y b).1,(l7 rs y b).2):=by
   unfold pn;split
   .rename_i q;exact(hl _ (by rw[q])).elim
   .rename_i q;exact(hl _ (by rw[q])).elim
   rename_i q;rw[q]
  rw[e];exact⟨A',h1,by simp only[Sy.den,h2,hv],h3,λp hp c hc=>(h4 p hp c hc).1,λp hp c hc=>(h4 p hp c hc).2⟩
 match rs,y,h with
 |[],y,h=>have⟨vs,h1,h2⟩:=h;exact many vs (λ_ q=>by cases q) h1 h2
 |t::u::ts,y,h=>have⟨vs,h1,h2⟩:=h;exact many vs (λ_ q=>by cases q) h1 h2
 |[t],y,h=>
  have h:Rd S w v y.1:=h;obtain⟨A',h1,h2,h3,h4⟩:=yZ [t] y [v] b A F ⟨h,tv⟩ hF (by rw[<-KC];exact hB);obtain⟨cs,kF,hv⟩:=rG h;have hlen:∀c∈(l7 [t] y b).1,c.1=false->∃q,c.2=[q]:=by
   intro c hc DP;have hc:c=(kR t,(ju true b (jo t y.1)).1):=by simpa[l7] using hc
   subst hc;have DP:kR t=false:=DP;cases t<;>first|exact⟨_,rfl⟩|cases DP
  have Pr:(∃cs re,l7 [t] y b=([(true,cs)],re))\/∃c re,l7 [t] y b=([(false,[c])],re):=by
   cases hp:kR t with
   |true=>exact .inl ⟨_,_,by show([(kR t,_)],_)=_;rw[hp]⟩
   |false=>
    obtain⟨q,hq⟩:=hlen (kR t,(ju true b (jo t y.1)).1) (by simp[l7]) hp;have hq:(ju true b (jo t y.1)).1=[q]:=hq;exact .inr ⟨q,_,by show([(kR t,(ju true b (jo t y.1)).1)],_)=_;rw[hp,hq]⟩
  rcases Pr with⟨AO,re,hq⟩|⟨c,re,hq⟩
  .have e:pn [t] y b=(.agg AO,re):=by unfold pn;rw[hq]
   rw[hq] at h2 h3 h4;rw[e];exact⟨A',h1,(akn h2).1,h3,λc hc=>(h4 (true,AO) (av.2 rfl) c hc).1,λc hc=>(h4 (true,AO) (av.2 rfl) c hc).2⟩
  have e:pn [t] y b=(.one c,re):=by unfold pn;rw[hq]
  rw[hq] at h2 h3 h4;rw[e];exact⟨A',h1,(akn h2).1,h3,(h4 (false,[c]) (av.2 rfl) c (av.2 rfl)).1,(h4 (false,[c]) (av.2 rfl) c (av.2 rfl)).2⟩
end
def Us:(lg:List (Bool×Ty))->List Sy->(qp lg->Tr Out)->Tr Out
 |[],[],k=>k ()
 |p::lg,y::ys,k=>qm p.2 y λx=>Us lg ys λxs=>k (x,xs)
 |_,_,_=>.fail
def ID:List (Bool×Ty)->List Sy->List Sc
 |(true,_)::lg,y::ys=>iJ y++ID lg ys
 |(false,_)::lg,_::ys=>ID lg ys
 |_,_=>[]
def Ut {lg:List (Bool×Ty)}{rs:List Ty}(wo:qp lg->Prop)(fn:qp lg->oG rs)(b:Nat)(ko:List (Nat×Nat))(ys:List Sy):Tr Out:=
 match ko with
 |[]=>Uo (ID lg ys) λre=>Us lg ys λx=>.ret ⟨[wo x],[],(pn rs (fn x) b).1,(pn rs (fn x) b).2++re⟩
 |_=>.fail
section
variable {P:ay}{o:jw}{n:Nat}
def mL (o:jw)(n:Nat)(F:Nat->Prop)(s:Nat->Option E2)(r:Nat->Option R2)(a:Act)(out:Out)(v:af)(w':aa):Prop:=
 ∃A' S',kD o n A' S' (FU F out.re) s (ja r out.re) a w'/\v=out.sy.den A'/\out.sy.all (FU F out.re)/\out.sy.ku A'
end
def zS (P:ay)(f:bA)(tr:Nat->List (Nat×Nat)->List Sy->Tr Out):Prop:=
 ∀(o:jw) (n:Nat) (A:jA) (S:iD) (F:Nat->Prop) (s:Nat->Option E2) (r:Nat->Option R2) (a:Act) (w:aa) (b B:Nat) (ko:List (Nat×Nat)) (ys:List Sy) (out:Out),
  kD o n A S F s r a w->(∀j,b<=j->j<B->¬F j)->(∀y∈ys,y.all F/\y.ku A)->(∀c∈ko,F c.1)->(tr b ko ys).run s r=some out->(∀p∈out.cs,p)->(∀h∈out.hs,∀A w,h.lhs A w=h.rhs A w)->(∀p∈out.re,p.1<B)->
  Calls P f (ys.map (Sy.den A)++ko.map (λc=>cx (some ⟨A.b c.1,c.2,none⟩))).toArray w (λe w'=> ∃v,e= .returned v/\mL o n F s r a out v w')
structure kI (P:ay) where
 f:bA
 tr:Nat->List (Nat×Nat)->List Sy->Tr Out
 ok:zS P f tr
def Uu (P:ay)(t:ax)(y:Sy)(cs:List Sc):Hid:=
 ⟨λA w=>(Instr.box t (y.den A)).run P w,λA w=>.ok (.pointer (some ⟨w.heap.size,0,none⟩)) (w.alloc (.cells (cs.map (Sc.den A)).toArray t))⟩
def KD (P:ay)(t:ax)(cs:List Sc):Hid:=
 ⟨λ_ w=>(Instr.alloc t true (.tuple #[])).run P w,λA w=>.ok (.pointer (some ⟨w.heap.size,0,none⟩)) (w.alloc (.cells (cs.map (Sc.den A)).toArray t))⟩
def DQ (P:ay)(t len:Nat)(e:ax)(ys:List (Nat×Sy))(cs:List Sc):Hid:=
 ⟨λA w=>(am5 t len (ys.map λy=>(y.1,y.2.den A)).toArray).run P w,λA w=>.ok (.slice (some ⟨w.heap.size,0,none⟩) len len) (w.alloc (.cells (cs.map (Sc.den A)).toArray e))⟩
def KE (P:ay)(t:ax)(ys:List (Nat×Sy))(cs:List Sc):Hid:=
 ⟨λA w=>(alg t (ys.map λy=>(y.1,y.2.den A)).toArray).run P w,λA w=>.ok (.agg (cs.map (Sc.den A)).toArray) w⟩
def codeOf (P:ay):Nat->ax->Option Ty
 |0,_=>none
 |k+1,t=>match P.underlying t with
  |some (.int .i64)=>some .int
  |some .bool=>some .bool
  |some .string=>some .str
  |some (.slice e)=>(codeOf P k e).map .list
  |some (.map q e)=>match P.underlying q with
   |some (.int .i64)=>(codeOf P k e).map (.map .int)
   |some .string=>(codeOf P k e).map (.map .str)
   |_=>none
  |some (.struct fs)=>acj (fs.toList.map λf=>codeOf P k f.type)
  |_=>none
where acj:List (Option Ty)->Option Ty
 |[some t]=>some t
 |some t::r=>(acj r).map (.pair t)
 |[]=>some .unit
 |_=>none
def oW (P:ay)(t e:ax)(sz:Nat):Bool:=
 match P.underlying t,P.info? e with
 |some (.slice e'),some i=>match i.zero with
  |some z=>aP e' e && aP i.size sz && aP z.cells.size sz && bw 0 sz && akb i.bytes 1000
  |none=>false
 |_,_=>false
theorem wY {P:ay}{t e:ax}{sz:Nat}(h:oW P t e sz=true):∃bytes,bytes<=1000/\Dh P t e sz bytes:=by
 unfold oW at h;split at h
 .rename_i e' i hu hi;split at h
  .rename_i z hz;simp only[aR] at h;obtain⟨⟨⟨⟨h1,h2⟩,h3⟩,h4⟩,h5⟩:=h;have h1:=jP h1;have h2:=jP h2;have h3:=jP h3;subst h1;exact⟨i.bytes,by simpa using Nat.le_of_ble_eq_true h5,hu,⟨i,z,hi,hz,h2,rfl,h3⟩,by simpa using bZ▸h4⟩
  cases h
 cases h
def CL (t:Ty):List Sy->(List (El t)->Tr Out)->Tr Out
 |[],k=>k []
 |y::ys,k=>qm t y λx=>CL t ys λxs=>k (x::xs)
def Nu:Nat->List Nat->Bool
 |_,[]=>true
 |k,i::l=>aP i k && Nu (k+1) l
def adh (P:ay)(b t len:Nat)(is:List Nat)(ys:List Sy):Tr Out:=
 match codeOf P 9 (P.elem t) with
 |some ty=>jb (Nu 0 is && (aP is.length len && aP ys.length len && oW P t (P.elem t) (Pn ty)) && akb len 1000)
  (Uo (ys.flatMap iJ) λre=>CL ty ys λl=>.ret ⟨[],[DQ P t len (P.elem t) (is.zip ys) (ys.flatMap iJ)],.one (.own b),[(b,some (.row (P.elem t) ty l))]++re⟩)
 |none=>.fail
def IE (fs:Array Field):List (Nat×Sy)->List Sc->Option (List Sc)
 |[],cs=>some cs
 |(i,y)::l,cs=>match fs[i]? with
  |some fd=>IE fs l (cs.take fd.offset++iJ y++cs.drop (fd.offset+(iJ y).length))
  |none=>none
def Uv (P:ay)(t:ax)(ys:List (Nat×Sy)):Tr Out:=
 match P.info? t,P.underlying t with
 |some i,some (.struct fs)=>match i.zero with
  |some z=>match IE fs ys (z.cells.toList.map tO) with
   |some cs=>.ret ⟨[],[KE P t ys cs],.agg cs,[]⟩
   |none=>.fail
  |none=>.fail
 |_,_=>.fail
def Gs:Sc->Bool
 | .v x=>x.oneCell'
 | .hd _ _ _=>false
 |_=>true
def storeT (P:ay)(t:ax):Sy->Sy->Tr Out
 | .one (.ptr j off),y=>.res j λx=>match x with
  | .box bt cs=>jb (akb (off+(iJ y).length) cs.length && aP (P.cellsOf t) (iJ y).length && (P.info? t).isSome && (iJ y).all Gs && (match y with| .tN _=>false|_=>true))
   (.ret ⟨[],[],.one (.v undef),[(j,some (.box bt (cs.take off++iJ y++cs.drop (off+(iJ y).length))))]⟩)
  |_=>.fail
 |_,_=>.fail
def DR (P:ay)(b:Nat)(t:ax):Tr Out:=
 match P.underlying t,codeOf P 9 t with
 |some (.map kt _),some (.map k ty)=>jb (tS P kt k) (.ret ⟨[],[],.one (.mp b),[(b,some (.map k ty ([]:List (jG k×El ty))))]⟩)
 |_,_=>.fail
def FG (P:ay)(t:ax)(p q y:Sy):Tr Out:=
 match P.underlying t,p with
 |some (.map kt et),.one (.mp j)=>.res j λr=>match r with
  | .map k ty m=>match BV k q with
   |some x=>jb (tS P kt k) (Uo (iJ y) λre=>jb (re.all λp=>!Nat.beq p.1 j) (qm ty y λv=>.ret ⟨[mR k x,(show List (jG k×El ty) from m).length<=2147483647],[],.one (.v undef),(j,some (.map k ty (nu m x v)))::re⟩))
   |none=>.fail
  |_=>.fail
 |_,_=>.fail
def Uw (P:ay)(t J1:ax)(p q:Sy):Tr Out:=
 match P.underlying t,p with
 |some (.map kt et),.one (.mp j)=>.res j λr=>match r with
  | .map k ty m=>match BV k q with
   |some x=>jb (tS P kt k && aP kt J1) (.ret ⟨[mR k x],[],.tN [],[(j,some (.map k ty (sw m x)))]⟩)
   |none=>.fail
  |_=>.fail
 |_,_=>.fail
def Ux (P:ay)(t:ax)(p:Sy):Tr Out:=
 match P.underlying t,p with
 |some (.map kt et),.one (.mp j)=>.res j λr=>match Kx r with
  |some ⟨k,t',m⟩=>jb (tS P kt k) (one (num ((show List (jG k×El t') from m).length:Int)))
  |none=>.fail
 |_,_=>.fail
def adi (P:ay)(t:Option ax):Bool:=match t.bind P.underlying with
 |some (.map _ _)=>true
 |_=>false
section
variable {P:ay}{o:jw}{n:Nat}{A A':jA}{S S' T:iD}{F G:Nat->Prop}{s:Nat->Option E2}{r:Nat->Option R2}{a:Act}{w w':aa}{C:List (Nat×Bool)}{b:Nat}
theorem lT (r:Nat->Option R2):∀x y:List (Nat×Option R2),ja r (x++y)=ja (ja r y) x
 |[],_=>rfl
 |p::x,y=>by show sC (ja r (x++y)) p.1 p.2=_;rw[lT r x y];rfl
theorem wZ {α:Type 1}(H:kD o n A S F s r a w)(hC:nc a C):∀ {l:List aM} {k:List Sy->Tr α} {out:α},(Rw C l k).run s r=some out->∃ys:List Sy,l.map a.eval=ys.map (Sy.den A)/\(∀y∈ys,y.all F/\y.ku A)/\(k ys).run s r=some out
 |[],k,out,h=>⟨[],rfl,λ_ q=>(by cases q),h⟩
 |x::l,k,out,h=>by
  obtain⟨y,e1,e2,e3,h⟩:=iR H hC h;obtain⟨ys,f1,f2,h⟩:=wZ H hC h;refine⟨y::ys,by rw[bn,bn,e1,f1],λz hz=>?_,h⟩;rcases aD.1 hz with rfl|hz
  .exact⟨e2,e3⟩
  exact f2 z hz
theorem uM (H:kD o n A S F s r a w){re:List (Nat×Option R2)}(hz:Frz r re)(hS:∀k,S k->S' k)(H':kD o n A S' F s (ja r re) a w){l:List Sc}(hl:afN r re l):sR S' w A r l:=by
 intro c hc j hcj x hx;obtain⟨ha,hf⟩:=hl c hc j hcj x hx;cases wW:yI x with
 |some z=>
  have h1:=Uq H' (Zg hz (hf z wW)) ⟨x,wW⟩;cases x with
  |row e t l=>cases wW;exact⟨(λt l q=>by cases q;exact h1.l _ _ rfl),(λ_ _ _ q=>by cases q),(λ_ _ q=>by cases q),(λ_ _ q=>by cases q)⟩
  |map k t m=>cases wW;exact⟨(λ_ _ q=>by cases q),(λk t m q=>by cases q;exact h1.m _ _ _ rfl),(λ_ _ q=>by cases q),(λ_ _ q=>by cases q)⟩
  |ext y=>
   cases y with
   |nest q hh e t ie l=>
    cases hh with
    |none=>cases wW;exact⟨(λt l q=>by cases q;exact h1.l _ _ rfl),(λ_ _ _ q=>by cases q),(λ_ _ q=>by cases q),(λ_ _ q=>by cases q)⟩
    |some _=>cases wW
   |mW q k hh t ie m=>
    cases hh with
    |none=>cases wW;exact⟨(λ_ _ q=>by cases q),(λk t m q=>by cases q;exact h1.m _ _ _ rfl),(λ_ _ q=>by cases q),(λ_ _ q=>by cases q)⟩
    |some _=>cases wW
   |_=>cases wW
  |_=>cases wW
 |none=>
  have h1:=wX H hx ha;have low:(∀k,(x.den A j).has k->S' k)->IC S' w A j x:=λq=>h1.up λk hk=>hk.elim (hS k) (q k);cases x with
  |ro t' l'=>exact low λk q=>by cases q
  |wE k' t' l'=>exact low λk q=>by cases q
  |box _ _=>exact⟨(λ_ _ q=>by cases q),(λ_ _ _ q=>by cases q),(λ_ _ q=>by cases q),(λ_ _ q=>by cases q)⟩
  |ar _ _=>cases ha
  |BS _ _ _=>cases ha
  |row _ _ _=>cases wW
  |map _ _ _=>cases wW
  |iter _ _ _ _ _ _=>exact⟨(λ_ _ q=>by cases q),(λ_ _ _ q=>by cases q),(λ_ _ q=>by cases q),(λ_ _ q=>by cases q)⟩
  |ext y=>
   cases y with
   |nest q hh e t ie l=>
    cases hh with
    |none=>cases wW
    |some _=>exact⟨(λ_ _ q=>by cases q),(λ_ _ _ q=>by cases q),(λ_ _ q=>by cases q),(λ_ _ q=>by cases q)⟩
   |mW q k hh t ie m=>
    cases hh with
    |none=>cases wW
    |some _=>exact⟨(λ_ _ q=>by cases q),(λ_ _ _ q=>by cases q),(λ_ _ q=>by cases q),(λ_ _ q=>by cases q)⟩
   |zN t x=>exact low λk q=>by cases q
   |Ir t x=>exact low λk q=>q.elim
   |par _ _=>cases ha
   |CJ _ _=>cases ha
   |Is _ _ _ _ _=>exact⟨(λ_ _ q=>by cases q),(λ_ _ _ q=>by cases q),(λ_ _ q=>by cases q),(λ_ _ q=>by cases q)⟩
   |FF _=>exact⟨(λ_ _ q=>by cases q),(λ_ _ _ q=>by cases q),(λ_ _ q=>by cases q),(λ_ _ q=>by cases q)⟩
   |sJ _ _=>exact⟨(λ_ _ q=>by cases q),(λ_ _ _ q=>by cases q),(λ_ _ q=>by cases q),(λ_ _ q=>by cases q)⟩
theorem A7 (hr:Reads T w A r):∀ {lg:List (Bool×Ty)} {ys:List Sy} {k:qp lg->Tr Out} {out:Out},sR S' w A r (ID lg ys)->(Us lg ys k).run s r=some out->∃x:qp lg,BX S' T w lg (ys.map (Sy.den A)) x/\(k x).run s r=some out
 |[],[],k,out,_,h=>⟨(),tv,h⟩
 |[],_::_,_,_,_,h=>by cases h
 |_::_,[],_,_,_,h=>by cases h
 |(true,t)::lg,y::ys,k,out,hk,h=>by
  obtain⟨x,h1,h⟩:=oE (T:=S') (λc hc=>hk c (aQ _ hc)) h;obtain⟨xs,h2,h⟩:=A7 hr (λc hc=>hk c (bq _ hc)) h;exact⟨(x,xs),⟨h1,h2⟩,h⟩
 |(false,t)::lg,y::ys,k,out,hk,h=>by
  obtain⟨x,h1,h⟩:=oE (T:=T) (λc _ j _=>hr j) h;obtain⟨xs,h2,h⟩:=A7 (lg:=lg) (ys:=ys) hr hk h;exact⟨(x,xs),⟨h1,h2⟩,h⟩
theorem jM {op:aC}{v:af}{K:Act->aa->Prop}{Q:Exit->Act->aa->Prop}(e:(execOp a.eval op).run P w= .ok (.value v) w')(k:K (a.put op.dst v) w'):op.wp P a w K Q:=by
 unfold Oper.wp;rw[e];exact k
theorem kD.new (H:kD o n A S F s r a w)(hF:¬F b){p:Option bC}{m c:Nat}{x:Obj}{y:R2}(o6:(y.den (A.set b p m c w.heap.size) b).ok S (w.alloc x))(hb:∀k,(y.den (A.set b p m c w.heap.size) b).has k->k=w.heap.size)(mw:y.all (FU F [(b,some y)]))(mc:sB y=false)(hg:y.ku (A.set b p m c w.heap.size)):
  kD o n (A.set b p m c w.heap.size) S (FU F [(b,some y)]) s (ja r [(b,some y)]) a (w.alloc x):=by
 have H1:=H.agree (kZ.set (A:=A) hF p m c w.heap.size) (G:=FU F [(b,some y)]) λj h=>.inl h;refine kD.vp H1 b (some y) (λz hz=>?_) (λz e=>by cases e;exact nD mc) (H1.jl.T7 b x _ o6 hb);cases hz;exact⟨.inr ⟨_,av.2 rfl⟩,mw,hg⟩
theorem RD {f:bA}{lg:List (Bool×Ty)}{rs:List Ty}{wo:qp lg->Prop}{fn:qp lg->oG rs}(ok:je P f lg rs wo fn):zS P f (Ut wo fn):=by
 intro o n A S F s r a w b B ko ys out H hF YO _ h kF _ hB0;unfold Ut at h;cases ko with
 |cons _ _=>cases h
 |nil=>
  obtain⟨re,hz,hl,h⟩:=tT _ _ h;obtain⟨S',hS,H'⟩:=H.freeze hz;obtain⟨xs,To,h⟩:=A7 (T:=(· <w.heap.size)) (S':=S') (A5 H) (uM H hz hS H' hl) h;have e:=iX h;subst e;have IF:wo xs:=kF _ (av.2 rfl);have YP:=ok H'.jl.at (ys.map (Sy.den A)) xs To IF;rw[cr,aZ];refine YP.mono λe w' ⟨v,he,hR,hB⟩=>⟨v,he,?_⟩;obtain⟨A',k1,k2,k3,k4,k5⟩:=Ur (o:=o) (S:=wg H'.jl.at w') (w:=w') (b:=b) (A:=A) (F:=F) hR hF λp hp=>hB0 p (aQ _ hp);have H2:kD o n A (wg H'.jl.at w') F s (ja r re) a w':=⟨H'.size,H'.lH,H'.env,H'.rE,H'.kP,H'.jl.call hB,H'.args,H'.AP⟩;have H3:=H2.ro k1 k3;rw[<-lT] at H3;refine⟨A',_,⟨H3.size,H3.lH,H3.env,λt e he hc=>⟨Sy.mono ?_ (H3.rE t e he hc).1,(H3.rE t e he hc).2⟩,λj x hj=>⟨?_,R2.mono ?_ (H3.kP j x hj).2.1,(H3.kP j x hj).2.2⟩,H3.jl,H3.args,⟨λj hj=>(H3.AP.1 j hj).imp id λ⟨z,hz⟩=>⟨z,aQ _ hz⟩,H3.AP.2⟩⟩,k2.symm,Sy.mono ?_ k4,k5⟩
  all_goals first
   |(intro j hj;rcases hj with hj|⟨z,hz⟩;exact .inl hj;exact .inr ⟨z,aQ _ hz⟩)
   |(rcases(H3.kP j x hj).1 with hj|⟨z,hz⟩;exact .inl hj;exact .inr ⟨z,aQ _ hz⟩)
theorem Nv {B:Nat}{T:List (kI P)}(H:kD o n A S F s r a w)(hF:∀j,b<=j->j<B->¬F j){op:aC}{c:Call}{x:aM}{f:bA}{ko:List (Nat×Nat)}{con:kI P}{out:Out}(ho:op.op= .call c)(qo:c.callee= .value x)(hx:a.eval x=(Sc.uk f ko).den A)(hf:con.f=f)
  (wP:((P.funcs[f]?).map (λfn=>((fn.name== "runtime.NumGoroutine")||fn.body.isNone)))=some false) {ys:List Sy} (kW:c.args.toList.map a.eval=ys.map (Sy.den A)) (YO:∀y∈ys,y.all F/\y.ku A) (BZ:∀c∈ko,F c.1) (h:(con.tr b ko ys).run s r=some out) (kF:∀p∈out.cs,p) (tP:∀h∈out.hs,∀A w,h.lhs A w=h.rhs A w) (hB0:∀p∈out.re,p.1<B)
  {K:Act->aa->Prop} {Q:Exit->Act->aa->Prop} (k:∀v w',mL o n F s r a out v w'->K (a.put op.dst v) w'):op.wp P a w K Q:=by
 have YP:=con.ok o n A S F s r a w b B ko ys out H hF YO BZ h kF tP hB0;obtain⟨fn,TU,hb⟩:=aX.1 wP;simp only[am1] at hb;have Rk:fn.name≠ "runtime.NumGoroutine" :=by simpa using hb.1
 have qd:fn.body≠none:=by intro e;rw[e] at hb;cases hb.2
 have hx:a.eval x= .func (.func f) #[] (ko.map λc=>.pointer (some ⟨A.b c.1,c.2,none⟩)).toArray:=hx;have Dr:c.args.map a.eval=(ys.map (Sy.den A)).toArray:=by rw[<-kW];apply ck;rw[aj2]
 have e:(execOp a.eval op).run P w= .ok (.enter f (ys.map (Sy.den A)++ko.map (λc=>cx (some ⟨A.b c.1,c.2,none⟩))).toArray) w:=by
  simp[execOp,ho,resolve,qo,Dr,hx,alj,invoke,callFunc,program,cj,TU,Rk,qd]
 unfold Oper.wp;rw[e];rw[hf] at YP;refine YP.mono λe w' ⟨v,he,hR⟩=>?_;subst he;exact k v w' hR
end
theorem nZ {P:ay}{kt:ax}{k:Kc}(h:tS P kt k=true):P.underlying kt=some (o9 k):=by
 unfold tS at h;split at h
 .split at h
  .assumption
  cases h
 split at h
 .assumption
 cases h
theorem uN {A:jA}{k:Kc}{q:Sy}{x:jG k}(h:BV k q=some x):q.den A=nL k x:=by
 unfold BV at h;split at h
 .cases h;rfl
 .cases h;rfl
 cases h
theorem DS (v:af):numOf (tO v)=none:=by unfold tO;split<;>rfl
theorem DT {P:ay}{t:ax}{z:Sy}(h:DG P t=some z):∀c∈iJ z,numOf c=none:=by
 unfold DG at h;split at h
 .rename_i i _;obtain⟨v,_,rfl⟩:=aX.1 h;intro c hc;unfold FH at hc;split at hc
  .obtain⟨u,_,rfl⟩:=aV.1 hc;exact DS u
  have:=av.1 hc;subst this;exact DS _
 cases h
section
variable {P:ay}{o:jw}{n:Nat}{A A':jA}{S S':iD}{F G:Nat->Prop}{s:Nat->Option E2}{r:Nat->Option R2}{a:Act}{w w':aa}{C:List (Nat×Bool)}{b:Nat}
theorem RE {B:Nat}(H:kD o n A S F s r a w)(hF:∀j,b<=j->j<B->¬F j){op:aC}{t:ax}{m x:aM}{ok:Bool}{p q:Sy}{out:Out}(ho:op.op= .lookup t m x ok)(hm:a.eval m=p.den A)(hx:a.eval x=q.den A)
  (h:(Gi P b t ok p q).run s r=some out) (kF:∀p∈out.cs,p) (tP:∀h∈out.hs,∀A w,h.lhs A w=h.rhs A w) (hB:∀p∈out.re,p.1<B)
  {K:Act->aa->Prop} {Q:Exit->Act->aa->Prop} (k:∀v w',mL o n F s r a out v w'->K (a.put op.dst v) w'):op.wp P a w K Q:=by
 unfold Gi at h;split at h
 .rename_i kt et hu;split at h
  .rename_i j;obtain⟨R,hR,h⟩:=iW h;split at h
   .rename_i qf kc tn ie mm;split at h
    .rename_i kx Uy;obtain⟨hk,h⟩:=iB h;have hk:=nZ hk;have hq:q.den A=nL kc kx:=uN Uy;have hm:a.eval m= .map (A.m j):=hm;obtain⟨J3,Ze,_⟩:=H.kP j _ hR;have Ze:F qf:=Ze;obtain⟨lV,Uz,N⟩:∃lV,A.m j=some lV/\yX S w lV (A.f qf) none ie mm:=H.jl.ok j _ (show ji A r j=some _ by simp[ji,hR];rfl);have⟨zs,n1,n2,n3⟩:=N.map;have e1:iI (zs.map λq=>(q.1,q.2.1)) kx=(iI zs kx).map (·.1):=nA (λy:af×List (El tn)=>y.1) zs kx;have e2:iI mm kx=(iI zs kx).map (·.2):=by rw[n2];exact nA (λy:af×List (El tn)=>y.2) zs kx
     have e3:(iI (zs.map λq=>(q.1,q.2.1)) kx).isSome=(iI mm kx).isSome:=by rw[e1,e2];cases iI zs kx<;>rfl
     have e4:(iI (zs.map λq=>(q.1,q.2.1)) kx).getD (.slice none 0 0)=A.f qf (lu kc kx):=by
      rw[e1];cases hl:iI zs kx with
      |none=>rw[N.non kx (by rw[e2,hl];rfl) (by simp)];rfl
      |some y=>exact(n3 _ (pW hl) (by simp)).1
     have main:(qn P et (.one (.v (.slice none 0 0)))).lhs A w=(qn P et (.one (.v (.slice none 0 0)))).rhs A w->mR kc kx->(execOp a.eval op).run P w= .ok (.value (if ok then .tuple #[A.f qf (lu kc kx),.bool (iI mm kx).isSome] else A.f qf (lu kc kx))) w:=by
      intro hz hw;have hz:(zeroValue et).run P w= .ok (.slice none 0 0) w:=hz;have kg:(dK t (.map (A.m j)) (nL kc kx) ok).run P w= .ok (if ok then .tuple #[A.f qf (lu kc kx),.bool (iI mm kx).isSome] else A.f qf (lu kc kx)) w:=by
       rw[Uz];cases ok
       .rw[n1.look hu hk hz hw,e4];rfl
       rw[n1.Gi hu hk hz hw,e3,e4];rfl
      simp only[execOp,ho,aO,hm,hx,hq,kg];rfl
     cases ok with
     |true=>
      have e:=iX h;subst e;refine jM (main (tP _ (av.2 rfl) A w) (kF _ (av.2 rfl))) (k _ _ ⟨A,S,H.agree (kZ.refl _ _) λ_ q=>.inl q,rfl,λp hp c hc=>?_,λp hp c hc=>?_⟩)
      .rcases aD.1 hp with rfl|hp
       .have:=av.1 hc;subst this;exact⟨.inl J3,.inl Ze⟩
       have:=av.1 hp;subst this;have:=av.1 hc;subst this;trivial
      rcases aD.1 hp with rfl|hp
      .have:=av.1 hc;subst this;trivial
      have:=av.1 hp;subst this;have:=av.1 hc;subst this;trivial
     |false=>
      have e:=iX h;subst e;exact jM (main (tP _ (av.2 rfl) A w) (kF _ (av.2 rfl))) (k _ _ ⟨A,S,H.agree (kZ.refl _ _) λ_ q=>.inl q,rfl,⟨.inl J3,.inl Ze⟩,tv⟩)
    cases h
   split at h
   .rename_i kc ty mm Dw;split at h
    .rename_i kx z Uy hz;obtain⟨hk,h⟩:=iB h;have hk:=nZ hk;have hq:q.den A=nL kc kx:=uN Uy;have hm:a.eval m= .map (A.m j):=hm;have hzc:=DT hz;obtain⟨x0,Tp,h⟩:∃x0:El ty,(match ot R with|true=>Rd S w (z.den A) x0|false=>Rd o.old o.w (z.den A) x0)/\_:=by
      cases ot R with
      |true=>exact oE (T:=S) (w:=w) (λc hc j hj=>by rw[hzc c hc] at hj;cases hj) h
      |false=>exact oE (T:=o.old) (w:=o.w) (λc hc j hj=>by rw[hzc c hc] at hj;cases hj) h
     have main:(qn P et z).lhs A w=(qn P et z).rhs A w->mR kc kx->∃v,(dK t (.map (A.m j)) (nL kc kx) ok).run P w= .ok (if ok then .tuple #[v,.bool (iI mm kx).isSome] else v) w/\
       (match ot R with|true=>Rd S w v ((iI mm kx).getD x0)|false=>Rd o.old o.w v ((iI mm kx).getD x0)):=by
      intro hz hw;have hz:(zeroValue et).run P w= .ok (z.den A) w:=hz;rcases KA H hR Dw with⟨h1,h2⟩|⟨lV,zs,h1,h2,h3,h4⟩
      .subst h2;refine⟨z.den A,?_,?_⟩
       .rw[h1,Maps.look_nil ok (vz hk) hu hz (vA hk hw)];rfl
       exact Tp
      have e1:iI (zs.map λq=>(q.1,q.2.1)) kx=(iI zs kx).map (·.1):=nA (λy:af×El ty=>y.1) zs kx;have e2:iI mm kx=(iI zs kx).map (·.2):=by rw[h3];exact nA (λy:af×El ty=>y.2) zs kx
      have e3:(iI (zs.map λq=>(q.1,q.2.1)) kx).isSome=(iI mm kx).isSome:=by rw[e1,e2];cases iI zs kx<;>rfl
      refine⟨(iI (zs.map λq=>(q.1,q.2.1)) kx).getD (z.den A),?_,?_⟩
      .rw[h1];cases ok
       .exact h2.look hu hk hz hw
       rw[h2.Gi hu hk hz hw,e3];rfl
      rw[e1,e2];cases hl:iI zs kx with
      |none=>exact Tp
      |some y=>exact h4 _ (pW hl)
     have fin:∀(sy:Sy),(∀v (A':jA),v=(if kR ty then .agg ((ju (ot R) b (jo ty ((iI mm kx).getD x0))).1.map (Sc.den A')).toArray else((ju (ot R) b (jo ty ((iI mm kx).getD x0))).1.map (Sc.den A')).headD undef)->(if ok then ajS #[v,.bool (iI mm kx).isSome] else v)=sy.den A')->
       (∀(G:Nat->Prop) (A':jA),(∀c∈(ju (ot R) b (jo ty ((iI mm kx).getD x0))).1,c.all G/\c.ku A')->sy.all G/\sy.ku A')->
       out=⟨[mR kc kx],[qn P et z],sy,(ju (ot R) b (jo ty ((iI mm kx).getD x0))).2⟩->op.wp P a w K Q:=by
      intro sy yU mw e;subst e;obtain⟨v,kg,nO⟩:=main (tP _ (av.2 rfl) A w) (kF _ (av.2 rfl));obtain⟨vs,Ih,hv⟩:∃vs,CK o S w (ot R) vs (jo ty ((iI mm kx).getD x0))/\v=(if kR ty then .agg vs.toArray else vs.headD undef):=by
       cases YQ:ot R with
       |true=>rw[YQ] at nO;exact rG nO
       |false=>rw[YQ] at nO;exact rG nO
      obtain⟨A',k1,k2,k3,k4⟩:=nB _ vs b A F Ih hF hB;have e2:(execOp a.eval op).run P w= .ok (.value (if ok then .tuple #[v,.bool (iI mm kx).isSome] else v)) w:=by
       simp only[execOp,ho,aO,hm,hx,hq,kg];rfl
      refine jM e2 (k _ _ ⟨A',S,H.ro k1 k3,yU v A' ?_,(mw _ _ k4).1,(mw _ _ k4).2⟩);rw[k2];exact hv
     cases ok with
     |true=>
      have e:=iX h;refine fin (.tN [(kR ty,(ju (ot R) b (jo ty ((iI mm kx).getD x0))).1),(false,[.b (.raw (iI mm kx).isSome)])]) (λv A' hv=>?_) (λG A' hc=>⟨λp hp c wM=>?_,λp hp c wM=>?_⟩) e
      .show ajS #[v,_]= .tuple #[m7 A' (kR ty,_),_];rw[hv];rfl
      .rcases aD.1 hp with rfl|hp
       .exact(hc c wM).1
       have:=av.1 hp;subst this;have:=av.1 wM;subst this;trivial
      rcases aD.1 hp with rfl|hp
      .exact(hc c wM).2
      have:=av.1 hp;subst this;have:=av.1 wM;subst this;trivial
     |false=>
      dsimp only at h;split at h
      .rename_i cs hp;have e:=iX h;refine fin (.agg (ju (ot R) b (jo ty ((iI mm kx).getD x0))).1) (λv A' hv=>?_) (λG A' hc=>⟨λc wM=>(hc c wM).1,λc wM=>(hc c wM).2⟩) e;show v=_;rw[hv,ak hp];rfl
      .rename_i c hp DU;have e:=iX h;refine fin (.one c) (λv A' hv=>?_) (λG A' hc=>hc c (by rw[DU];exact av.2 rfl)) e;show v=_;rw[hv,ah (by rw[hp];decide),DU];rfl
      cases h
    cases h
   cases h
  cases h
 cases h
theorem RF (H:kD o n A S F s r a w){op:aC}{c:Call}{t:ax}{x:aM}{p:Sy}{out:Out}(ho:op.op= .call c)(qo:c.callee= .builtin .len)(kW:c.args.toList=[x])(Dk:c.argTypes.toList=[t])(hx:a.eval x=p.den A)
  (h:(Ux P t p).run s r=some out) {K:Act->aa->Prop} {Q:Exit->Act->aa->Prop} (k:∀v w',mL o n F s r a out v w'->K (a.put op.dst v) w'):op.wp P a w K Q:=by
 have ha:c.args= #[x]:=by apply ck;exact kW
 have hb:c.argTypes= #[t]:=by apply ck;exact Dk
 unfold Ux at h;split at h
 .rename_i kt et j hu;obtain⟨R,hR,h⟩:=iW h;split at h
  .rename_i kc ty mm Dw;obtain⟨hk,h⟩:=iB h;have hk:=nZ hk;have e:=jC h;subst e;have hx:a.eval x= .map (A.m j):=hx;have kg:(akw #[t] op.type #[.map (A.m j)]).run P w= .ok (.int .i64 ((show List (jG kc×El ty) from mm).length:Int)) w:=by
    rcases KA H hR Dw with⟨h1,h2⟩|⟨lV,zs,h1,h2,h3,h4⟩
    .subst h2;rw[h1];exact Maps.len_nil hu op.type
    have:=h2.len hu hk op.type;rw[h1,this,h3];simp only[bp]
   have e2:(execOp a.eval op).run P w= .ok (.value (.int .i64 ((show List (jG kc×El ty) from mm).length:Int))) w:=by
    unfold execOp;simp only[ho,resolve,qo,ha,hb,invoke,builtin,aO,bz,bV,akB,bn,cr,hx,kg]
   exact jM e2 (k _ _ ⟨A,S,H.agree (kZ.refl _ _) λ_ q=>.inl q,rfl,tv,tv⟩)
  cases h
 cases h
theorem kD.ah1 (H:kD o n A S F s r a w)(hF:¬F b){kc:Kc}{ty:Ty}{kt:ax}(hk:P.underlying kt=some (o9 kc)):
  kD o n (A.ja b (some w.heap.size)) S (FU F [(b,some (.map kc ty ([]:List (jG kc×El ty))))]) s (ja r [(b,some (.map kc ty ([]:List (jG kc×El ty))))]) a (w.alloc (.map #[] 0)):=by
 have H1:=H.agree (kZ.ja (A:=A) hF (some w.heap.size)) (G:=FU F [(b,some (.map kc ty ([]:List (jG kc×El ty))))]) λj h=>.inl h;refine kD.vp H1 b _ (λz hz=>?_) (λz e=>by cases e;trivial) (H1.jl.T7 b _ _ ⟨w.heap.size,by rw[jA.DE],[],lG.new w hk,rfl,λ_ q=>by cases q⟩ λq hq=>?_)
 .cases hz;exact⟨.inr ⟨_,av.2 rfl⟩,tv,tv⟩
 have hq:(A.ja b (some w.heap.size)).m b=some q:=hq;rw[jA.DE] at hq;cases hq;rfl
theorem Nw {B:Nat}(H:kD o n A S F s r a w)(hF:∀j,b<=j->j<B->¬F j){op:aC}{t:ax}{x:Option aM}{out:Out}(ho:op.op= .makeMap t x)(hx:∀y,x=some y->∃k m,a.eval y= .int k m)
  (h:(DR P b t).run s r=some out) (hB:∀p∈out.re,p.1<B) {K:Act->aa->Prop} {Q:Exit->Act->aa->Prop} (k:∀v w',mL o n F s r a out v w'->K (a.put op.dst v) w'):op.wp P a w K Q:=by
 unfold DR at h;split at h
 .rename_i kt et kc ty hu hc;obtain⟨hk,h⟩:=iB h;have hk:=nZ hk;have e:=iX h;subst e;have e2:(execOp a.eval op).run P w= .ok (.value (.map (some w.heap.size))) (w.alloc (.map #[] 0)):=by
   cases x with
   |none=>
    simp only[execOp,ho,aO,dg,run_makeMap];rfl
   |some y=>
    obtain⟨ik,m,hy⟩:=hx y rfl;simp[execOp,ho,aO,bX,hy,Instr.makeMap,run_underlying hu,asInt,asIntOf,newObj,bO,cj,bz]
  have H2:=H.ah1 (hF b (az _) (hB _ (av.2 rfl))) (ty:=ty) hk;refine jM e2 (k _ _ ⟨_,S,H2,?_,.inr ⟨_,av.2 rfl⟩,tv⟩);show _=Value.map ((A.ja b (some w.heap.size)).m b);rw[jA.DE]
 cases h
theorem kD.ack (H:kD o n A S F s r a w){j:Nat}{kc:Kc}{ty:Ty}{m m':iU kc (El ty)}(hj:r j=some (.map kc ty m)){lV:Nat}(hb:A.m j=some lV)(hG:w.grownBy w' (some lV))(hm:pX S w' lV m'):
  kD o n A S F s (sC r j (some (.map kc ty m'))) a w':=by
 have oQ:ji A r j=some (yH (A.m j) m):=by show(r j).map _=_;rw[hj];rfl
 have hg:qA w w' (yH (A.m j) m).has:=⟨hG.os,hG.tape,hG.output,hG.size,λk hk hn=>hG.block k hk λe=>hn (by show A.m j=some k;rw[hb,<-e])⟩;have hf1:=H.jl.mut j oQ hg;have kY:=H.jl.own j _ lV oQ hb;have hf2:=hf1.put j (yH (A.m j) m') ⟨lV,hb,hm⟩ (λb' qd=>by
  have qd:A.m j=some b':=qd;rw[hb] at qd;cases qd;refine⟨kY.1,bh kY.2.1 hG.size,kY.2.2,λi ri hi O3 e=>?_⟩;unfold nk at O3;rw[ah hi] at O3;exact hi (H.jl.apart i j ri _ lV O3 oQ e hb))
 have KF:nk (nk (ji A r) j none) j (some (yH (A.m j) m'))=nk (ji A r) j (some (yH (A.m j) m')):=by
  funext i;unfold nk;split<;>rfl
 rw[KF] at hf2;exact kD.vp H j (some (.map kc ty m')) (λz wW=>by cases wW;exact⟨(H.kP j _ hj).1,tv,tv⟩) (λz e=>by cases e;trivial) hf2
theorem RG (H:kD o n A S F s r a w){op:aC}{t:ax}{m x y:aM}{p q z:Sy}{out:Out}(ho:op.op= .mapUpdate t m x y\/op.op= .insert t m x y)(nK:True)(hm:a.eval m=p.den A)(hx:a.eval x=q.den A)(hy:a.eval y=z.den A)
  (h:(FG P t p q z).run s r=some out) (kF:∀p∈out.cs,p) {K:Act->aa->Prop} {Q:Exit->Act->aa->Prop} (k:∀v w',mL o n F s r a out v w'->K (a.put op.dst v) w'):op.wp P a w K Q:=by
 unfold FG at h;split at h
 .rename_i kt et j hu;obtain⟨R,hR,h⟩:=iW h;split at h
  .rename_i kc ty mm;split at h
   .rename_i kx Uy;obtain⟨hk,h⟩:=iB h;have hk:=nZ hk;obtain⟨re,hz,hl,h⟩:=tT _ _ h;obtain⟨S',hS,H'⟩:=H.freeze hz;obtain⟨FI,h⟩:=iB h;obtain⟨d,hd,h⟩:=oE (uM H hz hS H' hl) h;have e:=iX h;subst e;have hq:q.den A=nL kc kx:=uN Uy;have hm:a.eval m= .map (A.m j):=hm;have hw:mR kc kx:=kF _ aE;have hlen:(show List (jG kc×El ty) from mm).length<=2147483647:=kF _ (aI _ aE);have hR':ja r re j=some (.map kc ty mm):=by
     have key:∀l:List (Nat×Option R2),(l.all λp=>!Nat.beq p.1 j)=true->ja r l j=r j:=by
      intro l
      induction l with
      |nil=>intro _;rfl
      |cons p l ih=>
       intro hl;rw[List.all_cons,aR] at hl;have mc:p.1≠j:=λe=>by have:=hl.1;rw[e,dD] at this;cases this
       show sC (ja r l) p.1 p.2 j=_;rw[mP mc];exact ih hl.2
     rw[key re FI];exact hR
    have oQ:ji A (ja r re) j=some (yH (A.m j) mm):=by show(ja r re j).map _=_;rw[hR'];rfl
    obtain⟨lV,hb,zs,h2,h3,h4⟩:=H'.jl.ok j _ oQ;obtain⟨w',kg,J0,hG,_⟩:=h2.put hu hk (by rw[bp];rw[h3] at hlen;simpa using hlen) hw (z.den A);have DV:(execOp a.eval op).run P w= .ok .skip w':=by
     rcases ho with ho|ho<;>(simp only[execOp,ho,aO,hm,hx,hy,hq,hb,kg];rfl)
    unfold Oper.wp;rw[DV];refine k undef _ ?_;have wh:kU S' w w':=λq hq=>hG.block q (H'.jl.nN q hq) λe=>by cases e;exact(H'.jl.own j _ lV oQ hb).2.2 hq
    have H2:=H'.ack hR' hb hG (m':=nu mm kx d) ⟨nu zs kx (z.den A,d),by rw[rC (λy:af×El ty=>y.1)];exact J0,by rw[rC (λy:af×El ty=>y.2),h3],λy hy=>by
     rcases wR.1 hy with rfl|⟨hy,_⟩
     .exact hd.keep wh
     exact(h4 y hy).keep wh⟩
    exact⟨A,S',H2.agree (kZ.refl _ _) λ_ q=>.inl q,rfl,tv,tv⟩
   cases h
  cases h
 cases h
theorem Nx (H:kD o n A S F s r a w){op:aC}{c:Call}{t J1:ax}{x y:aM}{p q:Sy}{out:Out}(ho:op.op= .call c)(qo:c.callee= .builtin .delete)(kW:c.args.toList=[x,y])(Dk:c.argTypes.toList=[t,J1])
  (hx:a.eval x=p.den A) (hy:a.eval y=q.den A) (h:(Uw P t J1 p q).run s r=some out) (kF:∀p∈out.cs,p) {K:Act->aa->Prop} {Q:Exit->Act->aa->Prop} (k:∀v w',mL o n F s r a out v w'->K (a.put op.dst v) w'):op.wp P a w K Q:=by
 have ha:c.args= #[x,y]:=by apply ck;exact kW
 have YR:c.argTypes= #[t,J1]:=by apply ck;exact Dk
 unfold Uw at h;split at h
 .rename_i kt et j hu;obtain⟨R,hR,h⟩:=iW h;split at h
  .rename_i kc ty mm;split at h
   .rename_i kx Uy;obtain⟨hg,h2⟩:=iB h;clear h;rw[aR] at hg;have hk:=nZ hg.1;have hkt:=jP hg.2;subst hkt;have e:=iX h2;subst e;have hq:q.den A=nL kc kx:=uN Uy;have hx:a.eval x= .map (A.m j):=hx;have hw:mR kc kx:=kF _ aE;have oQ:ji A r j=some (yH (A.m j) mm):=by show(r j).map _=_;rw[hR];rfl
    obtain⟨lV,hb,zs,h6,h3,h4⟩:=H.jl.ok j _ oQ;obtain⟨w',kg,J0,hG⟩:=h6.drop hu hk hw op.type;have e2:(execOp a.eval op).run P w= .ok (.value (.tuple #[])) w':=by
     unfold execOp;simp only[ho,resolve,qo,ha,YR,invoke,builtin,aO,bz,bV,akB,bn,cr,hx,hy,hq,hb,kg]
    have wh:kU S w w':=λq hq=>hG.block q (H.jl.nN q hq) λe=>by cases e;exact(H.jl.own j _ lV oQ hb).2.2 hq
    have H2:=H.ack hR hb hG (m':=sw mm kx) ⟨sw zs kx,by rw[Dy (λy:af×El ty=>y.1)];exact J0,by rw[Dy (λy:af×El ty=>y.2),h3],λy hy=>(h4 y (cU.1 hy).1).keep wh⟩;exact jM e2 (k _ _ ⟨A,S,H2.agree (kZ.refl _ _) λ_ q=>.inl q,rfl,(λ_ q=>by cases q),(λ_ q=>by cases q)⟩)
   cases h
  cases h
 cases h
end
end Go.Proofs.YtnfdimfepbbbpaaGreatDoor
