/- Texts joined by program: lemmas. -/
import Derived.WalkKit
import Derived.WalkSpells
import Derived.WalkLawsBesides
import Derived.Lib.Hide
import Derived.Lib.OthersKept
import Derived.Deep.Quiet
import Derived.KernelRfl
import Derived.Test.YtnfdimfepbbbpaaGreatDoorRows
import Derived.ProofKit
import Derived.OrdersHeld
import Derived.Deep.Slices
import Derived.Carry
import Derived.Maps.Own
import Derived.Maps.OwnSet
import Derived.Maps.Views
import Derived.Lib.SlKeysI
import Derived.Maps.RangeWalk
import Derived.Laws.StructEq
import Derived.ChangeKeysEq
set_option linter.unusedSimpArgs false
set_option linter.unusedVariables false
set_option maxRecDepth 100000
set_option maxHeartbeats 8000000
open Array renaming ext'->cr,getD_eq_getD_getElem?->cj,getElem?_eq_getElem->akD,getElem?_eq_some_iff->cI,getElem?_setIfInBounds->akQ,getElem?_toList->akF,length_toList->cz,toList_map->akP,toList_modify->amf
open Bool renaming and_eq_true->aQ,eq_false_iff->an1,false_eq_true->alf,or_eq_false_iff->anR
open Classical renaming byContradiction->bT,choose->amS,choose_spec->alN
open Go renaming World->aa,Value->af,TypeId->ax,Program->az,Operand->aL,Oper->aD,Addr->bJ,IntKind->dJ,Ending->dx,FuncId->bB
open Go.Act renaming eval->dL,put->dM
open Go.Builtin renaming append_->akC,len_->alp,max_->al4,min_->al5
open Go.ChangeMaps renaming setBlock->cW
open Go.DataW renaming Trod->anY,TrodAll->anW,held->akS,insert->amY,trod_struct->amW
open Go.DataW.held renaming injEq->ame
open Go.DataW.map renaming inj->ao8
open Go.Deferred renaming ofValue->amQ
open Go.Instr renaming build->al3,buildSlice->anV,entry->alQ,entryStore->an8,field->anO,loadAt->aln,lookup->dR,mapEntry->am1,mapUpdate->akU,next->alS,range->alR,slice->alr,sliceAt->cF,sliceBound->amV,sliceBounds->als,storeAt->amb,sureAddr->alL
open Go.IntKind renaming bits->amP,i64->aoa,max->alJ,min->ama,signed->amO
open Go.Lib renaming iterAt_other->anJ,iterAt_size->anI
open Go.Lit renaming int->alw,string->an0
open Go.Lit.string renaming inj->ao7
open Go.MapEntry renaming born->ao9
open Go.MapKept renaming run_getObj_map->akW,run_setObj_map->alx
open Go.Maps renaming has->an5,size->dB
open Go.Op renaming eqFields->am5,equal->alm,intBits->an9,maxDepth->akY
open Go.Oper renaming quietUpon->dy,upon_value->alg
open Go.Program renaming cellsOf->alK
open Go.Proofs.Tryz renaming prog->aq
open Go.Region renaming ready->alP,wanted->cV
open Go.Result renaming andThen->bR,andThen_ok->bY
open Go.Sem renaming run->cw,run_bind->aM,run_pure->bF
open Go.Utf8 renaming decode->aJ
open Go.Value renaming bool->akV,int->bI,okWide->anX,ownBlock->ale,pointer->cC,tuple->akH
open Go.World renaming ownsRow_nil->al2
open List renaming Nodup->amM,all_eq_true->aY,append_assoc->bC,append_nil->bq,cons_append->dN,drop_drop->alO,drop_of_length_le->alk,drop_zero->aky,eq_nil_of_length_eq_zero->bV,filterMap_cons->anD,filter_map->an2,find?_cons->amd,find?_map->an4,find?_some->al6,getD_eq_getElem?_getD->aH,getElem?_drop->b5,getElem?_eq_getElem->aR,getElem?_eq_some_iff->b7,getElem?_map->cm,getElem?_take->bP,getElem?_toArray->akG,getElem_mem->cU,getElem_of_mem->akN,getElem_set->alc,length_append->aO,length_drop->bw,length_filter_le->amc,length_map->aV,length_ofFn->amX,length_set->bS,length_take->aX,mapM_cons->anL,map_congr_left->dg,map_cons->bn,map_drop->alA,map_nil->b9,map_take->alz,map_toArray->alv,mem_append->aI,mem_append_left->aS,mem_append_right->bl,mem_cons->aC,mem_cons_of_mem->aE,mem_cons_self->aA,mem_filter->cB,mem_iff_getElem?->akA,mem_map->aN,mem_of_find?_eq_some->anP,mem_of_getElem?->bO,mem_of_mem_drop->dV,mem_of_mem_eraseIdx->anT,mem_of_mem_take->dh,mem_singleton->av,pairwise_filterMap->anF,pairwise_iff_getElem->akB,size_toArray->dK,take_append_drop->dO,take_left->amN,take_length->bL,take_of_length_le->cM
open List.Perm renaming refl->an7,swap->anU
open List.cons renaming inj->dW
open Nat renaming add_assoc->cJ,add_mul->bU,add_zero->dS,beq->aK,beq_refl->dD,ble->akZ,blt->bp,blt_eq->bW,eq_of_beq_eq_true->aly,le_refl->ay,le_trans->aU,lt_irrefl->alb,lt_of_lt_of_le->bf,min_eq_left->dU,mul_le_mul_right->bK,sub_mul->amh,succ_mul->bZ,zero_add->cG,zero_le->bu,zero_mul->de
open Option renaming bind_eq_bind->anM,bind_eq_some_iff->alo,getD_some->dA,isSome_iff_exists->bD,map->an6,map_eq_none_iff->alM,map_eq_some_iff->aZ,map_none->dz,map_some->ck,not_isNone->aob,pure_def->anN
open Option.some renaming inj->bz,injEq->bQ
open Prod.mk renaming injEq->cE
open Go.Proofs.Tryz
namespace Go.Proofs
theorem ak.{u}{c:Prop}{d:Decidable c}(h:c){α:Sort u}{t e:α}:ite c t e=t:=if_pos h
theorem ah.{u}{c:Prop}{d:Decidable c}(h:¬c){α:Sort u}{t e:α}:ite c t e=e:=if_neg h
theorem aP{p:Prop}[d:Decidable p](h:decide p=true):p:=of_decide_eq_true h
theorem bh{p:Prop}[d:Decidable p](h:decide p=false):¬p:=of_decide_eq_false h
theorem bN{p:Prop}[d:Decidable p](h:p):decide p=true:=decide_eq_true h
theorem bG{p:Prop}[d:Decidable p](h:¬p):decide p=false:=decide_eq_false h
theorem aG.{u,v}{α:Sort u}{β:Sort v}{a b:α}(f:α->β)(h:a=b):f a=f b:=congrArg f h
abbrev eH:ByteArray×Int×Int×Int:=(⟨#[]⟩,(0,(0,0)))
abbrev eL:ByteArray:=⟨#[32]⟩
abbrev eM:ByteArray:=⟨#[114,101,103,105,111,110]⟩
abbrev eN:ByteArray:=⟨#[97,114,111,117,110,100]⟩
abbrev eO:ByteArray:=⟨#[104,111,108,100]⟩
abbrev eP:ByteArray:=⟨#[102,105,114,115,116]⟩
abbrev eR:ByteArray:=⟨#[115,101,99,111,110,100]⟩
abbrev apg:ByteArray:=⟨#[118,101,114,116,101,120]⟩
abbrev eS:ByteArray:=⟨#[10]⟩
abbrev aph:ByteArray:=⟨#[101,100,103,101]⟩
abbrev api:ByteArray:=⟨#[99,97,115,101,10,118,101,114,116,101,120,32,97,10]⟩
abbrev eV:ByteArray:=⟨#[45]⟩
abbrev apj:ByteArray:=⟨#[112,97,105,114]⟩
abbrev apk:ByteArray:=⟨#[99,97,115,101]⟩
abbrev eX:ByteArray:=⟨#[43]⟩
abbrev apl:ByteArray:=⟨#[43,45]⟩
end Go.Proofs
namespace Go.Proofs.YtnfdimfepbbbpaaGreatDoor
open Go.RowKit
abbrev iv (x : Int) : af := .int .i64 x
abbrev pv (b : Nat) : af := .pointer (some ⟨b, 0, none⟩)
abbrev TT : Prop := True
theorem tv : True := trivial
abbrev iF:=Nat->Prop
def kN (S:iF)(w w':aa):Prop:=∀k,S k->w'.heap[k]?=w.heap[k]?
theorem kN.refl (S:iF)(w:aa):kN S w w:=λ_ _=>rfl
theorem kN.trans {S:iF}{a b c:aa}(h:kN S a b)(k:kN S b c):kN S a c:=λi hi=>(k i hi).trans (h i hi)
theorem kN.mono {S S':iF}{a b:aa}(h:kN S a b)(hs:∀k,S' k->S k):kN S' a b:=λi hi=>h i (hs i hi)
theorem kN.below {B:Nat}{a b:aa}(h:Below B a b):kN (· <B) a b:=λi hi=>h.block i hi
class Data (α:Type) where
 size:Nat
 isAgg:Bool
 rd:iF->aa->List af->α->Prop
 len:∀ {S w cs a},rd S w cs a->cs.length=size
 up:∀ {S S':iF} {w cs a},(∀k,S k->S' k)->rd S w cs a->rd S' w cs a
 keep:∀ {S w w' cs a},kN S w w'->rd S w cs a->rd S w' cs a
 one:∀ {S w cs a},rd S w cs a->∀u∈cs,u.oneCell'=true
instance:Data Int where
 size:=1
 isAgg:=false
 rd _ _ cs n:=cs=[.int .i64 n]
 len h:=by rw[h];rfl
 up _ h:=h
 keep _ h:=h
 one h u hu:=by rw[h] at hu;simp at hu;subst hu;rfl
instance:Data Bool where
 size:=1
 isAgg:=false
 rd _ _ cs b:=cs=[.bool b]
 len h:=by rw[h];rfl
 up _ h:=h
 keep _ h:=h
 one h u hu:=by rw[h] at hu;simp at hu;subst hu;rfl
instance:Data ByteArray where
 size:=1
 isAgg:=false
 rd _ _ cs s:=cs=[.string s]
 len h:=by rw[h];rfl
 up _ h:=h
 keep _ h:=h
 one h u hu:=by rw[h] at hu;simp at hu;subst hu;rfl
instance {α β:Type} [Data α] [Data β]:Data (α×β) where
 size:=Data.size α+Data.size β
 isAgg:=true
 rd S w cs x:=∃c1 c2,cs=c1++c2/\Data.rd S w c1 x.1/\Data.rd S w c2 x.2
 len:=by rintro S w cs a ⟨c1,c2,rfl,h1,h2⟩;rw[aO,Data.len h1,Data.len h2]
 up:=by rintro S S' w cs a hs ⟨c1,c2,rfl,h1,h2⟩;exact⟨c1,c2,rfl,Data.up hs h1,Data.up hs h2⟩
 keep:=by rintro S w w' cs a hk ⟨c1,c2,rfl,h1,h2⟩;exact⟨c1,c2,rfl,Data.keep hk h1,Data.keep hk h2⟩
 one:=by
  rintro S w cs a ⟨c1,c2,rfl,h1,h2⟩ u hu;rcases aI.1 hu with hu|hu
  .exact Data.one h1 u hu
  exact Data.one h2 u hu
def vw {α:Type}[Data α](S:iF)(w:aa)(cur:Array af)(off:Nat)(l:List α):Prop:=
 ∀i (h:i<l.length),∃cs,Data.rd S w cs l[i]/\∀j,j<Data.size α->cur[off+i*Data.size α+j]?=cs[j]?
def sD {α:Type}[Data α](S:iF)(w:aa)(v:af)(l:List α):Prop:=
 ∃p c,v= .slice p l.length c/\l.length<=c/\c<=maxLen/\
  (l=[]\/∃g off cur t fz,p=some ⟨g,off,none⟩/\S g/\w.heap[g]?=some (.cells cur t fz)/\vw S w cur off l)
theorem vw.up {α:Type}[Data α]{S S':iF}{w:aa}{cur:Array af}{off:Nat}{l:List α}(hs:∀k,S k->S' k)(h:vw S w cur off l):vw S' w cur off l:=
 λi hi=>let⟨cs,h1,h2⟩:=h i hi;⟨cs,Data.up hs h1,h2⟩
theorem vw.keep {α:Type}[Data α]{S:iF}{w w':aa}{cur:Array af}{off:Nat}{l:List α}(hk:kN S w w')(h:vw S w cur off l):vw S w' cur off l:=
 λi hi=>let⟨cs,h1,h2⟩:=h i hi;⟨cs,Data.keep hk h1,h2⟩
instance {α:Type} [Data α]:Data (List α) where
 size:=1
 isAgg:=false
 rd S w cs l:=∃v,cs=[v]/\sD S w v l
 len:=by rintro S w cs l ⟨v,rfl,_⟩;rfl
 up:=by
  rintro S S' w cs l hs ⟨v,rfl,p,c,rfl,h1,h2,h3⟩;refine⟨_,rfl,p,c,rfl,h1,h2,?_⟩;rcases h3 with h3|⟨g,off,cur,t,fz,rfl,hg,hw,hc⟩
  .exact .inl h3
  exact .inr ⟨g,off,cur,t,fz,rfl,hs _ hg,hw,hc.up hs⟩
 keep:=by
  rintro S w w' cs l hk ⟨v,rfl,p,c,rfl,h1,h2,h3⟩;refine⟨_,rfl,p,c,rfl,h1,h2,?_⟩;rcases h3 with h3|⟨g,off,cur,t,fz,rfl,hg,hw,hc⟩
  .exact .inl h3
  exact .inr ⟨g,off,cur,t,fz,rfl,hg,(hk g hg).trans hw,hc.keep hk⟩
 one:=by
  rintro S w cs l ⟨v,rfl,p,c,rfl,_⟩ u hu;simp at hu;subst hu;rfl
def Rd {α:Type}[Data α](S:iF)(w:aa)(v:af)(a:α):Prop:=∃cs,Data.rd S w cs a/\v=if Data.isAgg α then .agg cs.toArray else cs.headD undef
theorem Rd.up {α:Type}[Data α]{S S':iF}{w:aa}{v:af}{a:α}(hs:∀k,S k->S' k)(h:Rd S w v a):Rd S' w v a:=let⟨cs,h1,h2⟩:=h;⟨cs,Data.up hs h1,h2⟩
theorem Rd.keep {α:Type}[Data α]{S:iF}{w w':aa}{v:af}{a:α}(hk:kN S w w')(h:Rd S w v a):Rd S w' v a:=let⟨cs,h1,h2⟩:=h;⟨cs,Data.keep hk h1,h2⟩
theorem jZ {α:Type}[Data α]{S:iF}{w:aa}{v:af}{l:List α}(h:Rd S w v l):sD S w v l:=by
 obtain⟨cs,⟨v',rfl,hs⟩,rfl⟩:=h;exact hs
theorem qo {α:Type}[Data α]{S:iF}{w:aa}{v:af}{l:List α}(h:sD S w v l):Rd S w v l:=⟨[v],⟨v,rfl,h⟩,rfl⟩
theorem oI {α:Type}[Data α]{S:iF}{w:aa}{v:af}{l:List α}(h:sD S w v l):∃p c,v= .slice p l.length c/\l.length<=c/\c<=maxLen:=
 let⟨p,c,h1,h2,h3,_⟩:=h;⟨p,c,h1,h2,h3⟩
def jP {α:Type}[Data α](S:iF)(w:aa)(xs:List af)(l:List α):Prop:=
 xs.length=l.length*Data.size α/\∀i (h:i<l.length),Data.rd S w ((xs.drop (i*Data.size α)).take (Data.size α)) l[i]
theorem jP.nil {α:Type}[Data α](S:iF)(w:aa):jP S w [] ([]:List α):=⟨by simp,λi h=>by simp at h⟩
theorem jP.up {α:Type}[Data α]{S S':iF}{w:aa}{xs:List af}{l:List α}(hs:∀k,S k->S' k)(h:jP S w xs l):jP S' w xs l:=
 ⟨h.1,λi hi=>Data.up hs (h.2 i hi)⟩
theorem jP.keep {α:Type}[Data α]{S:iF}{w w':aa}{xs:List af}{l:List α}(hk:kN S w w')(h:jP S w xs l):jP S w' xs l:=
 ⟨h.1,λi hi=>Data.keep hk (h.2 i hi)⟩
theorem jP.append {α:Type}[Data α]{S:iF}{w:aa}{xs ys:List af}{l m:List α}(h:jP S w xs l)(k:jP S w ys m):jP S w (xs++ys) (l++m):=by
 refine⟨by rw[aO,aO,h.1,k.1,bU],λi hi=>?_⟩
 by_cases hl:i<l.length
 .rw[List.getElem_append_left hl];have h1:i*Data.size α+Data.size α<=xs.length:=by rw[h.1,<-bZ];exact bK _ hl
  rw[List.drop_append_of_le_length (by omega),List.take_append_of_le_length (by rw[bw];omega)];exact h.2 i hl
 rw[aO] at hi;rw[List.getElem_append_right (by omega)];have e:i*Data.size α=xs.length+(i-l.length)*Data.size α:=by rw[h.1,<-bU];congr 1;omega
 rw[e,List.drop_append];rw[alk (by omega),List.nil_append];rw[show xs.length+(i-l.length)*Data.size α-xs.length=(i-l.length)*Data.size α by omega];exact k.2 (i-l.length) (by omega)
theorem jP.single {α:Type}[Data α]{S:iF}{w:aa}{cs:List af}{a:α}(h:Data.rd S w cs a):jP S w cs [a]:=by
 refine⟨by rw[Data.len h];simp,λi hi=>?_⟩;have:i=0:=by simp at hi;exact hi
 subst this;have e:(cs.drop (0*Data.size α)).take (Data.size α)=cs:=by rw[de,aky,<-Data.len h];exact bL
 rw[e];exact h
theorem jP.one {α:Type}[Data α]{S:iF}{w:aa}{xs:List af}{l:List α}(h:jP S w xs l):∀u∈xs,u.oneCell'=true:=by
 intro u hu
 by_cases hz:Data.size α=0
 .have:xs=[]:=bV (by rw[h.1,hz];simp);subst this;simp at hu
 obtain⟨j,hj,rfl⟩:=akN hu;have Tc:0<Data.size α:=by omega
 have hi:j/Data.size α<l.length:=by rw[Nat.div_lt_iff_lt_mul Tc,<-h.1];exact hj
 refine Data.one (h.2 _ hi) _ ?_;have hm:=Nat.mod_lt j Tc;have hd:=Nat.div_add_mod j (Data.size α);rw[Nat.mul_comm] at hd;refine akA.2 ⟨j%Data.size α,?_⟩;rw[bP,ak hm,b5,hd,aR hj]
def Own {α:Type}[Data α](S:iF)(w:aa)(e:ax)(v:af)(l:List α):Prop:=
 ∃xs,w.ownsRow 0 e (Data.size α) v l.length xs/\jP S w xs l
inductive o9:Type 1 where
 |iter (b:Nat) (s:ByteArray) (pos:Nat)
 |row {α:Type} [Data α] (e:ax) (v:af) (l:List α)
 |box (b:Nat) (t:ax) (vs:List af)
 |ro {α:Type} [Data α] (v:af) (a:α)
 |obj {α:Type} [Data α] (b:Nat) (I:Obj->Prop) (Hy:List (af×α))
def o9.block:o9->Option Nat
 | .iter b _ _=>some b
 | @o9.row _ _ _ v _=>v.ownBlock
 | .box b _ _=>some b
 | @o9.ro _ _ _ _=>none
 | @o9.obj _ _ b _ _=>some b
def o9.ok (S:iF)(w:aa):o9->Prop
 | .iter b s pos=>w.heap[b]?=some (.stringIter s pos)
 | @o9.row _ _ e v l=>Own S w e v l
 | .box b t vs=>w.heap[b]?=some (.cells vs.toArray t (0,0))
 | @o9.ro _ _ v a=>Rd S w v a
 | @o9.obj _ _ b I Hy=>(∃x,w.heap[b]?=some x/\I x)/\∀q∈Hy,Rd S w q.1 q.2
structure Orig where
 w:aa
 S:iF
 ok:∀k,S k->k<w.heap.size
abbrev tT (w:aa):Orig:=⟨w,λ_=>False,λ_ h=>h.elim⟩
abbrev wX (o:Orig)(w':aa):iF:=λk=>o.S k\/(o.w.heap.size<=k/\k<w'.heap.size)
structure Fr (w0:Orig)(w:aa)(S:iF)(rs:List o9):Prop where
 below:Below w0.w.heap.size w0.w w
 src:∀k,S k->w0.S k\/w0.w.heap.size<=k
 nO:∀k,S k->k<w.heap.size
 ok:∀r∈rs,r.ok S w
 own:∀r∈rs,∀b,r.block=some b->w0.w.heap.size<=b/\b<w.heap.size/\¬S b
 nodup:(rs.filterMap o9.block).Nodup
theorem Fr.start (o:Orig):Fr o o.w o.S []:=
 ⟨Below.refl _ _,λ_ h=>.inl h,o.ok,λ_ h=>by simp at h,λ_ h=>by simp at h,by simp⟩
abbrev Fr.at {w0:Orig}{w:aa}{S:iF}{rs:List o9}(h:Fr w0 w S rs):Orig:=⟨w,S,h.nO⟩
theorem o9.Hz {S:iF}{w w':aa}{r:o9}(h:r.ok S w)(hk:kN S w w')(hb:∀b,r.block=some b->w'.heap[b]?=w.heap[b]?):r.ok S w':=by
 cases r with
 |iter b s pos=>exact(hb b rfl).trans h
 |row e v l=>
  have⟨xs,⟨h1,h2⟩,h3⟩:=h;refine⟨xs,⟨h1,?_⟩,h3.keep hk⟩;rcases h2 with h2|⟨g,cap,cur,rfl,hg,hh,rest⟩
  .exact .inl h2
  exact .inr ⟨g,cap,cur,rfl,hg,(hb g rfl).trans hh,rest⟩
 |box b t vs=>exact(hb b rfl).trans h
 |ro v a=>exact Rd.keep hk h
 |obj b I Hy=>exact⟨let⟨x,h1,h2⟩:=h.1;⟨x,(hb b rfl).trans h1,h2⟩,λq hq=>(h.2 q hq).keep hk⟩
theorem o9.ab6 {S S':iF}{w:aa}{r:o9}(h:r.ok S w)(hs:∀k,S k->S' k):r.ok S' w:=by
 cases r with
 |iter b s pos=>exact h
 |row e v l=>have⟨xs,h1,h2⟩:=h;exact⟨xs,h1,h2.up hs⟩
 |box b t vs=>exact h
 |ro v a=>exact Rd.up hs h
 |obj b I Hy=>exact⟨h.1,λq hq=>(h.2 q hq).up hs⟩
theorem Fr.on {w0:Orig}{w w':aa}{S:iF}{rs:List o9}(h:Fr w0 w S rs)(hb:Below w.heap.size w w'):Fr w0 w' S rs where
 below:=h.below.trans (hb.mono h.below.size)
 src:=h.src
 nO k hk:=bf (h.nO k hk) hb.size
 ok r hr:=o9.Hz (h.ok r hr) (λk hk=>hb.block k (h.nO k hk)) (λb qh=>hb.block b (h.own r hr b qh).2.1)
 own r hr b qh:=let⟨a,c,d⟩:=h.own r hr b qh;⟨a,bf c hb.size,d⟩
 nodup:=h.nodup
theorem Fr.call {w0:Orig}{w w':aa}{S:iF}{rs:List o9}(h:Fr w0 w S rs)(hb:Below w.heap.size w w'):Fr w0 w' (λk=>S k\/(w.heap.size<=k/\k<w'.heap.size)) rs where
 below:=(h.on hb).below
 src k hk:=by
  rcases hk with hk|hk
  .exact h.src k hk
  exact .inr (aU h.below.size hk.1)
 nO k hk:=by
  rcases hk with hk|hk
  .exact(h.on hb).nO k hk
  exact hk.2
 ok r hr:=o9.ab6 ((h.on hb).ok r hr) λ_=>.inl
 own r hr b qh:=by
  obtain⟨a,c,d⟩:=h.own r hr b qh;exact⟨a,bf c hb.size,λe=>e.elim d (λe=>by omega)⟩
 nodup:=h.nodup
theorem Fr.ro {α:Type}[Data α]{w0:Orig}{w:aa}{S:iF}{rs:List o9}(h:Fr w0 w S rs){v:af}{a:α}(hr:Rd S w v a):Fr w0 w S (.ro v a::rs) where
 below:=h.below
 src:=h.src
 nO:=h.nO
 ok r E3:=by
  rcases aC.1 E3 with rfl|E3
  .exact hr
  exact h.ok r E3
 own r E3 b hb:=by
  rcases aC.1 E3 with rfl|E3
  .cases hb
  exact h.own r E3 b hb
 nodup:=by rw[anD];exact h.nodup
theorem Fr.put {w0:Orig}{w:aa}{S:iF}{rs:List o9}(h:Fr w0 w S rs)(r:o9)(hr:r.ok S w)
  (hb:∀b,r.block=some b->w0.w.heap.size<=b/\b<w.heap.size/\¬S b/\∀r'∈rs,r'.block≠some b):Fr w0 w S (r::rs) where
 below:=h.below
 src:=h.src
 nO:=h.nO
 ok r' E3:=by
  rcases aC.1 E3 with rfl|E3
  .exact hr
  exact h.ok r' E3
 own r' E3 b qh:=by
  rcases aC.1 E3 with rfl|E3
  .obtain⟨x,y,z,_⟩:=hb b qh;exact⟨x,y,z⟩
  exact h.own r' E3 b qh
 nodup:=by
  rw[anD];split
  .exact h.nodup
  rename_i b qh;refine List.nodup_cons.2 ⟨λhm=>?_,h.nodup⟩;obtain⟨r',E3,e⟩:=List.mem_filterMap.1 hm;exact(hb b qh).2.2.2 r' E3 e
theorem Fr.fresh {w0:Orig}{w:aa}{S:iF}{rs:List o9}(h:Fr w0 w S rs):w0.w.heap.size<=w.heap.size/\¬S w.heap.size/\∀r∈rs,r.block≠some w.heap.size:=
 ⟨h.below.size,λhs=>alb _ (h.nO _ hs),λr hr e=>alb _ (h.own r hr _ e).2.1⟩
theorem oJ (w:aa)(o:Obj):Below w.heap.size w (w.alloc o):=(Below.refl _ _).alloc (ay _) _
theorem Fr.alloc {w0:Orig}{w:aa}{S:iF}{rs:List o9}(h:Fr w0 w S rs)(o:Obj):Fr w0 (w.alloc o) S rs:=h.on (oJ w o)
theorem Fr.ac8 {w0:Orig}{w:aa}{S:iF}{rs:List o9}(h:Fr w0 w S rs)(vs:List af)(t:ax):Fr w0 (w.alloc (.cells vs.toArray t)) S (.box w.heap.size t vs::rs):=
 (h.alloc _).put _ (heap_alloc_new w _) (λb hb=>by
  cases hb;have hf:=h.fresh;exact⟨hf.1,by simp,hf.2.1,hf.2.2⟩)
theorem Fr.YZ {w0:Orig}{w:aa}{S:iF}{rs:List o9}(h:Fr w0 w S rs)(s:ByteArray):Fr w0 (w.iter s 0) S (.iter w.heap.size s 0::rs):=
 (h.alloc _).put _ (heap_alloc_new w _) (λb hb=>by
  cases hb;have hf:=h.fresh;exact⟨hf.1,by simp,hf.2.1,hf.2.2⟩)
theorem Fr.newRow {α:Type}[Data α]{w0:Orig}{w:aa}{S:iF}{rs:List o9}(h:Fr w0 w S rs)(e:ax):Fr w0 w S (.row e (.slice none 0 0) ([]:List α)::rs):=
 h.put _ ⟨[],al2 _ _ _ _,jP.nil _ _⟩ (λb hb=>by cases hb)
theorem Fr.set {w0:Orig}{w w':aa}{S:iF}{rs:List o9}(h:Fr w0 w S rs)(i:Nat){r:o9}(hi:rs[i]?=some r)(r':o9)(qj:r'.ok S w')
  (hg:w.grownBy w' r.block) (hb:∀b,r'.block=some b->r.block=some b\/(w.heap.size<=b/\b<w'.heap.size)):Fr w0 w' S (rs.set i r'):=by
 have hS:∀k,S k->some k≠r.block:=λk hk e=>(h.own r (bO hi) k e.symm).2.2 hk;have wo:kN S w w':=λk hk=>hg.block k (h.nO k hk) (hS k hk);have QB:i<rs.length:=(b7.1 hi).1;have Ol:rs[i]=r:=(b7.1 hi).2;have Td:∀j (hj:j<rs.length),j≠i->∀b,rs[j].block=some b->some b≠r.block:=by
  intro j hj mc b qh e;have hn:=h.nodup;rw[amM,anF] at hn;rw[akB] at hn;rcases Nat.lt_or_gt_of_ne mc with pg|hgt
  .exact hn j i hj QB pg b qh b (by rw[Ol];exact e.symm) rfl
  exact hn i j QB hj hgt b (by rw[Ol];exact e.symm) b qh rfl
 have hO:∀k,k<w0.w.heap.size->some k≠r.block:=λk hk e=>by have:=(h.own r (bO hi) k e.symm).1;omega
 refine⟨?_,h.src,λk hk=>bf (h.nO k hk) hg.size,?_,?_,?_⟩
 .refine h.below.trans ⟨hg.os,hg.tape,hg.output,hg.size,λk hk=>?_⟩;exact hg.block k (bf hk h.below.size) (hO k hk)
 .intro x hx;obtain⟨j,hj,rfl⟩:=akN hx;rw[bS] at hj;rw[alc];split
  .exact qj
  rename_i mc;refine o9.Hz (h.ok _ (cU hj)) wo λb qh=>?_;exact hg.block b (h.own _ (cU hj) b qh).2.1 (Td j hj (λe=>mc e.symm) b qh)
 .intro x hx b qh;obtain⟨j,hj,rfl⟩:=akN hx;rw[bS] at hj;rw[alc] at qh;split at qh
  .rcases hb b qh with e|⟨e1,e2⟩
   .obtain⟨a,c,d⟩:=h.own r (bO hi) b e;exact⟨a,bf c hg.size,d⟩
   exact⟨aU h.below.size e1,e2,λhs=>by have:=h.nO b hs;omega⟩
  obtain⟨a,c,d⟩:=h.own _ (cU hj) b qh;exact⟨a,bf c hg.size,d⟩
 have hn:=h.nodup;rw[amM,anF,akB] at hn ⊢;intro j k hj hk hjk;rw[bS] at hj hk;rw[alc,alc];intro b FO b' C3 e;subst e;split at FO
 .rename_i e1;rw[ah (by omega)] at C3;rcases hb b FO with e|⟨e2,e3⟩
  .exact Td k hk (by omega) b C3 e.symm
  have:=(h.own _ (cU hk) b C3).2.1;omega
 split at C3
 .rcases hb b C3 with e|⟨e2,e3⟩
  .exact Td j hj (by omega) b FO e.symm
  have:=(h.own _ (cU hj) b FO).2.1;omega
 exact hn j k hj hk hjk b FO b C3 rfl
structure Fe (P:az)(t e:ax)(size bytes:Nat):Prop where
 under:P.underlying t=some (.slice e)
 info:∃i z,P.info? e=some i/\i.zero=some z/\i.size=size/\i.bytes=bytes/\z.cells.size=size
 pos:0<size
theorem Y0 {P:az}{t e:ax}{z:af}{size bytes:Nat}(hu:P.underlying t=some (.slice e))(h:(P.info? e).map (λi=>(i.zero,i.size,i.bytes))=some (some z,size,bytes))(hz:z.cells.size=size)(hp:0<size):Fe P t e size bytes:=by
 obtain⟨i,h1,h2,h3,h4⟩:=info_parts h;exact⟨hu,⟨i,z,h1,h2,h3,h4,hz⟩,hp⟩
theorem Te {P:az}{t ty e:ax}{size bytes:Nat}(E:Fe P t e size bytes)(w:aa)(v:af)(n:Nat)(xs:List af)(ko:w.ownsRow 0 e size v n xs)
  (a:bJ) (m c:Nat) (news:List af) (hl:news.length=m*size) (JL:∀j u,news[j]?=some u->w.cell? (a.add j)=some u) (h1:∀u∈news,u.oneCell'=true)
  (SQ:n+m<=maxLen) (yK:(n+m)*bytes<=140737488355328):
  ∃v' w',(akC #[t,t] ty #[v,.slice (some a) m c]).run P w= .ok v' w'/\w'.ownsRow 0 e size v' (n+m) (xs++news)/\w.grownBy w' v.ownBlock/\
   (∀b,v'.ownBlock=some b->v.ownBlock=some b\/(w.heap.size<=b/\b<w'.heap.size)):=by
 have⟨i,z,hi,hz,rH,E4,YE⟩:=E.info
 by_cases wM:v= .slice none 0 0\/¬(∃g cap,v= .slice (some ⟨g,0,none⟩) n cap/\n+m<=cap)
 ·
  have sQ:∃base,base=w.heap.size/\True:=⟨_,rfl,tv⟩;rcases ko.2 with⟨rfl,rfl⟩|⟨g,cap,cur,rfl,hbg,hg,JM,wq,j4,pn⟩
  .have hx:xs=[]:=bV (by simpa using ko.1);subst hx;obtain⟨v',w',hr,h2,h3,h4⟩:=run_append_own (P:=P) w w.heap.size t ty e i z size bytes E.under hi hz rH E4 YE E.pos (.slice none 0 0) 0 [] (al2 _ _ _ _) a m c news hl JL h1 SQ yK (ay _);refine⟨v',w',hr,⟨h2.1,?_⟩,h3,λb hb=>.inr (h2.lt b hb)⟩;rcases h2.2 with h|⟨g,cap,cur,e1,e2,e3⟩
   .exact .inl h
   exact .inr ⟨g,cap,cur,e1,bu _,e3⟩
  have zw:¬n+m<=cap:=by
   rcases wM with h|h
   .cases h
   intro hh;exact h ⟨g,cap,rfl,hh⟩
  have holds:∀j u,xs[j]?=some u->w.cell? ((⟨g,0,none⟩:bJ).add j)=some u:=ko.cells (g:=g) rfl;have aiy:n+m<=9223372036854775807:=by simp only[maxLen] at SQ;omega
  have hr:=run_append_grow (P:=P) w t ty e i z E.under hi hz ⟨g,0,none⟩ n cap xs (by rw[rH];exact ko.1) holds a m c news (by rw[rH];exact hl) JL (by omega) (by omega) (by rw[E4];exact growslice_fits (by omega) yK);have HA:=grownCap_ge w (n+m) cap e;have aiz:grownCap w (n+m) cap e<=maxLen:=grownCap_le_maxLen w (n+m) cap e SQ;refine⟨_,_,hr,⟨by rw[aO,ko.1,hl,bU],.inr ⟨w.heap.size,_,_,rfl,bu _,heap_alloc_new w.drew _,HA,aiz,?_,?_⟩⟩,⟨rfl,rfl,rfl,by simp,λk hk _=>heap_alloc_old w.drew _ hk⟩,?_⟩
  .simp only[Array.size_append,dK,size_zeroCells,YE,ko.1,hl,<-bU]
   congr 1
   omega
  .simp only[Array.toList_append,bC];rw[<-bC,bU,<-ko.1,<-hl,<-aO];exact amN
  intro b hb;simp[ale] at hb;subst hb;exact .inr ⟨ay _,by simp⟩
 have hv:∃g cap,v= .slice (some ⟨g,0,none⟩) n cap/\n+m<=cap:=bT λh=>wM (.inr h);obtain⟨g,cap,rfl,zw⟩:=hv;rcases ko.2 with⟨h,_⟩|⟨g',aiA,cur,Tf,hbg,hg,JM,wq,j4,pn⟩
 .cases h
 cases Tf;have Tg:n*i.size+news.length<=cur.size:=by rw[hl,j4,rH,<-bU];exact bK _ zw
 have hr:=run_append_room (P:=P) w t ty e i E.under hi g n cap cur hg a m c news (by rw[rH];exact hl) JL h1 zw Tg;refine⟨_,_,hr,⟨by rw[aO,ko.1,hl,bU],.inr ⟨g,cap,_,rfl,bu _,setRow_heap w g cur _ e _ hg,zw,wq,?_,?_⟩⟩,⟨rfl,rfl,rfl,by simp,λk _ hk=>setRow_other w g k _ (λe=>hk (by simp[ale,e]))⟩,λb hb=>.inl hb⟩
 .simp only[dK,aO,aX,bw,cz];omega
 rw[rH,pn,bU,<-ko.1,<-hl,<-aO];exact amN
theorem Fr.push {P:az}{t ty e:ax}{α:Type}[Data α]{bytes:Nat}(E:Fe P t e (Data.size α) bytes){w0:Orig}{w:aa}{S:iF}{rs:List o9}(h:Fr w0 w S rs)(i:Nat){v:af}{l:List α}(hi:rs[i]?=some (.row e v l))
  (a:bJ) (c:Nat) (m:List α) (news:List af) (nI:jP S w news m) (JL:∀j u,news[j]?=some u->w.cell? (a.add j)=some u)
  (SQ:l.length+m.length<=maxLen) (yK:(l.length+m.length)*bytes<=140737488355328):
  ∃v' w',(akC #[t,t] ty #[v,.slice (some a) m.length c]).run P w= .ok v' w'/\Fr w0 w' S (rs.set i (.row e v' (l++m)))/\w.grownBy w' v.ownBlock:=by
 obtain⟨xs,h1,h2⟩:=h.ok _ (bO hi);obtain⟨v',w',hr,k1,k2,k3⟩:=Te E w v l.length xs h1 a m.length c news nI.1 JL nI.one SQ yK;have hS:kN S w w':=λk hk=>k2.block k (h.nO k hk) (λe=>(h.own _ (bO hi) k e.symm).2.2 hk);refine⟨v',w',hr,h.set i hi _ ⟨xs++news,by rw[aO];exact k1,(h2.keep hS).append (nI.keep hS)⟩ k2 k3,k2⟩
theorem Fr.next {w0:Orig}{w:aa}{S:iF}{rs:List o9}(h:Fr w0 w S rs)(i:Nat){b:Nat}{s:ByteArray}{pos:Nat}(hi:rs[i]?=some (.iter b s pos))(pos':Nat):Fr w0 (w.iterAt b s pos') S (rs.set i (.iter b s pos')):=by
 have qj:=h.ok _ (bO hi);refine h.set i hi _ (Lib.iterAt_heap w b s pos pos' qj) ⟨rfl,rfl,rfl,by rw[anI];exact ay _,λk hk mc=>anJ w b k s pos' (λe=>mc (by rw[e];rfl))⟩ (λb' qh=>.inl qh)
theorem Fr.Om {w0:Orig}{w:aa}{S:iF}{rs:List o9}(h:Fr w0 w S rs)(i:Nat){b:Nat}{s:ByteArray}{pos:Nat}(hi:rs[i]?=some (.iter b s pos)):w.heap[b]?=some (.stringIter s pos):=
 h.ok _ (bO hi)
theorem Fr.out {α:Type}[Data α]{w0:Orig}{w:aa}{S:iF}{rs:List o9}(h:Fr w0 w S rs)(i:Nat){e:ax}{v:af}{l:List α}(hi:rs[i]?=some (.row e v l)):Rd (· <w.heap.size) w v l:=by
 obtain⟨xs,h1,h2⟩:=h.ok _ (bO hi);refine qo ?_;rcases h1.2 with⟨rfl,hn⟩|⟨g,cap,cur,rfl,_,hg,JM,wq,j4,pn⟩
 .have:l=[]:=bV hn;subst this;exact⟨none,0,rfl,by simp,by simp[maxLen],.inl rfl⟩
 refine⟨_,cap,rfl,JM,wq,.inr ⟨g,0,cur,e,(0,0),rfl,(cI.1 hg).1,hg,λj hj=>?_⟩⟩;refine⟨_,Data.up h.nO (h2.2 j hj),λq hq=>?_⟩;rw[bP,ak hq,b5,<-pn,bP,ak ?_]
 .simp
 have:=bK (Data.size α) (show j+1<=l.length from hj);rw[bZ] at this;omega
theorem Fr.ac9 {α:Type}[Data α]{w0:Orig}{w:aa}{S:iF}{rs:List o9}(h:Fr w0 w S rs)(i:Nat){e:ax}{v:af}{l:List α}(hi:rs[i]?=some (.row e v l)):Rd (wX w0 w) w v l:=by
 obtain⟨xs,h1,h2⟩:=h.ok _ (bO hi);have hS:∀k,S k->wX w0 w k:=λk hk=>(h.src k hk).elim .inl λq=>.inr ⟨q,h.nO k hk⟩;refine qo ?_;rcases h1.2 with⟨rfl,hn⟩|⟨g,cap,cur,rfl,_,hg,JM,wq,j4,pn⟩
 .have:l=[]:=bV hn;subst this;exact⟨none,0,rfl,by simp,by simp[maxLen],.inl rfl⟩
 obtain⟨MG,hg2,_⟩:=h.own _ (bO hi) g rfl;refine⟨_,cap,rfl,JM,wq,.inr ⟨g,0,cur,e,(0,0),rfl,.inr ⟨MG,hg2⟩,hg,λj hj=>?_⟩⟩;refine⟨_,Data.up hS (h2.2 j hj),λq hq=>?_⟩;rw[bP,ak hq,b5,<-pn,bP,ak ?_]
 .simp
 have:=bK (Data.size α) (show j+1<=l.length from hj);rw[bZ] at this;omega
theorem Fr.since {w0:Orig}{w:aa}{S:iF}{rs:List o9}(h:Fr w0 w S rs):∀k,S k->wX w0 w k:=λk hk=>(h.src k hk).elim .inl λq=>.inr ⟨q,h.nO k hk⟩
theorem Rd.all {α:Type}[Data α]{w0:Orig}{w:aa}{S:iF}{rs:List o9}(h:Fr w0 w S rs){v:af}{a:α}(hr:Rd S w v a):Rd (· <w.heap.size) w v a:=hr.up h.nO
def jm:dJ->Int->Prop
 | .i64,n=> -9223372036854775808<=n/\n<=9223372036854775807
 | .i32,n=> -2147483648<=n/\n<=2147483647
 | .u8,n=>0<=n/\n<=255
 | .u32,n=>0<=n/\n<=4294967295
 | .u64,n=>0<=n/\n<=18446744073709551615
 |_,_=>False
theorem jm.wrap {k:dJ}{n:Int}(h:jm k n):k.wrap n=n:=by
 cases k<;>simp only[jm] at h<;>first|exact h.elim|skip
 all_goals simp only[IntKind.wrap,amO,amP]
 all_goals simp
 all_goals first|omega|(split<;>omega)
def Mt:af->Nat
 | .slice (some a) _ _=>a.block
 | .pointer (some a)=>a.block
 |_=>0
def Mu:af->Nat
 | .slice (some a) _ _=>a.off
 | .pointer (some a)=>a.off
 |_=>0
def JN (v:af)(n:Int):Prop:=∃p m c,v= .slice p m c/\n=(m:Int)
def JO (v:af)(i:Int):Prop:=∃b o n c,v= .slice (some ⟨b,o,none⟩) n c/\0<=i/\i<n
def vz (C:aa->Prop)(b o:Nat)(u:af):Prop:=∀w,C w->w.cell? ⟨b,o,none⟩=some u
def JP (C:aa->Prop)(b o n:Nat)(us:Array af):Prop:=us.size=n/\∀w,C w->∀j,j<n->w.cell? ⟨b,o+j,none⟩=us[j]?
def sR (P:az) (f:bB):Prop:=∃fn,P.funcs[f]?=some fn/\(fn.name== "runtime.NumGoroutine")=false/\fn.body.isNone=false
def yL (P:az)(C:aa->Prop)(f:bB)(args:Array af)(v:af):Prop:=∀w,C w->Calls P f args w (λe w'=>e= .returned v/\C w')
def nL (s:ByteArray)(i:Int):Int:=((s.data.getD i.toNat 0).toNat:Int)
def afF (P:az)(t:ax)(x y:af)(r:Bool):Prop:=∀w,(alm t x y).run P w= .ok r w
def oS (P:az)(op:BinOp)(t:ax)(x y:af)(mJ:Option af):Option (af×Prop):=
 match x,y with
 | .int k a,.int k' b=>
  match op,mJ with
  | .shr,some (.int _ u)=>some (.int k u,0<=b/\a.fdiv (2 ^ (min b.toNat k.bits))=u)
  |_,_=>if k=k' then
   match op with
   | .add=>some (.int k (a+b),jm k (a+b))
   | .sub=>some (.int k (a-b),jm k (a-b))
   | .mul=>some (.int k (a*b),jm k (a*b))
   | .quo=>some (.int k (a/b),0<=a/\0<b/\jm k a)
   | .rem=>some (.int k (a%b),0<=a/\0<b)
   | .eql=>some (.bool (decide (a=b)),True)
   | .neq=>some (.bool (!decide (a=b)),True)
   | .lss=>some (.bool (decide (a<b)),True)
   | .leq=>some (.bool (decide (a<=b)),True)
   | .gtr=>some (.bool (decide (b<a)),True)
   | .geq=>some (.bool (decide (b<=a)),True)
   |_=>none
  else none
 | .string a,.string b=>
  match op with
  | .add=>some (.string (a++b),a.size+b.size<=9223372036854775807)
  | .eql=>some (.bool (a.toList==b.toList),True)
  | .neq=>some (.bool (!(a.toList==b.toList)),True)
  |_=>none
 | .bool a,.bool b=>
  match op with
  | .eql=>some (.bool (a==b),P.underlying t=some .bool)
  | .neq=>some (.bool (!(a==b)),P.underlying t=some .bool)
  |_=>none
 | .agg a,.agg b=>
  match op,mJ with
  | .eql,some (.bool r)=>some (.bool r,afF P t (.agg a) (.agg b) r/\P.eqGuardType P.depth t=false)
  | .neq,some (.bool r)=>some (.bool (!r),afF P t (.agg a) (.agg b) r/\P.eqGuardType P.depth t=false)
  |_,_=>none
 |_,_=>none
section
variable {P:az}
theorem ada {k:dJ}{a b:Int}(h:jm k a)(h0:0<=a)(hb:0<b):jm k (a/b):=by
 have h1:0<=a/b:=Int.ediv_nonneg h0 (by omega);have h2:a/b<=a:=Int.ediv_le_self b h0;cases k<;>simp only[jm] at h ⊢ <;>omega
theorem Th {op:BinOp}{t:ax}{x y:aL}{a b v:af}{p:Prop}{mJ:Option af}(h:oS P op t a b mJ=some (v,p))(hp:p)(w:aa):
  (do eqGuard op t x y a b;binOp op t a b:Sem af).run P w= .ok v w:=by
 unfold oS at h;split at h
 .rename_i k a k' b;split at h
  .rename_i u;simp only[bQ,cE] at h;obtain⟨rfl,rfl⟩:=h;have hg:(eqGuard .shr t x y (.int k a) (.int k' b)).run P w= .ok () w:=by
    unfold eqGuard;split<;>rfl
   rw[aM,hg];simp only[bR,binOp,Op.shift];rw[ah (by omega),hp.2];rfl
  split at h
  .rename_i hk;subst hk;have hg:(eqGuard op t x y (.int k a) (.int k b)).run P w= .ok () w:=by
    unfold eqGuard;split<;>rfl
   rw[aM,hg];simp only[bR];cases op<;>simp only[bQ,cE,reduceCtorEq] at h
   all_goals (obtain⟨rfl,rfl⟩:=h)
   all_goals simp only[binOp,ne_eq,not_true_eq_false,if_false,Op.intArith,Op.intDiv,Op.intCmp]
   case add=>rw[hp.wrap];rfl
   case sub=>rw[hp.wrap];rfl
   case mul=>rw[hp.wrap];rfl
   case quo=>
    have⟨h0,h1,h2⟩:=hp;rw[ah (by omega),Int.tdiv_eq_ediv_of_nonneg h0,(ada h2 h0 h1).wrap];rfl
   case rem=>
    have⟨h0,h1⟩:=hp;rw[ah (by omega),Int.tmod_eq_emod_of_nonneg h0];rfl
   case eql=>simp[pure];rfl
   case neq=>simp[pure];rfl
   all_goals rfl
  cases h
 .rename_i a b;have hg:(eqGuard op t x y (.string a) (.string b)).run P w= .ok () w:=by
   unfold eqGuard;split<;>rfl
  rw[aM,hg];simp only[bR];cases op<;>simp only[bQ,cE,reduceCtorEq] at h
  all_goals (obtain⟨rfl,rfl⟩:=h)
  all_goals simp only[binOp,Op.stringOp]
  case add=>
   rw[ah (by
    have:alJ .i64=9223372036854775807:=by decide
    omega)]
   rfl
  all_goals rfl
 .rename_i a b;have hg:(eqGuard op t x y (.bool a) (.bool b)).run P w= .ok () w:=by
   unfold eqGuard;split<;>rfl
  rw[aM,hg];simp only[bR];cases op<;>simp only[bQ,cE,reduceCtorEq] at h
  all_goals (obtain⟨rfl,rfl⟩:=h)
  all_goals
   simp only[binOp,aM];rw[show(alm t (.bool a) (.bool b)).run P w= .ok (a==b) w from run_equal_bool w t a b hp];rfl
 .rename_i a b;have hg:P.eqGuardType P.depth t=false->(eqGuard op t x y (.agg a) (.agg b)).run P w= .ok () w:=by
   intro he;cases op<;>simp[eqGuard,program,cw,he,bR]
  split at h
  .simp only[bQ,cE] at h;obtain⟨rfl,rfl⟩:=h;rw[aM,hg hp.2];simp only[bR,binOp,aM,hp.1 w];rfl
  .simp only[bQ,cE] at h;obtain⟨rfl,rfl⟩:=h;rw[aM,hg hp.2];simp only[bR,binOp,aM,hp.1 w];rfl
  cases h
 cases h
def kH (P:az)(C:aa->Prop)(g:aL->Option af)(op:Op)(mJ:Option af):Option (af×Prop):=
 match op with
 | .move x=>(g x).map λv=>(v,True)
 | .assign x=>(g x).map λv=>(v,True)
 | .unOp .not _ x=>match g x with|some (.bool b)=>some (.bool (!b),True)|_=>none
 | .extract x i=>match g x with|some (.tuple vs)=>(vs[i]?).map λv=>(v,True)|_=>none
 | .nilCheck x=>match g x with|some (.pointer (some a))=>some (.pointer (some a),True)|_=>none
 | .binOp o t x y _=>match g x,g y with|some a,some b=>oS P o t a b mJ|_,_=>none
 | .convert s d x=>match P.underlying s,P.underlying d with
  |some (.int _),some (.int k)=>match g x with|some (.int _ n)=>some (.int k n,jm k n)|_=>none
  |some (.slice _),some .string=>match g x,mJ with|some v,some u=>some (u,∀w,C w->(convert s d v).run P w= .ok u w)|_,_=>none
  |_,_=>none
 | .index t x i=>match P.underlying t,g x,g i with|some .string,some (.string s),some (.int _ n)=>some (.int .u8 (nL s n),0<=n/\n<(s.size:Int))|_,_,_=>none
 | .indexAddr t x i=>match P.underlying t,g x,g i with|some (.slice e),some v,some (.int _ n)=>some (.pointer (some ⟨Mt v,Mu v+n.toNat*P.cellsOf e,none⟩),(P.info? e).isSome=true/\JO v n)|_,_,_=>none
 | .fieldAddr t x f=>match P.underlying t,g x with
  |some (.struct fs),some (.pointer (some ⟨b,o,none⟩))=>match fs[f]? with
   |some fd=>some (.pointer (some ⟨b,o+fd.offset,none⟩),0<P.cellsOf fd.type)
   |none=>none
  |_,_=>none
 | .load t x=>match P.underlying t,g x,mJ with
  |some (.struct _),some (.pointer (some ⟨b,o,none⟩)),some (.agg us)=>some (.agg us,(P.info? t).isSome=true/\JP C b o (P.cellsOf t) us)
  |some (.struct _),_,_=>none
  |some (.array _ _),_,_=>none
  |some _,some (.pointer (some ⟨b,o,none⟩)),some u=>some (u,vz C b o u)
  |_,_,_=>none
 | .field t x f=>match P.underlying t,g x with
  |some (.struct fs),some (.agg cs)=>match fs[f]? with
   |some fd=>match P.underlying fd.type with
    |some (.struct _)=>some (.agg (cs.extract fd.offset (fd.offset+P.cellsOf fd.type)),(P.info? fd.type).isSome=true)
    |some (.array _ _)=>none
    |some _=>(cs[fd.offset]?).map λv=>(v,True)
    |none=>none
   |none=>none
  |_,_=>none
 | .build t ps=>match ps.toList.mapM (λx=>(g x.2).map λv=>(x.1,v)),mJ with
  |some vs,some v=>some (v,∀w,(al3 t vs.toArray).run P w= .ok v w)
  |_,_=>none
 | .slice t x lo hi none=>match g x,lo.map g,hi.map g,mJ with
  |some v,some (some l),some (some h),some u=>some (u,∀w,(cF t v (some l) (some h) none).run P w= .ok u w)
  |some v,some (some l),none,some u=>some (u,∀w,(cF t v (some l) none none).run P w= .ok u w)
  |some v,none,some (some h),some u=>some (u,∀w,(cF t v none (some h) none).run P w= .ok u w)
  |some v,none,none,some u=>some (u,∀w,(cF t v none none none).run P w= .ok u w)
  |_,_,_,_=>none
 | .lookup t m k ok=>match g m,g k,mJ with
  |some vm,some vk,some u=>some (u,∀w,C w->(dR t vm vk ok).run P w= .ok u w)
  |_,_,_=>none
 | .call c=>match c.callee,c.args.toList.map g with
  | .builtin .max,vs=>match vs.mapM id,mJ with|some us,some v=>some (v,∀ty w,(al4 c.argTypes ty us.toArray).run P w= .ok v w)|_,_=>none
  | .builtin .min,vs=>match vs.mapM id,mJ with|some us,some v=>some (v,∀ty w,(al5 c.argTypes ty us.toArray).run P w= .ok v w)|_,_=>none
  | .builtin .len,[some v]=>match(c.argTypes[0]?).bind P.underlying with
   |some .string=>match v with| .string s=>some (.int .i64 s.size,True)|_=>none
   |some (.slice _)=>match mJ with|some (.int .i64 n)=>some (.int .i64 n,JN v n)|_=>none
   |_=>none
  | .value x,vs=>match g x,vs.mapM id,mJ with|some (.func (.func f) first cap),some us,some v=>some (v,sR P f/\yL P C f (first++us.toArray++cap) v)|_,_,_=>none
  |_,_=>none
 |_=>none
theorem C4 {fd:Field}{b f:Nat}(w:aa)(h0:0<P.cellsOf fd.type):(fieldPlace ⟨b,f,none⟩ fd).run P w= .ok (⟨b,f+fd.offset,none⟩:bJ) w:=by
 have hi:∃i,P.info? fd.type=some i:=by
  cases hh:P.info? fd.type with
  |none=>simp[alK,hh] at h0
  |some i=>exact⟨i,rfl⟩
 have⟨i,hi⟩:=hi;have hs:i.size≠0:=by simp[alK,hi] at h0;omega
 have C5:(⟨b,f,none⟩:bJ).add fd.offset=⟨b,f+fd.offset,none⟩:=by unfold Addr.add;split<;>simp_all
 simp[fieldPlace,sizeOf,typeInfo,program,cw,hi,hs,C5]
theorem run_loadCellsFrom (w:aa)(b o:Nat)(us:Array af)(n:Nat)(hn:us.size=n)(h:∀j,j<n->w.cell? ⟨b,o+j,none⟩=us[j]?):
  ∀k i (acc:Array af),i+k=n->acc=us.extract 0 i->(loadCellsFrom ⟨b,o,none⟩ i k acc).run P w= .ok us w:=by
 intro k
 induction k with
 |zero=>
  intro i acc hi adb;subst adb;have:i=us.size:=by omega
  subst this;simp[loadCellsFrom]
 |succ k ih=>
  intro i acc hi adb;have hc:=h i (by omega);have C5:(⟨b,o,none⟩:bJ).add i=⟨b,o+i,none⟩:=by unfold Addr.add;split<;>simp_all
  have pg:i<us.size:=by omega
  rw[akD pg] at hc;simp only[loadCellsFrom,load,aM,C5];rw[show(Sem.load .plain ⟨b,o+i,none⟩ Sem.pure:Sem af).run P w= .ok us[i] w from by simp[cw,hc]];simp only[bR];refine ih (i+1) _ (by omega) ?_;subst adb;simp
theorem JQ {C:aa->Prop}{t:ax}{b o:Nat}{us:Array af}{d:TypeDesc}(w:aa)(hw:C w)(hu:P.underlying t=some d)(hd:∃fs,d= .struct fs)(hi:(P.info? t).isSome=true)(hr:JP C b o (P.cellsOf t) us):
  (aln t (.pointer (some ⟨b,o,none⟩))).run P w= .ok (.agg us) w:=by
 obtain⟨fs,rfl⟩:=hd;obtain⟨i,hi⟩:=bD.1 hi;have:=run_loadCellsFrom (P:=P) w b o us (P.cellsOf t) hr.1 (hr.2 w hw) (P.cellsOf t) 0 #[] (by omega) (by simp);simp[aln,alL,loadVar,isAgg,run_underlying hu,run_sizeOf w hi,loadCells,this]
theorem JR {t:ax}{b o:Nat}{d:TypeDesc}{u:af}(w:aa)(hu:P.underlying t=some d)(hd1:∀fs,d= .struct fs->False)(hd2:∀n e,d= .array n e->False)(hc:w.cell? ⟨b,o,none⟩=some u):
  (aln t (.pointer (some ⟨b,o,none⟩))).run P w= .ok u w:=by
 cases d<;>first|exact(hd1 _ rfl).elim|exact(hd2 _ _ rfl).elim|simp[aln,alL,loadVar,isAgg,run_underlying hu,load,cw,hc]
theorem jV {C:aa->Prop}{v:af}{w:aa}{s:Sem af}(h:s.run P w= .ok v w):dy P C w v ((do pure (.value (<-s)):Sem Next).run P w):=by
 rw[aM,h];exact⟨rfl,rfl⟩
theorem sF {C:aa->Prop}{v:af}{w:aa}{s:Sem af}(h:s.run P w= .ok v w):dy P C w v ((s.run P w).andThen λa w'=>.ok (.value a) w'):=by
 rw[h];exact⟨rfl,rfl⟩
theorem Oo {g:aL->Option af}{ρ:aL->af}(hg:∀x u,g x=some u->ρ x=u):∀(l:List aL) (us:List af),(l.map g).mapM id=some us->l.map ρ=us
 |[],us,h=>by simp at h;simp[h]
 |x::l,us,h=>by
  simp only[bn,anL,id_eq,anM,alo,anN,bQ] at h;obtain⟨u,hu,vs,MH,rfl⟩:=h;rw[bn,hg x u hu,Oo hg l vs MH]
theorem C6 {g:aL->Option af}{ρ:aL->af}(hg:∀x u,g x=some u->ρ x=u):∀(l:List (Nat×aL)) (us:List (Nat×af)),l.mapM (λx=>(g x.2).map λv=>(x.1,v))=some us->l.map (λx=>(x.1,ρ x.2))=us
 |[],us,h=>by simp at h;simp[h]
 |x::l,us,h=>by
  simp only[anL,anM,alo,anN,bQ,aZ] at h;obtain⟨_,⟨u,hu,rfl⟩,vs,MH,rfl⟩:=h;rw[bn,hg x.2 u hu,C6 hg l vs MH]
theorem uE {g:aL->Option af}{ρ:aL->af}(hg:∀x u,g x=some u->ρ x=u)(a:Array aL)(us:List af)(h:(a.toList.map g).mapM id=some us):a.map ρ=us.toArray:=by
 have:=Oo hg a.toList us h;rw[<-this];apply cr;rw[akP]
theorem HB {C:aa->Prop}{g:aL->Option af}{ρ:aL->af}{o:aD}{mJ:Option af}{v:af}{p:Prop}(hg:∀x u,g x=some u->ρ x=u)
  (h:kH P C g o.op mJ=some (v,p)) (hp:p) (w:aa) (hw:C w):dy P C w v ((execOp ρ o).run P w):=by
 cases nr:o.op<;>rw[nr] at h
 all_goals first|(cases h;done)|skip
 case move x=>
  simp only[kH] at h;simp only[execOp,nr];obtain⟨u,hu,e⟩:=aZ.1 h;cases e;rw[hg x _ hu];exact⟨rfl,rfl⟩
 case assign x=>
  simp only[kH] at h;simp only[execOp,nr];obtain⟨u,hu,e⟩:=aZ.1 h;cases e;rw[hg x _ hu];exact⟨rfl,rfl⟩
 case unOp uo t x=>
  cases uo
  all_goals first|(cases h;done)|skip
  simp only[kH] at h;split at h
  .rename_i b hb;cases h;simp only[execOp,nr,hg x _ hb];exact⟨rfl,rfl⟩
  cases h
 case extract x i=>
  simp only[kH] at h;split at h
  .rename_i vs hb;obtain⟨u,hu,e⟩:=aZ.1 h;cases e;simp only[execOp,nr,hg x _ hb];exact jV (by simp[Instr.extract,hu])
  cases h
 case nilCheck x=>
  simp only[kH] at h;split at h
  .rename_i a hb;cases h;simp only[execOp,nr,hg x _ hb];exact⟨rfl,rfl⟩
  cases h
 case binOp bo t x y t'=>
  simp only[kH] at h;split at h
  .rename_i a b ha hb;simp only[execOp,nr,hg x _ ha,hg y _ hb];exact jV (Th h hp w)
  cases h
 case convert sT dT x=>
  simp only[kH] at h;split at h
  .rename_i k1 k h1 h2;split at h
   .rename_i k2 n h3;cases h;simp only[execOp,nr,hg x _ h3];refine jV ?_;have:k.wrap n=n:=hp.wrap;simp[convert,run_underlying h1,run_underlying h2,Conv.intToInt,this]
   cases h
  .split at h
   .rename_i u' h3;cases h;simp only[execOp,nr,hg x _ h3];exact jV (hp w hw)
   cases h
  cases h
 case index t x i=>
  simp only[kH] at h;split at h
  .rename_i s k n h1 h2 h3;cases h;simp only[execOp,nr,hg x _ h2,hg i _ h3];refine jV ?_;have⟨h0,h4⟩:=hp;have pg:n.toNat<s.size:=by omega
   have C7:s[n.toNat]?=some (s[n.toNat]'pg):=by simp[pg]
   have Ff:nL s n=((s[n.toNat]'pg).toNat:Int):=by
    unfold nL
    congr 2
    rw[cj,akD pg];rfl
   simp[Instr.index,asIntOf,run_underlying h1,h0,C7,Ff]
  cases h
 case indexAddr t x i=>
  simp only[kH] at h;split at h
  .rename_i e v' k n h1 h2 h3;cases h;simp only[execOp,nr,hg x _ h2,hg i _ h3];refine jV ?_;obtain⟨hi,b,f,m,c,rfl,h0,h4⟩:=hp;obtain⟨i,hi⟩:=bD.1 hi;have C5:∀q,(⟨b,f,none⟩:bJ).add q=⟨b,f+q,none⟩:=by intro q;unfold Addr.add;split<;>simp_all
   simp[Instr.indexAt,asIntOf,run_underlying h1,h0,h4,run_sizeOf w hi,C5,Mt,Mu]
  cases h
 case fieldAddr t x f=>
  simp only[kH] at h;split at h
  .rename_i fs b q h1 h2;split at h
   .rename_i fd YF;cases h;simp only[execOp,nr,hg x _ h2];refine jV ?_;simp[Instr.fieldAt,run_underlying h1,YF,alL,C4 w hp]
   cases h
  cases h
 case load t x=>
  simp only[kH] at h;split at h
  .rename_i fs b q us h1 h2;cases h;simp only[execOp,nr,hg x _ h2];exact jV (JQ w hw h1 ⟨_,rfl⟩ hp.1 hp.2)
  .cases h
  .cases h
  .rename_i d b q u FP JS h1 h2;cases h;simp only[execOp,nr,hg x _ h2];exact jV (JR w h1 FP JS (hp w hw))
  cases h
 case field t x f=>
  simp only[kH] at h;split at h
  .rename_i fs cs h1 h2;split at h
   .rename_i fd YF;split at h
    .rename_i fs' h3;cases h;simp only[execOp,nr,hg x _ h2];refine jV ?_;obtain⟨i,hi⟩:=bD.1 hp;simp[anO,run_underlying h1,YF,asAgg,part,isAgg,run_underlying h3,run_sizeOf w hi]
    .cases h
    .rename_i d FP JS h3;obtain⟨u,hu,e⟩:=aZ.1 h;cases e;simp only[execOp,nr,hg x _ h2];refine jV ?_;have BP:(isAgg fd.type).run P w= .ok false w:=by
      cases d<;>first|exact(FP _ rfl).elim|exact(JS _ _ rfl).elim|simp[isAgg,run_underlying h3]
     simp[anO,run_underlying h1,YF,asAgg,part,BP,hu]
    cases h
   cases h
  cases h
 case build t ps=>
  simp only[kH] at h;split at h
  .rename_i vs v' MH;cases h;have e:ps.map (λx=>(x.1,ρ x.2))=vs.toArray:=by
    have:=C6 hg ps.toList vs MH;rw[<-this];apply cr;rw[akP]
   simp only[execOp,nr];refine jV ?_;have:=hp w;rw[<-e] at this;exact this
  cases h
 case slice t x lo hi mx=>
  cases mx with
  |some m=>simp only[kH] at h;cases h
  |none=>
   simp only[kH] at h;simp only[execOp,nr];split at h
   .rename_i v' l hh u h1 h2 h3;cases h;obtain⟨lx,rfl,g2⟩:=aZ.1 h2;obtain⟨hx,rfl,g3⟩:=aZ.1 h3;refine jV ?_;simp only[ck,dz,hg _ _ h1,hg _ _ g2,hg _ _ g3];exact hp w
   .rename_i v' l u h1 h2 h3;cases h;obtain⟨lx,rfl,g2⟩:=aZ.1 h2;cases alM.1 h3;refine jV ?_;simp only[ck,dz,hg _ _ h1,hg _ _ g2];exact hp w
   .rename_i v' hh u h1 h2 h3;cases h;obtain⟨hx,rfl,g3⟩:=aZ.1 h3;cases alM.1 h2;refine jV ?_;simp only[ck,dz,hg _ _ h1,hg _ _ g3];exact hp w
   .rename_i v' u h1 h2 h3;cases h;cases alM.1 h2;cases alM.1 h3;refine jV ?_;simp only[ck,dz,hg _ _ h1];exact hp w
   cases h
 case lookup t m k ok=>
  simp only[kH] at h;split at h
  .rename_i vm vk u h1 h2;cases h;simp only[execOp,nr,hg _ _ h1,hg _ _ h2];exact jV (hp w hw)
  cases h
 case call c=>
  simp only[kH] at h;split at h
  .rename_i vs hc;split at h
   .rename_i us v' QC;cases h;have ha:=uE hg c.args us QC;simp only[execOp,nr,resolve,hc,aM,bF,bY,ha,invoke,builtin];exact sF (hp _ w)
   cases h
  .rename_i vs hc;split at h
   .rename_i us v' QC;cases h;have ha:=uE hg c.args us QC;simp only[execOp,nr,resolve,hc,aM,bF,bY,ha,invoke,builtin];exact sF (hp _ w)
   cases h
  .rename_i v' hc hl;split at h
   .rename_i hu;split at h
    .rename_i s;cases h;obtain⟨t,ht0,ht1⟩:=alo.1 hu;have ha:=uE hg c.args [.string s] (by rw[hl];rfl);simp only[execOp,nr,resolve,hc,aM,bF,bY,ha,invoke,builtin];refine sF (s:=alp c.argTypes o.type #[.string s]) ?_;simp[alp,ht0,run_underlying ht1,goInt]
    cases h
   .rename_i e hu;split at h
    .rename_i n;cases h;obtain⟨t,ht0,ht1⟩:=alo.1 hu;obtain⟨q,m,cp,rfl,rfl⟩:=hp;have ha:=uE hg c.args [.slice q m cp] (by rw[hl];rfl);simp only[execOp,nr,resolve,hc,aM,bF,bY,ha,invoke,builtin];refine sF (s:=alp c.argTypes o.type #[.slice q m cp]) ?_;simp[alp,ht0,run_underlying ht1,goInt]
    cases h
   cases h
  .rename_i x vs hc;split at h
   .rename_i f first cap us v' hx QC;cases h;obtain⟨⟨fn,hf,hn,hb⟩,wY⟩:=hp;have ha:=uE hg c.args us QC;have e:(execOp ρ o).run P w= .ok (.enter f (first++us.toArray++cap)) w:=by
     have Ti:fn.name≠ "runtime.NumGoroutine" :=by simpa using hn
     have qh:fn.body≠none:=by intro e;rw[e] at hb;cases hb
     simp[execOp,nr,resolve,hc,ha,hg _ _ hx,amQ,invoke,callFunc,program,cw,hf,Ti,qh]
    rw[e];exact⟨rfl,wY w hw⟩
   cases h
  cases h
end
structure SR where
 slot:Nat
 ch:List (Nat×Bool)
 val:af
abbrev Env:=List SR
def FQ (a:Act)(l:Nat×Bool):Prop:=a.tmps[l.1]?=some (.bool l.2)
def nt (a:Act)(C:List (Nat×Bool)):Prop:=∀l∈C,FQ a l
def C8 (a:Act)(e:SR):Prop:=(nt a e.ch->a.tmps[e.slot]?=some e.val)/\(¬nt a e.ch->a.tmps[e.slot]?=some undef)
def jR (n:Nat)(a:Act)(env:Env):Prop:=a.tmps.size=n/\a.defers=[]/\∀e∈env,C8 a e
def look (env:Env)(t:Nat):Option SR:=env.find? (λe=>e.slot==t)
def getOp (env:Env)(C:List (Nat×Bool)):aL->Option af
 | .tmp t=>match look env t with
  |some e=>if e.ch.isPrefixOf C then some e.val else none
  |none=>none
 | .const v=>some v
 | .func f=>some (.func (.func f) #[] #[])
 | .global g=>some (.pointer (some ⟨g,0,none⟩))
theorem look_ok {env:Env}{t:Nat}{e:SR}(h:look env t=some e):e∈env/\e.slot=t:=
 ⟨anP h,by have:=al6 h;simpa using this⟩
theorem rI {a:Act}{C D:List (Nat×Bool)}(h:C.isPrefixOf D=true)(hd:nt a D):nt a C:=by
 obtain⟨t,rfl⟩:=List.isPrefixOf_iff_prefix.1 h;exact λl hl=>hd l (aS _ hl)
theorem mB {n:Nat}{a:Act}{env:Env}{C:List (Nat×Bool)}(ha:jR n a env)(hC:nt a C)(x:aL)(u:af)(h:getOp env C x=some u):a.eval x=u:=by
 cases x with
 |tmp t=>
  simp only[getOp] at h;split at h
  .rename_i e he;split at h
   .rename_i hp;cases h;obtain⟨h1,rfl⟩:=look_ok he;have:=(ha.2.2 e h1).1 (rI hp hC);simp only[dL,cj,this,dA]
   cases h
  cases h
 |const v=>cases h;rfl
 |func f=>cases h;rfl
 |global g=>cases h;rfl
def Cz (ops:Array aD)(env:Env)(o:aD):Option (List (Nat×Bool)):=
 match o.guard with
 |none=>some []
 |some (i,b)=>match(ops[i]?).bind (·.dst) with
  |some j=>(look env j).map λe=>e.ch++[(j,b)]
  |none=>none
def impl (env:Env):List (Nat×Bool)->Prop->Prop
 |[],p=>p
 |(j,b)::r,p=>match look env j with
  |some ⟨_,_,.bool c⟩=>c=b->impl env r p
  |_=>impl env r p
def MI (env:Env)(C:List (Nat×Bool))(c x y:aL):Option af:=
 match c,getOp env C c with
 | .tmp t,some (.bool cb)=>match getOp env (C++[(t,true)]) x,getOp env (C++[(t,false)]) y with
  |some (.bool p),some (.bool q)=>match x,y with
   | .const (.bool true),_=>some (.bool (cb||q))
   |_,.const (.bool false)=>some (.bool (cb && p))
   |_,_=>some (.bool (bif cb then p else q))
  |_,_=>none
 |_,_=>none
def C9 (P:az)(W:aa->Prop)(n:Nat)(ops:Array aD)(env:Env)(mJ:List (Nat×af))(o:aD):Option (Env×Prop):=
 match Cz ops env o,o.dst with
 |some C,some d=>
  if d<n/\C.all (λl=>l.1 !=d)=true then
   match(match o.op with
    | .pick c x y=>(MI env C c x y).map λv=>(v,True)
    |op=>kH P W (getOp env C) op (mJ.lookup d)) with
   |some (v,p)=>some (⟨d,C,v⟩::env.filter (λe=>e.slot !=d && e.ch.all (λl=>l.1 !=d)),impl env C p)
   |none=>none
  else none
 |_,_=>none
def aiB:BinOp->Bool
 | .eql=>true
 | .neq=>true
 | .lss=>true
 | .leq=>true
 | .gtr=>true
 | .geq=>true
 |_=>false
def aiC:BinOp->Bool
 | .eql=>true
 | .neq=>true
 |_=>false
def Tj (o:BinOp):Option af->Option af->Bool
 |some (.int _ _),some (.int _ _)=>aiB o
 |some (.string _),some (.string _)=>aiC o
 |_,_=>false
def ab7 (g:aL->Option af):Op->Bool
 | .move _=>true
 | .assign _=>true
 | .unOp .not _ _=>true
 | .pick _ _ _=>true
 | .binOp o _ x y _=>Tj o (g x) (g y)
 |_=>false
def Tk (ops:Array aD)(env:Env)(o:aD):Bool:=match Cz ops env o with
 |some C=>ab7 (getOp env C) o.op
 |none=>false
theorem Tl {P:az}{W:aa->Prop}{g:aL->Option af}{op:Op}{mJ:Option af}{v:af}{p:Prop}(ht:ab7 g op=true)(h:kH P W g op mJ=some (v,p)):p:=by
 cases op
 all_goals first|(cases ht;done)|skip
 case move x=>obtain⟨u,_,e⟩:=aZ.1 h;cases e;trivial
 case assign x=>obtain⟨u,_,e⟩:=aZ.1 h;cases e;trivial
 case unOp u t x=>
  cases u
  all_goals first|(cases ht;done)|skip
  simp only[kH] at h;split at h<;>cases h
  trivial
 case pick c x y=>cases h
 case binOp o t x y z=>
  simp only[kH] at h;have ht:Tj o (g x) (g y)=true:=ht;unfold Tj at ht;split at ht
  .rename_i k a k' b hx hy;rw[hx,hy] at h;cases o<;>first|(cases ht;done)|(simp only[oS] at h;split at h<;>cases h;trivial)
  .rename_i a b hx hy;rw[hx,hy] at h;cases o<;>first|(cases ht;done)|(simp only[oS] at h;cases h;trivial)
  cases ht
theorem AP {env:Env}{p:Prop}(h:p):∀C:List (Nat×Bool),impl env C p
 |[]=>h
 |(j,b)::r=>by
  simp only[impl];split
  .exact λ_=>AP h r
  exact AP h r
theorem Tm {P:az}{W:aa->Prop}{n:Nat}{ops:Array aD}{env uF:Env}{mJ:List (Nat×af)}{o:aD}{p:Prop}(ht:Tk ops env o=true)(h:C9 P W n ops env mJ o=some (uF,p)):p:=by
 unfold C9 at h;unfold Tk at ht;split at h
 .rename_i C d hC hd;rw[hC] at ht;split at h
  .split at h
   .rename_i v p' hv;cases h;refine AP ?_ C;split at hv
    .obtain⟨u,_,e⟩:=aZ.1 hv;cases e;trivial
    exact Tl ht hv
   cases h
  cases h
 cases h
def Da (P:az)(W:aa->Prop)(n:Nat)(ops:Array aD)(mJ:List (Nat×af)):List aD->Env->Option (Env×Prop)
 |[],env=>some (env,True)
 |o::r,env=>match C9 P W n ops env mJ o with
  |some (uF,p)=>match Da P W n ops mJ r uF with
   |some (afG,q)=>some (afG,match Tk ops env o with
    |true=>q
    |false=>p/\q)
   |none=>none
  |none=>none
theorem FR {a:Act}{l:Nat×Bool}{d:Nat}{v:af}(h:l.1≠d):FQ (a.put (some d) v) l↔FQ a l:=by
 simp only[FQ,dM,akQ];rw[ah (λe=>h e.symm)]
theorem rJ {a:Act}{C:List (Nat×Bool)}{d:Nat}{v:af}(h:C.all (λl=>l.1 !=d)=true):nt (a.put (some d) v) C↔nt a C:=by
 rw[aY] at h;exact⟨λhc l hl=>(FR (by simpa using h l hl)).1 (hc l hl),λhc l hl=>(FR (by simpa using h l hl)).2 (hc l hl)⟩
theorem xT {a:Act}{e:SR}{d:Nat}{v:af}(h:(e.slot !=d && e.ch.all (λl=>l.1 !=d))=true)(he:C8 a e):C8 (a.put (some d) v) e:=by
 rw[aQ] at h;have hs:(a.put (some d) v).tmps[e.slot]?=a.tmps[e.slot]?:=by
  simp only[dM,akQ];rw[ah (λq=>by simp[q] at h)]
 refine⟨λhc=>?_,λhc=>?_⟩
 .rw[hs];exact he.1 ((rJ h.2).1 hc)
 rw[hs];exact he.2 (λk=>hc ((rJ h.2).2 k))
theorem FT {n:Nat}{a:Act}{env:Env}{d:Nat}{C:List (Nat×Bool)}{v:af}(ha:jR n a env)(hd:d<n)(hC:C.all (λl=>l.1 !=d)=true){u:af}(hu:(nt a C->u=v)/\(¬nt a C->u=undef)):
  jR n (a.put (some d) u) (⟨d,C,v⟩::env.filter (λe=>e.slot !=d && e.ch.all (λl=>l.1 !=d))):=by
 refine⟨by simp[dM,ha.1],ha.2.1,λe he=>?_⟩;rcases aC.1 he with rfl|he
 .have hs:(a.put (some d) u).tmps[d]?=some u:=by
   simp only[dM,akQ,if_true];rw[ak (by rw[ha.1];exact hd)]
  refine⟨λhc=>?_,λhc=>?_⟩
  .show(a.put (some d) u).tmps[d]?=some v;rw[hs,hu.1 ((rJ hC).1 hc)]
  show(a.put (some d) u).tmps[d]?=some undef;rw[hs,hu.2 (λk=>hc ((rJ hC).2 k))]
 obtain⟨h1,h2⟩:=cB.1 he;exact xT h2 (ha.2.2 e h1)
theorem AQ {n:Nat}{a:Act}{env:Env}(ha:jR n a env):∀ {C:List (Nat×Bool)} {p:Prop},impl env C p->nt a C->p
 |[],p,h,_=>h
 |(j,b)::r,p,h,hc=>by
  have hr:nt a r:=λl hl=>hc l (aE _ hl);simp only[impl] at h;split at h
  .rename_i s e c hl;obtain⟨h1,h2⟩:=look_ok hl;have hj:a.tmps[j]?=some (.bool b):=hc (j,b) aA;have he:=ha.2.2 _ h1;simp only at h2;subst h2;have pR:nt a e:=bT λhn=>by
    have:=he.2 hn;simp only at this;rw[hj] at this;simp[undef] at this
   have hv:=he.1 pR;simp only at hv;rw[hj] at hv;simp at hv;exact AQ ha (h hv.symm) hr
  exact AQ ha h hr
theorem MJ {n:Nat}{a:Act}{env:Env}{ops:Array aD}{o:aD}{C:List (Nat×Bool)}(ha:jR n a env)(h:Cz ops env o=some C):cV o (yielded ops a.tmps)=true↔nt a C:=by
 unfold Cz at h;unfold Region.wanted;split at h
 .rename_i hg;cases h;simp[hg,nt]
 rename_i i b hg;split at h
 .rename_i j hj;obtain⟨e,he,rfl⟩:=aZ.1 h;obtain⟨h1,rfl⟩:=look_ok he;have SS:=ha.2.2 e h1;simp only[hg,beq_iff_eq];have hy:yielded ops a.tmps i=some b↔a.tmps[e.slot]?=some (.bool b):=by
   unfold yielded;rw[hj];simp only[Option.bind_some];constructor
   .intro hh;split at hh
    .rename_i c hc;cases hh;exact hc
    cases hh
   intro hh;rw[hh]
  rw[hy];constructor
  .intro hh l hl;rcases aI.1 hl with hl|hl
   .have pR:nt a e.ch:=bT λhn=>by
     have:=SS.2 hn;rw[hh] at this;simp[undef] at this
    exact pR l hl
   simp at hl;subst hl;exact hh
  intro hh;exact hh (e.slot,b) (bl _ (by simp))
 cases h
theorem QD {P:az}{W:aa->Prop}{n:Nat}{a:Act}{env:Env}{C:List (Nat×Bool)}{o:aD}{c x y:aL}{v:af}(ha:jR n a env)(hC:nt a C)(ho:o.op= .pick c x y)(h:MI env C c x y=some v)(w:aa):dy P W w v ((execOp a.eval o).run P w):=by
 unfold MI at h;split at h
 .rename_i t cb hc;split at h
  .rename_i p q hx hy;have ec:=mB ha hC _ _ hc;have key:∀r:Bool,(cb=true->r=p)->(cb=false->r=q)->v= .bool r->dy P W w v ((execOp a.eval o).run P w):=by
    intro r h1 h2 hv;subst hv;have Tn:FQ a (t,cb):=by
     simp only[getOp] at hc;split at hc
     .rename_i e he;split at hc
      .rename_i hp;obtain⟨m1,rfl⟩:=look_ok he;have:=(ha.2.2 e m1).1 (rI hp hC);have hv:=bz hc;unfold FQ;rw[this,hv]
      cases hc
     cases hc
    simp only[execOp,ho,ec,asBool,aM,bF,bY];cases cb with
    |true=>
     have ex:=mB ha (C:=C++[(t,true)]) (λl hl=>by rcases aI.1 hl with hl|hl;exact hC l hl;simp at hl;subst hl;exact Tn) _ _ hx;rw[h1 rfl];simp only[if_true,ex];exact⟨rfl,rfl⟩
    |false=>
     have ey:=mB ha (C:=C++[(t,false)]) (λl hl=>by rcases aI.1 hl with hl|hl;exact hC l hl;simp at hl;subst hl;exact Tn) _ _ hy;rw[h2 rfl];simp only[alf,if_false,ey];exact⟨rfl,rfl⟩
   split at h
   .cases h;cases hx;exact key _ (λe=>by rw[e];simp) (λe=>by rw[e];simp) rfl
   .cases h;cases hy;exact key _ (λe=>by rw[e];simp) (λe=>by rw[e];simp) rfl
   cases h;exact key _ (λe=>by rw[e];rfl) (λe=>by rw[e];rfl) rfl
  cases h
 cases h
theorem QE {P:az}{W:aa->Prop}{n:Nat}{ops:Array aD}{a:Act}{env uF:Env}{mJ:List (Nat×af)}{o:aD}{p:Prop}(ha:jR n a env)
  (h:C9 P W n ops env mJ o=some (uF,p)) (hp:p) {Q:Act->Prop} (hQ:∀a',jR n a' uF->Q a'):
  if cV o (yielded ops a.tmps) then o.quiet P a W Q else Q (a.put o.dst undef):=by
 unfold C9 at h;split at h
 .rename_i C d hC hd;split at h
  .rename_i MK;split at h
   .rename_i v p' hv;cases h;have hw:=MJ ha hC
    by_cases pR:nt a C
    .rw[ak (hw.2 pR)];have hp':=AQ ha hp pR;refine⟨v,λw hw=>?_,?_⟩
     .unfold Oper.quietAt;split at hv
      .rename_i c x y ho;obtain⟨u,hu,e⟩:=aZ.1 hv;cases e;exact QD ha pR ho hu w
      exact HB (λx u hx=>mB ha pR x u hx) hv hp' w hw
     rw[hd];exact hQ _ (FT ha MK.1 MK.2 ⟨λ_=>rfl,λhn=>(hn pR).elim⟩)
    rw[ah (λhh=>pR (hw.1 hh)),hd];exact hQ _ (FT ha MK.1 MK.2 ⟨λhh=>(pR hh).elim,λ_=>rfl⟩)
   cases h
  cases h
 cases h
theorem Db {P:az}{W:aa->Prop}{n:Nat}{ops:Array aD}{mJ:List (Nat×af)}:∀ {l:List aD} {a:Act} {env uF:Env} {p:Prop} (ha:jR n a env)
  (h:Da P W n ops mJ l env=some (uF,p)) (hp:p) {Q:Act->Prop} (hQ:∀a',jR n a' uF->Q a'),wpQuiet P ops W Q l a
 |[],a,env,uF,p,ha,h,hp,Q,hQ=>by
  simp only[Da,bQ,cE] at h;obtain⟨rfl,rfl⟩:=h;exact hQ a ha
 |o::r,a,env,uF,p,ha,h,hp,Q,hQ=>by
  simp only[Da] at h;split at h
  .rename_i akg p1 h1;split at h
   .rename_i akh q h2;cases h;have hpq:p1/\q:=by
     split at hp
     .rename_i ht;exact⟨Tm ht h1,hp⟩
     exact hp
    exact QE ha h1 hpq.1 (λa' Y1=>Db Y1 h2 hpq.2 hQ)
   cases h
  cases h
def kV (keep:List (Nat×af)):Env:=keep.map λx=>⟨x.1,[],x.2⟩
theorem HC {n:Nat}{a:Act}{env:Env}(keep:List (Nat×af))(ha:jR n a env)(h:∀x∈keep,look env x.1=some ⟨x.1,[],x.2⟩):jR n a (kV keep):=by
 refine⟨ha.1,ha.2.1,λe he=>?_⟩;obtain⟨x,hx,rfl⟩:=aN.1 he;exact ha.2.2 _ (look_ok (h x hx)).1
def sub:Code->List Nat->Code
 |c,[]=>c
 | .seq x y,k::p=>if k=0 then sub x p else sub y p
 | .cond _ x y,k::p=>if k=0 then sub x p else sub y p
 | .block _ b,_::p=>sub b p
 | .loop b,_::p=>sub b p
 | .scope b,_::p=>sub b p
 | .rangeFunc _ _ x y,k::p=>if k=0 then sub x p else sub y p
 |_,_::_=>.skip
def afH:Code->Bool| .seq _ _=>true|_=>false
def ade:Code->Bool| .loop _=>true|_=>false
def ab8:Code->Bool| .ret=>true|_=>false
def adf:Code->Bool| .skip=>true|_=>false
def To:Code->Option aL| .cond c _ _=>some c|_=>none
def Oq:Code->Option Nat| .block i _=>some i|_=>none
def Tp:Code->Option Nat| .exit i=>some i|_=>none
def AR:Code->Option Bool| .region _ _ d=>some d|_=>none
def opsOf:Code->Array aD| .region _ o _=>o|_=> #[]
theorem Ot (c:Code):sub c []=c:=by cases c<;>rfl
theorem JT (x y:Code):sub (.seq x y) [0]=x:=by simp only[sub];cases x<;>rfl
theorem JU (x y:Code):sub (.seq x y) [1]=y:=by simp only[sub];cases y<;>rfl
theorem AS (c:aL)(x y:Code):sub (.cond c x y) [0]=x:=by simp only[sub];cases x<;>rfl
theorem AU (c:aL)(x y:Code):sub (.cond c x y) [1]=y:=by simp only[sub];cases y<;>rfl
theorem Dc (i:Nat)(x:Code):sub (.block i x) [0]=x:=by simp only[sub]
theorem FV (x:Code):sub (.loop x) [0]=x:=by simp only[sub]
theorem j8 (k:Nat):∀(p:List Nat) (B:Code),sub B (p++[k])=sub (sub B p) [k]
 |[],B=>by cases B<;>rfl
 |j::p,B=>by
  cases B with
  |seq x y=>simp only[dN,sub];split<;>exact j8 k p _
  |cond c x y=>simp only[dN,sub];split<;>exact j8 k p _
  |block i b=>exact j8 k p b
  |loop b=>exact j8 k p b
  |scope b=>exact j8 k p b
  |rangeFunc f ps x y=>simp only[dN,sub];split<;>exact j8 k p _
  |_=>rfl
abbrev oa:=Exit->Act->aa->Prop
theorem Dd {p:Nat->Prop}:∀n,p n->∃m,p m/\∀k,p k->m<=k:=by
 intro n
 induction n using Nat.strongRecOn with
 |_ n ih=>
  intro hn
  by_cases h:∃k,k<n/\p k
  .obtain⟨k,hk,hpk⟩:=h;exact ih k hk hpk
  exact⟨n,hn,λk hk=>Nat.le_of_not_lt λpg=>h ⟨k,pg,hk⟩⟩
section
variable {P:az}{B:Code}{p:List Nat}{Q:oa}{a:Act}{w:aa}
theorem iG (k:∀K:Act->aa->Prop,(∀a w,(sub B (p++[1])).wp P Q a w->K a w)->(sub B (p++[0])).wp P (Exit.then K Q) a w)(h:afH (sub B p)=true:=by kernel_rfl):(sub B p).wp P Q a w:=by
 cases hc:sub B p<;>rw[hc] at h<;>first|(cases h;done)|skip
 rename_i x y;refine wp_seq_k λK hK=>?_;have:=k K (λa w h=>hK a w (by rw[j8,hc,JU] at h;exact h));rw[j8,hc,JT] at this;exact this
theorem jC {n:Nat}{env:Env}(ha:jR n a env)(c:aL)(b:Bool)
  (ht:b=true->(sub B (p++[0])).wp P Q a w) (hf:b=false->(sub B (p++[1])).wp P Q a w) (h:To (sub B p)=some c:=by kernel_rfl) (hb:getOp env [] c=some (.bool b):=by kernel_rfl):(sub B p).wp P Q a w:=by
 cases hc:sub B p<;>rw[hc] at h<;>first|(cases h;done)|skip
 rename_i c' x y;simp only[To,bQ] at h;subst h;refine wp_cond_split (mB ha (λ_ hl=>by simp at hl) _ _ hb) (λe=>?_) (λe=>?_)
 .have:=ht e;rw[j8,hc,AS] at this;exact this
 have:=hf e;rw[j8,hc,AU] at this;exact this
theorem ov (i:Nat)(k:(sub B (p++[0])).wp P (Exit.inBlock i Q) a w)(h:Oq (sub B p)=some i:=by kernel_rfl):(sub B p).wp P Q a w:=by
 cases hc:sub B p<;>rw[hc] at h<;>first|(cases h;done)|skip
 rename_i j b;simp only[Oq,bQ] at h;subst h;rw[j8,hc,Dc] at k;exact wp_block k
theorem zz (i:Nat)(k:Q (.exit i) a w)(h:Tp (sub B p)=some i:=by kernel_rfl):(sub B p).wp P Q a w:=by
 cases hc:sub B p<;>rw[hc] at h<;>first|(cases h;done)|skip
 simp only[Tp,bQ] at h;subst h;exact wp_exit k
theorem kW (k:Q .ret a w)(h:ab8 (sub B p)=true:=by kernel_rfl):(sub B p).wp P Q a w:=by
 cases hc:sub B p<;>rw[hc] at h<;>first|(cases h;done)|skip
 exact wp_ret k
theorem go_skip (k:Q .normal a w)(h:adf (sub B p)=true:=by kernel_rfl):(sub B p).wp P Q a w:=by
 cases hc:sub B p<;>rw[hc] at h<;>first|(cases h;done)|skip
 exact wp_skip k
theorem zA (X:Type)(I:X->Act->aa->Prop)(μ:X->Nat)(x0:X)(h0:I x0 a w)
  (round:∀x a w,I x a w->(sub B (p++[0])).wp P (Exit.then (λa' w'=> ∃x',I x' a' w'/\μ x'<μ x) Q) a w) (h:ade (sub B p)=true:=by kernel_rfl):(sub B p).wp P Q a w:=by
 cases hc:sub B p<;>rw[hc] at h<;>first|(cases h;done)|skip
 rename_i b;rw[j8,hc,FV] at round
 classical
 have hL:∀a w,(∃x,I x a w)->∃m,(∃x,I x a w/\μ x=m)/\∀k,(∃x,I x a w/\μ x=k)->m<=k:=λa w ⟨x,hx⟩=>Dd (p:=λm=> ∃x,I x a w/\μ x=m) (μ x) ⟨x,hx,rfl⟩
 let m:Act->aa->Nat:=λa w=>if h:∃x,I x a w then amS (hL a w h) else 0
 have hm:∀a w,(∃x,I x a w)->(∃x,I x a w/\μ x=m a w)/\∀k,(∃x,I x a w/\μ x=k)->m a w<=k:=by
  intro a w h;have:=alN (hL a w h);simp only[m,dif_pos h];exact this
 refine wp_loop (λa w=> ∃x,I x a w) m ⟨x0,h0⟩ λa w hI=>?_;obtain⟨⟨x,hx,hmx⟩,_⟩:=hm a w hI;refine wp_mono (round x a w hx) λe a' w' q=>?_;cases e with
 |normal=>
  obtain⟨x',CA,pg⟩:=q;refine⟨⟨x',CA⟩,?_⟩;have:=(hm a' w' ⟨x',CA⟩).2 (μ x') ⟨x',CA,rfl⟩;omega
 |_=>exact q
abbrev On (w:aa):aa->Prop:=λw'=>Below w.heap.size w w'
theorem On.self (w:aa):On w w:=Below.refl _ _
theorem mg (k:wpList P (opsOf (sub B p)) Q ((opsOf (sub B p)).toList.drop 0) a w)(hd:AR (sub B p)=some false:=by kernel_rfl):(sub B p).wp P Q a w:=by
 cases hc:sub B p<;>rw[hc] at hd<;>first|(cases hd;done)|skip
 rename_i id ops d;simp only[AR,bQ] at hd;subst hd;rw[hc] at k;exact wp_region_list k
theorem sG {ops:Array aD}{C:aa->Prop}{K:Act->Prop}{rest:List aD}:∀(l:List aD) (a:Act) (w:aa),C w->wpQuiet P ops C K l a->(∀a' w',C w'->K a'->wpList P ops Q rest a' w')->wpList P ops Q (l++rest) a w
 |[],a,w,hw,h,k=>k a w hw h
 |o::l,a,w,hw,h,k=>by
  simp only[wpQuiet] at h;simp only[dN,wpList];split
  .rename_i Tq;rw[ak Tq] at h;exact .inl (Oper.wp_of_quiet hw (λa' w' zm hK=>sG l a' w' zm hK k) h)
  rename_i Tq;rw[ah Tq] at h;exact sG l _ w hw h k
theorem adg {ops:Array aD}{n i m:Nat}{env uF:Env}{pr:Prop}(mJ:List (Nat×af))(keep:List (Nat×af))(ha:jR n a env)
  (h:Da P (On w) n ops mJ ((ops.toList.drop i).take m) env=some (uF,pr)) (hk:∀x∈keep,look uF x.1=some ⟨x.1,[],x.2⟩) (hp:pr)
  (k:∀a' w',jR n a' (kV keep)->Below w.heap.size w w'->wpList P ops Q (ops.toList.drop (i+m)) a' w'):wpList P ops Q (ops.toList.drop i) a w:=by
 have:=sG (P:=P) (Q:=Q) (rest:=ops.toList.drop (i+m)) (K:=λa'=>jR n a' (kV keep)) ((ops.toList.drop i).take m) a w (On.self w) (Db ha h hp λa' Y1=>HC keep Y1 hk) (λa' w' zm Y1=>k a' w' Y1 zm);rw[<-alO,dO] at this;exact this
theorem mN {ops:Array aD}{i:Nat}(k:Q .normal a w)(h:decide (ops.size<=i)=true:=by kernel_rfl):wpList P ops Q (ops.toList.drop i) a w:=by
 rw[alk (by simpa using aP h)];exact k
def QF (ops:Array aD)(i:Nat):Option (Op×Option Tmp×Option (Nat×Bool)):=(ops.toList[i]?).map λo=>(o.op,o.dst,o.guard)
theorem Ou {ops:Array aD}{i:Nat}{op:Op}{dst:Option Tmp}{R:Act->aa->Prop}(h:QF ops i=some (op,dst,none))
  (k:∀o:aD,o.op=op->o.dst=dst->o.wp P a w R Q):wpOp P ops Q i R a w:=by
 obtain⟨o,ho,he⟩:=aZ.1 h;simp only[cE] at he;have⟨h1,h2,h3⟩:=he;have Jz:ops[i]?=some o:=by simpa using ho
 unfold wpOp;simp only[Jz,cV,h3,if_true];exact .inl (k o h1 h2)
theorem pS {ops:Array aD}(i:Nat)(h:wpOp P ops Q i (wpList P ops Q (ops.toList.drop (i+1))) a w)(hi:decide (i<ops.size)=true:=by kernel_rfl):wpList P ops Q (ops.toList.drop i) a w:=by
 have AJ:i<ops.toList.length:=by rw[cz];exact aP hi
 rw[List.drop_eq_getElem_cons AJ];have ho:ops[i]?=some ops.toList[i]:=by simp[aR AJ]
 unfold wpOp at h;simp only[ho] at h;simp only[wpList];exact h
theorem Y2 {n d:Nat}{v:af}(keep:List (Nat×af)){env:Env}(ha:jR n a env)(hd:d<n)(hk:∀x∈keep,x.1≠d/\look env x.1=some ⟨x.1,[],x.2⟩):jR n (a.put (some d) v) (kV ((d,v)::keep)):=by
 refine⟨by simp[dM,ha.1],ha.2.1,λe he=>?_⟩;obtain⟨x,hx,rfl⟩:=aN.1 he;rcases aC.1 hx with rfl|hx
 .have hs:(a.put (some d) v).tmps[d]?=some v:=by
   simp only[dM,akQ,if_true];rw[ak (by rw[ha.1];exact hd)]
  exact⟨λ_=>hs,λhn=>(hn (λl hl=>by simp at hl)).elim⟩
 obtain⟨h1,h2⟩:=hk x hx;have:=ha.2.2 _ (look_ok h2).1;exact xT (by simpa using h1) this
theorem lU {fn:Func}{R:dx->aa->Prop}{n:Nat}{env:Env}(t:Nat)(v:af)(ha:jR n a env)(k:R (.returned v) w)(hr:fn.results= #[.tmp t]:=by kernel_rfl)(hv:getOp env [] (.tmp t)=some v:=by kernel_rfl):bodyPost P fn R .ret a w:=by
 have wM:nt a []:=λl hl=>by simp at hl
 refine bodyPost_ret (v:=v) ?_ ha.2.1 k;rw[results_tmp hr];have:=mB ha wM _ _ hv;simp only[dL] at this;rw[this]
theorem Ov {fn:Func}{R:dx->aa->Prop}{n:Nat}{env:Env}(t1 t2:Nat)(v1 v2:af)(ha:jR n a env)(k:R (.returned (.tuple #[v1,v2])) w)(hr:fn.results= #[.tmp t1,.tmp t2]:=by kernel_rfl)(HE:getOp env [] (.tmp t1)=some v1:=by kernel_rfl)(Y3:getOp env [] (.tmp t2)=some v2:=by kernel_rfl):bodyPost P fn R .ret a w:=by
 have wM:nt a []:=λl hl=>by simp at hl
 refine bodyPost_ret (v:=.tuple #[v1,v2]) ?_ ha.2.1 k;rw[results_tmp2 hr];have h1:=mB ha wM _ _ HE;have h2:=mB ha wM _ _ Y3;simp only[dL] at h1 h2;rw[h1,h2]
theorem enter {f:bB}(fn:Func)(n:Nat){args:List af}{R:dx->aa->Prop}(hf:P.funcs[f]?=some fn)
  (k:∀a,jR n a (kV ((List.range args.length).zip args))->(sub (fn.body.getD .skip) []).wp P (bodyPost P fn R) a w) (hb:fn.body.isSome=true:=by kernel_rfl) (hn:fn.ntmps=n:=by kernel_rfl) (hl:decide (args.length<=n)=true:=by kernel_rfl):Calls P f args.toArray w R:=by
 obtain⟨B,hb⟩:=bD.1 hb;rw[hb] at k;have hl:=aP hl;refine calls_of_wp hf hb ?_;rw[<-Ot B];refine k _ ⟨?_,rfl,λe he=>?_⟩
 .simp;omega
 obtain⟨x,hx,rfl⟩:=aN.1 he;obtain⟨j,hj,rfl⟩:=akN hx;have QG:j<args.length:=by simp at hj;exact hj
 refine⟨λ_=>?_,λhn=>(hn (λl hl=>by simp at hl)).elim⟩;simp only[List.getElem_zip,List.getElem_range];rw[Array.getElem?_append_left (by simpa using QG)];simp[QG]
end
def ab9 (P:az)(W:aa->Prop)(n:Nat)(ops:Array aD)(mJ:List (Nat×af))(l:List aD)(env:Env)(keep:List (Nat×af))(pr:Prop):Prop:=
 ∃uF,Da P W n ops mJ l env=some (uF,pr)/\∀x∈keep,look uF x.1=some ⟨x.1,[],x.2⟩
theorem De {env:Env}:∀ {keep:List (Nat×af)},(keep.map λx=>look env x.1)=(keep.map λx=>some ⟨x.1,[],x.2⟩)->∀x∈keep,look env x.1=some ⟨x.1,[],x.2⟩
 |[],_,x,hx=>by simp at hx
 |y::r,h,x,hx=>by
  simp only[bn,List.cons.injEq] at h;rcases aC.1 hx with rfl|hx
  .exact h.1
  exact De h.2 x hx
abbrev zB (P:az)(W:aa->Prop)(n:Nat)(ops:Array aD)(mJ:List (Nat×af))(l:List aD)(env:Env)(keep:List (Nat×af))(pr:Prop):Prop:=
 (Da P W n ops mJ l env).map (λr=>((keep.map λx=>look r.1 x.1),r.2))=some ((keep.map λx=>some ⟨x.1,[],x.2⟩),pr)
theorem Df {P:az}{W:aa->Prop}{n:Nat}{ops:Array aD}{mJ:List (Nat×af)}{l:List aD}{env:Env}{keep:List (Nat×af)}{pr:Prop}
  (h:zB P W n ops mJ l env keep pr):ab9 P W n ops mJ l env keep pr:=by
 obtain⟨⟨uF,p⟩,h1,h2⟩:=aZ.1 h;simp only[cE] at h2;obtain⟨h2,rfl⟩:=h2;exact⟨uF,h1,De h2⟩
theorem rK {P:az} {f:bB} (h:(P.funcs[f]?).map (λfn=>((fn.name== "runtime.NumGoroutine")||fn.body.isNone))=some false:=by kernel_rfl):sR P f:=by
 obtain⟨fn,h1,h2⟩:=aZ.1 h;simp only[anR] at h2;exact⟨fn,h1,h2.1,h2.2⟩
abbrev SU (v:af)(w:aa):dx->aa->Prop:=λe w'=>e= .returned v/\Below w.heap.size w w'
theorem uG {P:az}{w:aa}{f:bB}{args:Array af}{v:af}(h:∀w',Below w.heap.size w w'->Calls P f args w' (SU v w')):yL P (On w) f args v:=
 λw' zm=>(h w' zm).mono λe w'' ⟨he,hb⟩=>⟨he,zm.trans (hb.mono zm.size)⟩
theorem afI {a b:ByteArray}(h:(a.toList==b.toList)=true):a=b:=by
 have:=beq_iff_eq.1 h;rw[ByteArray.toList_eq,ByteArray.toList_eq] at this;cases a;cases b
 congr 1
 exact cr this
theorem nT {b:Bool}(h:(!b)=true):b=false:=by simpa using h
theorem nF {b:Bool}(h:(!b)=false):b=true:=by simpa using h
theorem aT {a b:Bool}(h:(a && b)=true):a=true/\b=true:=by simpa using h
theorem aF {a b:Bool}(h:(a && b)=false):a=false\/b=false:=by cases a<;>simp_all
theorem oT {a b:Bool}(h:(a||b)=true):a=true\/b=true:=by simpa using h
theorem oF {a b:Bool}(h:(a||b)=false):a=false/\b=false:=by simpa using h
section
variable {P:az}{B:Code}{p:List Nat}{Q:oa}{a:Act}{w:aa}
theorem Ow {ops:Array aD}{n:Nat}{env:Env}{w0:Orig}{S:iF}{rs:List o9}(i m:Nat)(mJ:List (Nat×af))(keep:List (Nat×af))(pr:Prop)(ha:jR n a env)(H:Fr w0 w S rs)(hp:pr)
  (h:ab9 P (On w) n ops mJ ((ops.toList.drop i).take m) env keep pr)
  (k:∀a' w',jR n a' (kV keep)->Fr w0 w' S rs->Below w.heap.size w w'->wpList P ops Q (ops.toList.drop (i+m)) a' w'):wpList P ops Q (ops.toList.drop i) a w:=
 let⟨_,h1,h2⟩:=h
 adg mJ keep ha h1 h2 hp λa' w' h1 h2=>k a' w' h1 (H.on h2) h2
theorem oY {ops:Array aD}{n:Nat}{env:Env}{w0:Orig}{S:iF}{rs:List o9}(i m:Nat)(mJ:List (Nat×af))(keep:List (Nat×af))(pr:Prop)(ha:jR n a env)(H:Fr w0 w S rs)(hp:pr)
  (k:∀a' w',jR n a' (kV keep)->Fr w0 w' S rs->Below w.heap.size w w'->wpList P ops Q (ops.toList.drop (i+m)) a' w')
  (h:zB P (On w) n ops mJ ((ops.toList.drop i).take m) env keep pr:=by delta zB;kernel_rfl):wpList P ops Q (ops.toList.drop i) a w:=
 Ow i m mJ keep pr ha H hp (Df h) k
theorem q_reg {n:Nat}{env:Env}{w0:Orig}{S:iF}{rs:List o9}(mJ:List (Nat×af))(keep:List (Nat×af))(pr:Prop)(ha:jR n a env)(H:Fr w0 w S rs)(hp:pr)
  (k:∀a' w',jR n a' (kV keep)->Fr w0 w' S rs->Below w.heap.size w w'->Q .normal a' w') (hd:AR (sub B p)=some false:=by kernel_rfl)
  (h:zB P (On w) n (opsOf (sub B p)) mJ (opsOf (sub B p)).toList env keep pr:=by delta zB;kernel_rfl):(sub B p).wp P Q a w:=by
 refine mg ?_ hd;refine Ow 0 (opsOf (sub B p)).toList.length mJ keep pr ha H hp ?_ λa' w' h1 h2 h3=>?_
 .rw[aky,bL];exact Df h
 exact mN (k a' w' h1 h2 h3) (by simp)
theorem jf {n:Nat}{env:Env}{w0:Orig}{S:iF}{rs:List o9}(keep:List (Nat×af))(ha:jR n a env)(H:Fr w0 w S rs)
 (k:∀a' w',jR n a' (kV keep)->Fr w0 w' S rs->Below w.heap.size w w'->Q .normal a' w') (hd:AR (sub B p)=some false:=by kernel_rfl)
 (h:zB P (On w) n (opsOf (sub B p)) [] (opsOf (sub B p)).toList env keep True:=by delta zB;kernel_rfl):(sub B p).wp P Q a w:=q_reg [] keep True ha H tv k hd h
abbrev sS (n d:Nat)(env:Env)(keep:List (Nat×af)):Prop:=(decide (d<n),keep.map λx=>(x.1 !=d,look env x.1))=(true,keep.map λx=>(true,some ⟨x.1,[],x.2⟩))
theorem zC {n d:Nat}{v:af}{o:aD}(keep:List (Nat×af)){env:Env}(ha:jR n a env)(nU:o.dst=some d)(hk:sS n d env keep):jR n (a.put o.dst v) (kV ((d,v)::keep)):=by
 rw[nU];obtain⟨hd,hk⟩:=Prod.mk.inj hk;refine Y2 keep ha (aP hd) λy hy=>?_;have:=List.map_inj_left.1 hk y hy;simp only[cE,bne_iff_ne,ne_eq] at this;exact this
theorem mu {n:Nat}{env:Env}(keep:List (Nat×af))(ha:jR n a env)(h:(keep.map λx=>look env x.1)=(keep.map λx=>some ⟨x.1,[],x.2⟩):=by kernel_rfl):jR n a (kV keep):=
 HC keep ha (De h)
theorem CB {ops:Array aD}{N:Act->aa->Prop}{n:Nat}{env:Env}(i d:Nat)(t:ax)(x:aL)(s:ByteArray){w0:Orig}{S:iF}{rs:List o9}(keep:List (Nat×af))(ha:jR n a env)(H:Fr w0 w S rs)
  (ht:P.underlying t=some .string)
  (k:∀b a' w',Fr w0 w' S (.iter b s 0::rs)->jR n a' (kV ((d,.pointer (some ⟨b,0,none⟩))::keep))->Below w.heap.size w w'->w.heap.size<=b->N a' w')
  (h:QF ops i=some (.range t x,some d,none):=by kernel_rfl) (hx:getOp env [] x=some (.string s):=by kernel_rfl) (hk:sS n d env keep:=by delta sS;kernel_rfl):wpOp P ops Q i N a w:=by
 refine Ou h λo ho nU=>?_;have e:(execOp a.eval o).run P w= .ok (.value (.pointer (some ⟨w.heap.size,0,none⟩))) (w.iter s 0):=by
  simp only[execOp,ho,mB ha (λl hl=>by simp at hl) _ _ hx,aM,run_range_string w t s ht];rfl
 unfold Oper.wp;rw[e,alg];exact k w.heap.size _ _ (H.YZ s) (zC keep ha nU hk) (oJ _ _) (ay _)
theorem HF {ops:Array aD}{N:Act->aa->Prop}{n:Nat}{env:Env}{w0:Orig}{S:iF}{rs:List o9}(i d:Nat)(x:aL)(j b:Nat)(s:ByteArray)(pos:Nat)(keep:List (Nat×af))(ha:jR n a env)(H:Fr w0 w S rs)
  (hj:rs[j]?=some (.iter b s pos))
  (kt:pos<s.size->∀a' w',Fr w0 w' S (rs.set j (.iter b s (pos+(aJ s pos).2)))->jR n a' (kV ((d,.tuple #[.bool true,.int .i64 pos,.int .i32 (aJ s pos).1])::keep))->w.grownBy w' (some b)->N a' w')
  (kf:¬pos<s.size->∀a',jR n a' (kV ((d,.tuple #[.bool false])::keep))->N a' w)
  (h:QF ops i=some (.next x true,some d,none):=by kernel_rfl) (hx:getOp env [] x=some (.pointer (some ⟨b,0,none⟩)):=by kernel_rfl) (hk:sS n d env keep:=by delta sS;kernel_rfl):wpOp P ops Q i N a w:=by
 refine Ou h λo ho nU=>?_;have hit:=H.Om j hj;have afJ:∀ {v:af},jR n (a.put o.dst v) (kV ((d,v)::keep)):=by
  intro v;exact zC keep ha nU hk
 unfold Oper.wp
 by_cases hp:pos<s.size
 .have e:(execOp a.eval o).run P w= .ok (.value (.tuple #[.bool true,.int .i64 pos,.int .i32 (aJ s pos).1])) (w.iterAt b s (pos+(aJ s pos).2)):=by
   simp only[execOp,ho,mB ha (λl hl=>by simp at hl) _ _ hx,aM,Lib.run_next_any_at w b s pos o.type hit hp];rfl
  rw[e,alg];exact kt hp _ _ (H.next j hj _) afJ ⟨rfl,rfl,rfl,by rw[anI];exact ay _,λk hk mc=>anJ w b k s _ (λe=>mc (by rw[e]))⟩
 have e:(execOp a.eval o).run P w= .ok (.value (.tuple #[.bool false])) w:=by
  simp only[execOp,ho,mB ha (λl hl=>by simp at hl) _ _ hx,aM,Lib.run_next_end_at w b s pos o.type hit hp];rfl
 rw[e,alg];exact kf hp _ afJ
end
theorem nX (s:ByteArray)(pos:Nat)(h:pos<s.size):1<=(aJ s pos).2:=by
 by_cases ha:(s[pos]'h).toNat<128
 .rw[decode_ascii s pos h ha];exact ay _
 exact(decode_high s pos h (by omega)).2
section
variable {P:az}
theorem zD {t:ax}{s:ByteArray}{k k':dJ}{l h:Int}(ht:P.underlying t=some .string)(w:aa)(h0:0<=l)(h1:l<=h)(h2:h<=s.size):
  (cF t (.string s) (some (.int k l)) (some (.int k' h)) none).run P w= .ok (.string (s.extract l.toNat h.toNat)) w:=by
 have a:(amV (.int k' h) s.size .sliceAlen).run P w= .ok h.toNat w:=run_sliceBound _ _ _ _ _ (by omega) h2;have b:(amV (.int k l) h.toNat .sliceB).run P w= .ok l.toNat w:=run_sliceBound _ _ _ _ _ h0 (by omega);simp[cF,alr,run_underlying ht,als,a,b]
theorem BQ {t:ax}{s:ByteArray}{k:dJ}{l:Int}(ht:P.underlying t=some .string)(w:aa)(h0:0<=l)(h1:l<=s.size):
  (cF t (.string s) (some (.int k l)) none none).run P w= .ok (.string (s.extract l.toNat s.size)) w:=by
 have b:(amV (.int k l) s.size .sliceB).run P w= .ok l.toNat w:=run_sliceBound _ _ _ _ _ h0 h1;simp[cF,alr,run_underlying ht,als,b]
theorem Fr.drop {w0:Orig}{w:aa}{S:iF}{rs:List o9}(h:Fr w0 w S rs)(i:Nat):Fr w0 w S (rs.eraseIdx i) where
 below:=h.below
 src:=h.src
 nO:=h.nO
 ok r hr:=h.ok r (anT hr)
 own r hr:=h.own r (anT hr)
 nodup:=List.Nodup.sublist ((List.eraseIdx_sublist rs i).filterMap _) h.nodup
theorem Fr.perm {w0:Orig}{w:aa}{S:iF}{rs rs':List o9}(h:Fr w0 w S rs)(hp:rs.Perm rs'):Fr w0 w S rs' where
 below:=h.below
 src:=h.src
 nO:=h.nO
 ok r hr:=h.ok r (hp.mem_iff.2 hr)
 own r hr:=h.own r (hp.mem_iff.2 hr)
 nodup:=(hp.filterMap _).nodup_iff.1 h.nodup
theorem Fr.swap {w0:Orig}{w:aa}{S:iF}{a b:o9}{rs:List o9}(h:Fr w0 w S (a::b::rs)):Fr w0 w S (b::a::rs):=h.perm (anU b a rs)
theorem Fr.same {w0:Orig}{w:aa}{S:iF}{rs rs':List o9}(h:Fr w0 w S rs)(e:rs=rs'):Fr w0 w S rs':=e▸h
variable {B:Code}{p:List Nat}{Q:oa}{a:Act}{w:aa}
theorem acd {ops:Array aD}{N:Act->aa->Prop}{n:Nat}{env:Env}{w0:Orig}{S:iF}{rs:List o9}(i d:Nat)(t len:Nat)(parts:Array (Nat×aL))(e:ax)(Hy:List (Nat×af))(cs:List af)(keep:List (Nat×af))(ha:jR n a env)(H:Fr w0 w S rs)
  (k:∀b a' w',Fr w0 w' S (.box b e cs::rs)->jR n a' (kV ((d,.slice (some ⟨b,0,none⟩) len len)::keep))->Below w.heap.size w w'->w.heap.size<=b->N a' w')
  (h:QF ops i=some (.buildSlice t len parts,some d,none):=by kernel_rfl) (hv:parts.toList.mapM (λx=>(getOp env [] x.2).map λv=>(x.1,v))=some Hy:=by kernel_rfl)
  (jU:∀w:aa,(anV t len Hy.toArray).run P w= .ok (.slice (some ⟨w.heap.size,0,none⟩) len len) (w.alloc (.cells cs.toArray e)):=by intro w;kernel_rfl)
  (hk:sS n d env keep:=by delta sS;kernel_rfl):wpOp P ops Q i N a w:=by
 refine Ou h λo ho nU=>?_;have e1:parts.map (λx=>(x.1,a.eval x.2))=Hy.toArray:=by
  have:=C6 (ρ:=a.eval) (λx u hx=>mB ha (λl hl=>by simp at hl) x u hx) parts.toList Hy hv;rw[<-this];apply cr;rw[akP]
 have e2:(execOp a.eval o).run P w= .ok (.value (.slice (some ⟨w.heap.size,0,none⟩) len len)) (w.alloc (.cells cs.toArray e)):=by
  have:=jU w;rw[<-e1] at this;simp only[execOp,ho,aM];rw[show(Array.map (λx=>match x with|(i,x)=>(i,a.eval x)) parts)=parts.map (λx=>(x.1,a.eval x.2)) from rfl,this];rfl
 unfold Oper.wp;rw[e2,alg];exact k w.heap.size _ _ (H.ac8 cs e) (zC keep ha nU hk) (oJ _ _) (ay _)
theorem Ts {ops:Array aD}{N:Act->aa->Prop}{n:Nat}{env:Env}{t e:ax}{α:Type}[Data α]{bytes:Nat}{w0:Orig}{S:iF}{rs:List o9}(i d:Nat)(x y:aL)(j q b m c:Nat)(v:af)(l:List α)(news:List α)(cs:List af)(keep:List (Nat×af))(ha:jR n a env)(H:Fr w0 w S rs)
  (E:Fe P t e (Data.size α) bytes)
  (hj:rs[j]?=some (.row e v l)) (hq:rs[q]?=some (.box b e cs)) (nI:jP S w cs news) (hm:m=news.length)
  (hlen:l.length+news.length<=2147483647) (hb:bytes<=1000)
  (k:∀v' a' w',Fr w0 w' S (rs.set j (.row e v' (l++news)))->jR n a' (kV ((d,v')::keep))->w.grownBy w' v.ownBlock->N a' w')
  (h:QF ops i=some (.call {callee:=.builtin .append,args:= #[x,y],argTypes:= #[t,t]},some d,none):=by kernel_rfl) (hx:getOp env [] x=some v:=by kernel_rfl) (hy:getOp env [] y=some (.slice (some ⟨b,0,none⟩) m c):=by kernel_rfl)
  (hk:sS n d env keep:=by delta sS;kernel_rfl):wpOp P ops Q i N a w:=by
 subst hm;refine Ou h λo ho nU=>?_;have wM:nt a []:=λl hl=>by simp at hl
 have zE:w.heap[b]?=some (.cells cs.toArray e (0,0)):=H.ok _ (bO hq);have uu:∀r u,cs[r]?=some u->w.cell? ((⟨b,0,none⟩:bJ).add r)=some u:=by
  intro r u hu;have C5:(⟨b,0,none⟩:bJ).add r=⟨b,r,none⟩:=by unfold Addr.add;split<;>simp_all
  rw[C5,cell_of_row _ _ _ _ _ _ zE];simpa using hu
 obtain⟨v',w',hr,hf,hG⟩:=H.push (P:=P) (ty:=o.type) E j hj ⟨b,0,none⟩ c news cs nI uu (by simp only[maxLen];omega) (by have:=Nat.mul_le_mul hlen hb;omega);unfold Oper.wp execOp;simp only[ho,resolve,invoke,builtin,aM,bF,bY,alv,bn,b9,mB ha wM _ _ hx,mB ha wM _ _ hy,hr];exact k v' _ w' hf (zC keep ha nU hk) hG
end
class Flat (α:Type) extends Data α where
 enc:α->List af
 fix:∀ {S w cs a},toData.rd S w cs a->cs=enc a
instance:Flat Int:={(inferInstance:Data Int) with enc:=λn=>[.int .i64 n],fix:=λh=>h}
instance:Flat Bool:={(inferInstance:Data Bool) with enc:=λn=>[.bool n],fix:=λh=>h}
instance:Flat ByteArray:={(inferInstance:Data ByteArray) with enc:=λn=>[.string n],fix:=λh=>h}
instance {α β:Type} [Flat α] [Flat β]:Flat (α×β):=
 {(inferInstance:Data (α×β)) with
  enc:=λx=>Flat.enc x.1++Flat.enc x.2
  fix:=by rintro S w cs a ⟨c1,c2,rfl,h1,h2⟩;rw[Flat.fix h1,Flat.fix h2]}
abbrev FW (o:Orig)(R:iF->af->aa->Prop):dx->aa->Prop:=λe w'=> ∃v,e= .returned v/\R (wX o w') v w'/\Below o.w.heap.size o.w w'
section
variable {P:az}{Q:oa}{a:Act}{w:aa}
end
open Go.ChangeAt Go.ChangeShapes Go.WideShapes
theorem Tryz.own:ownKnob Tryz.prog.godebug=none:=by kernel_rfl
theorem Tryz.laidOut:laidOutB aq=true:=by kernel_rfl
theorem Fg {H:Type}{enc:ax×af->H}{P:az}{f:Func}{s:ChangeSpec}{apart fresh handsOn:Bool}{W W':aa}{args:Array af}{v:af}{ds gs:List (DataW H)}{before pa pv:List MemPlace}
  (hW:DataW.Whole enc P f.params.toList s.vars apart W args.toList ds gs before)
  (vA:∀(b:Nat) (sp:Nat->Bool) (hd:Bool),anW enc P W' b sp hd f.resultTypes.toList (v.resultList f.resultTypes.size) (s.fn H (ds++gs)).results [])
  (lC:anW enc P W' 0 (λb=>decide (b<W.heap.size)) true f.params.toList args.toList (s.fn H (ds++gs)).args pa)
  (afK:DataW.TrodVars enc P W' (λb=>decide (b<W.heap.size)) s.vars (s.fn H (ds++gs)).vars pv)
  (JV:before=pa++pv) (hb:Below W.heap.size W W'):s.post enc P f apart fresh handsOn false W args v W':=by
 refine⟨ds,gs,before,[],pa,pv,hW,vA _ _ _,lC,afK,World.keptBut_mono (λp hp=>⟨hp,?_⟩) (hb.frame (· ∈before)),λh=>by cases h⟩;rw[JV,aI] at hp;exact Or.inr hp
theorem wf_i64 {n:Int}(h:(alw .i64 n).wf=true): -9223372036854775808<=n/\n<=9223372036854775807:=by
 simpa[Lit.wf,ama,alJ,amO,amP] using h
theorem adh {P:az}{ats:Array ax}{k:dJ}{a b:Int}(ty:ax)(w:aa):(al4 ats ty [.int k a,.int k b].toArray).run P w= .ok (.int k (max a b)) w:=by
 have e:(if b>a then b else a)=max a b:=by split<;>omega
 simp[al4,Builtin.max2,e]
theorem adi {P:az}{ats:Array ax}{k:dJ}{a b:Int}(ty:ax)(w:aa):(al5 ats ty [.int k a,.int k b].toArray).run P w= .ok (.int k (min a b)) w:=by
 have e:(if b<a then b else a)=min a b:=by split<;>omega
 simp[al5,Builtin.min2,e]
theorem Y4 {a:Int}{n:Nat}(h:1<=n):0<=(1:Int)/\a.fdiv (2 ^ (min (1:Int).toNat n))=a/2:=by
 refine⟨by decide,?_⟩;rw[show min (1:Int).toNat n=1 by omega];exact Int.fdiv_eq_ediv_of_nonneg a (by decide)
theorem adk {w:aa}{o:Orig}{S:iF}{rs:List o9}(H:Fr o w S rs)(j:Nat){b:Nat}{t:ax}{vs:List af}(hj:rs[j]?=some (.box b t vs)):
  ∀w',On w w'->w'.heap[b]?=some (.cells vs.toArray t (0,0)):=by
 intro w' zm;have h:w.heap[b]?=some (.cells vs.toArray t (0,0)):=H.ok _ (bO hj);rw[zm.block b (H.own _ (bO hj) b rfl).2.1];exact h
theorem zF {w:aa}{o:Orig}{S:iF}{rs:List o9}(H:Fr o w S rs)(j:Nat){b:Nat}{t:ax}{vs:List af}(hj:rs[j]?=some (.box b t vs))(i:Nat){u:af}(hu:vs[i]?=some u:=by kernel_rfl):vz (On w) b i u:=by
 intro w' zm;rw[cell_of_row w' b i _ t _ (adk H j hj w' zm)];simpa using hu
section
variable {P:az}{Q:oa}{a:Act}{w:aa}
theorem wu (w:aa)(t e:ax)(b o:Nat)(vs us:List af)(u:af)(hb:w.heap[b]?=some (.cells vs.toArray e (0,0)))(hc:u.cells.toList=us)(ho:o+us.length<=vs.length)
  (m9:(P.info? t).map (·.size)=some us.length) (h1:∀v∈us,v.oneCell'=true):
  (amb t (.pointer (some ⟨b,o,none⟩)) u).run P w= .ok () (w.setRow b (vs.take o++us++vs.drop (o+us.length)).toArray):=by
 obtain⟨i,hi,hs⟩:=aZ.1 m9;have j4:u.cells.size=us.length:=by rw[<-hc,cz]
 have QH:P.cellsOf t=us.length:=by simp[alK,hi,hs]
 have:=run_storeCells_at (P:=P) b o e us 0 vs.toArray w hb (by simpa using ho) h1;simp only[dS] at this;simp only[amb,alL,storeVar,aM,bF,bY,run_sizeOf w hi,hs,j4,QH,ne_eq,not_true_eq_false,if_false,hc];exact this
end
def But (w:aa)(m:Option Nat)(w':aa):Prop:=w.heap.size<=w'.heap.size/\∀k,k<w.heap.size->some k≠m->w'.heap[k]?=w.heap[k]?
theorem But.refl (w:aa)(m:Option Nat):But w m w:=⟨ay _,λ_ _ _=>rfl⟩
theorem But.below {w w1 w2:aa}{m:Option Nat}(h:But w m w1)(hb:Below w1.heap.size w1 w2):But w m w2:=
 ⟨aU h.1 hb.size,λk hk hm=>(hb.block k (bf hk h.1)).trans (h.2 k hk hm)⟩
section
variable {P:az}{ops:Array aD}{Q:Exit->Act->aa->Prop}{D:aa->Prop}
def Mix (P:az)(ops:Array aD)(Q:Exit->Act->aa->Prop)(D:aa->Prop)(hd:List Nat):Nat->Array Bool->Act->aa->Prop
 |0,listed,a,w=>alP .any ops listed=[]/\Q .normal a w
 |n+1,listed,a,w=>(alP .any ops listed=[]->Q .normal a w)/\
  ∀i∈alP .any ops listed,wpOp P ops Q i (λa' w'=>(i∈hd->D w')/\Mix P ops Q D hd n (listed.setIfInBounds i true) a' w') a w
theorem Mix.any {hd:List Nat}:∀(n:Nat) (listed:Array Bool) (a:Act) (w:aa),Mix P ops Q D hd n listed a w->wpAny P .any ops Q n listed a w
 |0,_,_,_,h=>h
 |n+1,_,_,_,h=>⟨h.1,λi hi=>wpOp_mono (λa' w' q=>Mix.any n _ a' w' q.2) (h.2 i hi)⟩
end
section
variable {P:az}{B:Code}{p:List Nat}{Q:Exit->Act->aa->Prop}{a:Act}{w:aa}
end
abbrev Old (o:Orig)(S:iF):iF:=λk=>k<o.w.heap.size\/S k
theorem Fr.old {o:Orig}{w:aa}{S:iF}{rs:List o9}(H:Fr o w S rs){k:Nat}(h:Old o S k):k<w.heap.size:=by
 rcases h with h|h
 .exact bf h H.below.size
 exact H.nO k h
theorem FX {α:Type}[Data α]{T:iF}{C:aa->Prop}{w:aa}{v:af}{l:List α}(hC:∀w',C w'->kN T w w')(h:Rd T w v l){i:Int}(h0:0<=i)(h1:i<(l.length:Int))(d:α):
  ∃cs,Data.rd T w cs (l.getD i.toNat d)/\∀j,j<Data.size α->∀w',C w'->w'.cell? ⟨Mt v,Mu v+i.toNat*Data.size α+j,none⟩=cs[j]?:=by
 obtain⟨p,c,rfl,_,_,h3⟩:=jZ h;rcases h3 with rfl|⟨g,off,cur,t,fz,rfl,hg,hw,hc⟩
 .simp at h1;omega
 have hi:i.toNat<l.length:=by omega
 obtain⟨cs,hr,hj⟩:=hc i.toNat hi;refine⟨cs,?_,λj QG w' zm=>?_⟩
 .rw[aH,aR hi];exact hr
 show w'.cell? ⟨g,off+i.toNat*Data.size α+j,none⟩=_;rw[cell_of_row w' g _ cur t fz ((hC w' zm g hg).trans hw)];exact hj j QG
section
variable {P:az}{Q:Exit->Act->aa->Prop}{a:Act}{w:aa}
end
section
variable {P:az}{Q:oa}{a:Act}{w:aa}
end
theorem ML {α:Type}[Data α]{S:iF}{w:aa}:Rd S w (.slice none 0 0) ([]:List α):=
 qo ⟨none,0,rfl,by simp,by simp[maxLen],.inl rfl⟩
section
variable {P:az}{Q:oa}{a:Act}{w:aa}
end
def p7 (P:az)(t:ax){α:Type}[Data α](ok:α->Prop):Prop:=
 ∀ {H:Type} {enc:ax×af->H} {w:aa} {base:Nat} {sp:Nat->Bool} {hd:Bool} {fuel:Nat} {cs:List af} {x:DataW H×List MemPlace},
  DataW.trod enc P w base sp hd fuel t cs=some x->∃a:α,Data.rd (· <w.heap.size) w cs a/\ok a
def aiD (n:Int):Prop:= -9223372036854775808<=n/\n<=9223372036854775807
theorem p8 {P:az}{t:ax}(ht:P.underlying t=some (.int .i64)):p7 P t aiD:=by
 intro H enc w base sp hd fuel cs x h;obtain⟨n,rfl,_,hw⟩:=DataW.trod_int ht h;exact⟨n,rfl,wf_i64 hw⟩
theorem Dg {P:az}{t:ax}{f0 f1:Field}{α β:Type}[Data α][Data β]{ok0:α->Prop}{ok1:β->Prop}(ht:P.underlying t=some (.struct #[f0,f1]))(h0:p7 P f0.type ok0)(h1:p7 P f1.type ok1)
  (o0:f0.offset=0) (o1:f1.offset=Data.size α) (c0:P.cellsOf f0.type=Data.size α) (c1:P.cellsOf f1.type=Data.size β) (ct:P.cellsOf t=Data.size α+Data.size β):p7 P t (α:=α×β) λx=>ok0 x.1/\ok1 x.2:=by
 intro H enc w base sp hd fuel cs x h;obtain⟨xs,n,_,_,j4,YG,hf⟩:=amW ht h
 match xs,YG with
 |[y0,y1],_=>
  have g0:=hf 0 f0 rfl;have g1:=hf 1 f1 rfl;rw[o0,c0,aky] at g0;rw[o1,c1] at g1;obtain⟨a,ra,ka⟩:=h0 (x:=y0) g0;obtain⟨b,rb,kb⟩:=h1 (x:=y1) g1;refine⟨(a,b),⟨_,_,?_,ra,rb⟩,ka,kb⟩;have e1:(cs.drop (Data.size α)).take (Data.size β)=cs.drop (Data.size α):=cM (by rw[bw,j4,ct];omega);rw[e1,dO]
theorem nM {P:az}{t e:ax}{α:Type}[Data α]{ok:α->Prop}(ht:P.underlying t=some (.slice e))(h:p7 P e ok)(hc:P.cellsOf e=Data.size α)(hp:0<Data.size α):p7 P t (α:=List α) λl=> ∀a∈l,ok a:=by
 intro H enc w base sp hd fuel cs x hx;rcases Go.Deep.open_slice ht hx with⟨rfl,_⟩|⟨a,len,cap,m,n,D,Pl,rfl,hb,hl,hm,Dh,rfl,hel⟩
 .exact⟨[],⟨_,rfl,none,0,rfl,by simp,by simp[maxLen],.inl rfl⟩,by simp⟩
 have hlm:len<=m:=by rw[Dh];split<;>omega
 have each:∀i:Fin len,∃y:α,∃AK:List af,(∀j,j<Data.size α->w.cell? ((a.add (i.val*Data.size α)).add j)=AK[j]?)/\AK.length=Data.size α/\Data.rd (· <w.heap.size) w AK y/\ok y:=by
  intro i;obtain⟨AK,h1,h2⟩:=hel i.val (by omega);rw[hc] at h1;obtain⟨_,hlen,qP⟩:=World.cells?_some h1;obtain⟨y,ry,ky⟩:=h h2;exact⟨y,AK,qP,hlen,ry,ky⟩
 refine⟨List.ofFn λi=>amS (each i),⟨_,rfl,some a,cap,by rw[amX],by rw[amX];exact hl,hm,?_⟩,λy hy=>?_⟩
 .by_cases h0:len=0
  .left;subst h0;rfl
  right;obtain⟨cs0,k1,k2,_⟩:=alN (each ⟨0,by omega⟩);have k0:=k1 0 hp;rw[Go.Deep.add_add,aR (by omega)] at k0;have e0:a.add (0*Data.size α+0)=a:=by simp[Addr.add]
  simp only[e0] at k0;obtain⟨g,off,spot⟩:=a;unfold World.cell? at k0;simp only at k0;split at k0
  .rename_i cur ty fz Tt;split at k0
   .cases k0
   rename_i hs;have hsp:spot=none:=by cases spot<;>simp_all
   subst hsp;refine⟨g,off,cur,ty,fz,rfl,(cI.1 Tt).1,Tt,λi hi=>?_⟩;rw[amX] at hi;obtain⟨AK,k1,k2,k3,_⟩:=alN (each ⟨i,hi⟩);refine⟨AK,by rw[List.getElem_ofFn];exact k3,λj hj=>?_⟩;rw[<-k1 j hj,Go.Deep.add_add];have C5:(⟨g,off,none⟩:bJ).add (i*Data.size α+j)=⟨g,off+(i*Data.size α+j),none⟩:=by unfold Addr.add;split<;>simp_all
   rw[C5,cell_of_row w g _ cur ty fz Tt,cJ]
  cases k0
 obtain⟨i,rfl⟩:=List.mem_ofFn.1 hy;obtain⟨AK,_,_,_,k4⟩:=alN (each i);exact k4
theorem MM {P:az}{t:ax}{fs:Array Field}{α:Type}[Data α]{ok:α->Prop}(ho:p7 P t ok)(ht:P.underlying t=some (.struct fs)){H:Type}{enc:ax×af->H}{W:aa}{b0:Nat}{sp:Nat->Bool}{hd:Bool}{v:af}{d:DataW H}{ps:List MemPlace}
  (zG:anX P W .any b0 t v) (h:anY enc P W 0 sp hd t v d ps):∃(cs:List af) (a:α),v= .agg cs.toArray/\Data.rd (· <W.heap.size) W cs a/\ok a:=by
 obtain⟨cs,rfl,_⟩:=okWide_struct ht zG;have⟨fuel,hx⟩:=h;obtain⟨a,ha,hk⟩:=ho hx;exact⟨cs.toList,a,rfl,ha,hk⟩
section
variable {H:Type}{enc:ax×af->H}{P:az}{w:aa}{base:Nat}{spare:Nat->Bool}{held:Bool}
end
theorem Y5 {P:az}{t:ax}{fs:Array Field}{α:Type}[Data α]{ok:α->Prop}(ho:p7 P t ok)(ht:P.underlying t=some (.struct fs))(ha:Data.isAgg α=true){H:Type}{enc:ax×af->H}{W:aa}{b0:Nat}{sp:Nat->Bool}{hd:Bool}{v:af}{d:DataW H}{ps:List MemPlace}
  (zG:anX P W .any b0 t v) (h:anY enc P W 0 sp hd t v d ps):∃a:α,Rd (· <W.heap.size) W v a/\ok a:=by
 obtain⟨cs,a,rfl,hr,hk⟩:=MM ho ht zG h;exact⟨a,⟨cs,hr,by rw[ak ha]⟩,hk⟩
theorem JW (cs:List af)(a b:Nat):cs.drop a=(cs.drop a).take b++cs.drop (a+b):=by rw[<-alO,dO]
theorem FY {P:az}{t:ax}(ht:P.underlying t=some .string):p7 P t (α:=ByteArray) λ_=>True:=by
 intro H enc w base sp hd fuel cs x h;obtain⟨s,rfl,_,_⟩:=DataW.trod_string ht h;exact⟨s,rfl,tv⟩
theorem MN {P:az}{t:ax}{f0 f1 f2 f3:Field}{α β γ δ:Type}[Data α][Data β][Data γ][Data δ]{ok0:α->Prop}{ok1:β->Prop}{ok2:γ->Prop}{ok3:δ->Prop}(ht:P.underlying t=some (.struct #[f0,f1,f2,f3]))(h0:p7 P f0.type ok0)(h1:p7 P f1.type ok1)(h2:p7 P f2.type ok2)(h3:p7 P f3.type ok3)
  (o0:f0.offset=0) (o1:f1.offset=Data.size α) (o2:f2.offset=Data.size α+Data.size β) (o3:f3.offset=Data.size α+Data.size β+Data.size γ) (c0:P.cellsOf f0.type=Data.size α) (c1:P.cellsOf f1.type=Data.size β) (c2:P.cellsOf f2.type=Data.size γ) (c3:P.cellsOf f3.type=Data.size δ)
  (ct:P.cellsOf t=Data.size α+Data.size β+Data.size γ+Data.size δ):p7 P t (α:=α×(β×(γ×δ))) λx=>ok0 x.1/\ok1 x.2.1/\ok2 x.2.2.1/\ok3 x.2.2.2:=by
 intro H enc w base sp hd fuel cs x h;obtain⟨xs,n,_,_,j4,YG,hf⟩:=amW ht h
 match xs,YG with
 |[y0,y1,y2,y3],_=>
  have g0:=hf 0 f0 rfl;have g1:=hf 1 f1 rfl;have g2:=hf 2 f2 rfl;have g3:=hf 3 f3 rfl;rw[o0,c0,aky] at g0;rw[o1,c1] at g1;rw[o2,c2] at g2;rw[o3,c3] at g3;obtain⟨a,ra,ka⟩:=h0 (x:=y0) g0;obtain⟨b,rb,kb⟩:=h1 (x:=y1) g1;obtain⟨c,rc,kc⟩:=h2 (x:=y2) g2;obtain⟨d,rd,kd⟩:=h3 (x:=y3) g3;refine⟨(a,b,c,d),⟨_,cs.drop (Data.size α),(dO _ _).symm,ra,⟨_,cs.drop (Data.size α+Data.size β),?_,rb,⟨_,_,?_,rc,rd⟩⟩⟩,ka,kb,kc,kd⟩
  .exact JW _ _ _
  have e1:(cs.drop (Data.size α+Data.size β+Data.size γ)).take (Data.size δ)=cs.drop (Data.size α+Data.size β+Data.size γ):=cM (by rw[bw,j4,ct];omega);rw[e1];exact JW _ _ _
theorem MO {P:az}{t:ax}{f0 f1 f2 f3 f4:Field}{α β γ δ ε:Type}[Data α][Data β][Data γ][Data δ][Data ε]{ok0:α->Prop}{ok1:β->Prop}{ok2:γ->Prop}{ok3:δ->Prop}{ok4:ε->Prop}(ht:P.underlying t=some (.struct #[f0,f1,f2,f3,f4]))(h0:p7 P f0.type ok0)(h1:p7 P f1.type ok1)(h2:p7 P f2.type ok2)(h3:p7 P f3.type ok3)(h4:p7 P f4.type ok4)
  (o0:f0.offset=0) (o1:f1.offset=Data.size α) (o2:f2.offset=Data.size α+Data.size β) (o3:f3.offset=Data.size α+Data.size β+Data.size γ) (o4:f4.offset=Data.size α+Data.size β+Data.size γ+Data.size δ) (c0:P.cellsOf f0.type=Data.size α) (c1:P.cellsOf f1.type=Data.size β) (c2:P.cellsOf f2.type=Data.size γ) (c3:P.cellsOf f3.type=Data.size δ) (c4:P.cellsOf f4.type=Data.size ε)
  (ct:P.cellsOf t=Data.size α+Data.size β+Data.size γ+Data.size δ+Data.size ε):p7 P t (α:=α×(β×(γ×(δ×ε)))) λx=>ok0 x.1/\ok1 x.2.1/\ok2 x.2.2.1/\ok3 x.2.2.2.1/\ok4 x.2.2.2.2:=by
 intro H enc w base sp hd fuel cs x h;obtain⟨xs,n,_,_,j4,YG,hf⟩:=amW ht h
 match xs,YG with
 |[y0,y1,y2,y3,y4],_=>
  have g0:=hf 0 f0 rfl;have g1:=hf 1 f1 rfl;have g2:=hf 2 f2 rfl;have g3:=hf 3 f3 rfl;have g4:=hf 4 f4 rfl;rw[o0,c0,aky] at g0;rw[o1,c1] at g1;rw[o2,c2] at g2;rw[o3,c3] at g3;rw[o4,c4] at g4;obtain⟨a,ra,ka⟩:=h0 (x:=y0) g0;obtain⟨b,rb,kb⟩:=h1 (x:=y1) g1;obtain⟨c,rc,kc⟩:=h2 (x:=y2) g2;obtain⟨d,rd,kd⟩:=h3 (x:=y3) g3;obtain⟨e,re,ke⟩:=h4 (x:=y4) g4;refine⟨(a,b,c,d,e),⟨_,cs.drop (Data.size α),(dO _ _).symm,ra,⟨_,cs.drop (Data.size α+Data.size β),?_,rb,⟨_,cs.drop (Data.size α+Data.size β+Data.size γ),?_,rc,⟨_,_,?_,rd,re⟩⟩⟩⟩,ka,kb,kc,kd,ke⟩
  .exact JW _ _ _
  .exact JW _ _ _
  have e1:(cs.drop (Data.size α+Data.size β+Data.size γ+Data.size δ)).take (Data.size ε)=cs.drop (Data.size α+Data.size β+Data.size γ+Data.size δ):=cM (by rw[bw,j4,ct];omega);rw[e1];exact JW _ _ _
section
variable {P:az}{Q:Exit->Act->aa->Prop}{a:Act}{w:aa}
end
theorem JX {P:az}{fn:Func}{R:dx->aa->Prop}{n:Nat}{env:Env}{a:Act}{w:aa}(ha:jR n a env)(k:R (.returned (.tuple #[])) w)(hr:fn.results= #[]:=by kernel_rfl):bodyPost P fn R .ret a w:=by
 refine bodyPost_ret (v:=.tuple #[]) ?_ ha.2.1 k;simp[results,hr]
theorem AV {P:az}{fn:Func}{R:dx->aa->Prop}{n:Nat}{env:Env}{a:Act}{w:aa}(ha:jR n a env)(k:R (.returned (.tuple #[])) w)(hr:fn.results= #[]:=by kernel_rfl):bodyPost P fn R .normal a w:=by
 have:=JX (P:=P) ha k hr;exact this
def Rv (v:af):Option (DataW af×List MemPlace):=some (.held v,[])
def wfI (x:Int):Prop:= -9223372036854775808<=x/\x<=9223372036854775807
theorem afL {x:Int}(h:wfI x):(alw .i64 x).wf=true:=by
 have:=h.1;have:=h.2;simp only[Lit.wf,ama,alJ,amO,amP];simp;omega
section
variable {P:az}{B:Code}{p:List Nat}{Q:oa}{a:Act}{w:aa}
end
section
variable {P:az}{Q:Exit->Act->aa->Prop}{a:Act}{w:aa}
end
structure Raw where
 v:af
instance:Data Raw where
 size:=1
 isAgg:=false
 rd _ _ cs x:=cs=[x.v]/\x.v.oneCell'=true
 len h:=by rw[h.1];rfl
 up _ h:=h
 keep _ h:=h
 one h u hu:=by rw[h.1] at hu;simp at hu;subst hu;exact h.2
section
variable {P:az}{o:Orig}{w:aa}{S:iF}{rs:List o9}{kt et t:ax}
end
section
variable {P:az}{Q:Exit->Act->aa->Prop}{a:Act}{w:aa}
end
section
variable {P:az}{Q:Exit->Act->aa->Prop}{a:Act}{w:aa}
end
section
variable {P:az}{Q:oa}{a:Act}{w:aa}
end
def adl (w:aa)(ms:List Nat)(w':aa):Prop:=w.heap.size<=w'.heap.size/\∀k,k<w.heap.size->k∉ms->w'.heap[k]?=w.heap[k]?
theorem adl.below {w w1 w2:aa}{ms:List Nat}(h:adl w ms w1)(hb:Below w1.heap.size w1 w2):adl w ms w2:=
 ⟨aU h.1 hb.size,λk hk hm=>(hb.block k (bf hk h.1)).trans (h.2 k hk hm)⟩
inductive Kc where
 |int
 |str
def jw:Kc->Type
 | .int=>Int
 | .str=>ByteArray
instance aki:(k:Kc)->DecidableEq (jw k)
 | .int=>(inferInstance:DecidableEq Int)
 | .str=>(inferInstance:DecidableEq ByteArray)
def nJ:(k:Kc)->jw k->af
 | .int,n=>.int .i64 n
 | .str,s=>.string s
def kY:(k:Kc)->jw k->Lit
 | .int,n=>.int .i64 n
 | .str,s=>.string s.data.toList
def pq:Kc->TypeDesc
 | .int=>.int .i64
 | .str=>.string
def lY:(k:Kc)->jw k->Prop
 | .int,n=>wfI n
 | .str,s=>ByteArray.size s<=maxLen
def ilt (a b:Int):Bool:=decide (a<b)
def Tu:(k:Kc)->jw k->jw k->Bool
 | .int,a,b=>ilt a b
 | .str,a,b=>bytesBefore a.data.toList b.data.toList
theorem Tv:∀(k:Kc) (a b:jw k),(kY k a).before (kY k b)=Tu k a b
 | .int,_,_=>rfl
 | .str,_,_=>rfl
theorem JY:∀(k:Kc) {a b:jw k},kY k a=kY k b->a=b
 | .int,a,b,h=>by cases h;rfl
 | .str,a,b,h=>by
  have h:an0 a.data.toList= .string b.data.toList:=h;have h2:=ao7 h;obtain⟨⟨a⟩⟩:=a;obtain⟨⟨b⟩⟩:=b;have h2:a=b:=h2;subst h2;rfl
theorem xU (k:Kc)(a b:jw k):(kY k a).sameKey (kY k b)=decide (a=b):=by
 by_cases e:a=b
 .subst e;rw[bN rfl];cases k
  .have h:∀n:Int,(alw .i64 n).sameKey (.int .i64 n)=true:=λn=>by simp[Lit.sameKey]
   exact h a
  exact beq_self_eq_true _
 rw[bG e];exact an1.2 λq=>e (JY k (WideAt.sameKey_eq q))
def Fh:Kc->af->Option Lit
 | .int,.int q n=>if q= .i64/\(alw .i64 n).wf=true then some (.int .i64 n) else none
 | .str,.string s=>if s.size<=maxLen then some (.string s.data.toList) else none
 |_,_=>none
section
variable {P P':az}{kt JA et t:ax}{k:Kc}
theorem xV (h:P.underlying kt=some (pq k)):keyOf P kt=Fh k:=by
 funext v;cases k
 .have h:P.underlying kt=some (.int .i64):=h;cases v<;>simp[keyOf,mapKey,h,Fh]
 have h:P.underlying kt=some .string:=h;cases v<;>simp[keyOf,mapKey,h,Fh]
theorem vB (h:P.underlying kt=some (pq k)):Maps.Keyed P kt:=by
 cases k
 .exact Maps.int_keyed h
 exact Maps.string_keyed h
theorem vC (h:P.underlying kt=some (pq k)){x:jw k}(hw:lY k x):keyOf P kt (nJ k x)=some (kY k x):=by
 rw[xV h];cases k
 .have h:∀n:Int,wfI n->Fh .int (.int .i64 n)=some (.int .i64 n):=λn hn=>by unfold Fh;exact ak ⟨rfl,afL hn⟩
  exact h x hw
 have h:∀s:ByteArray,s.size<=maxLen->Fh .str (.string s)=some (.string s.data.toList):=λn hn=>by unfold Fh;exact ak hn
 exact h x hw
theorem Tw {v:af}{l:Lit}(h:Fh k v=some l):∃x:jw k,v=nJ k x/\l=kY k x/\lY k x:=by
 cases k
 .have key:∀v:af,Fh .int v=some l->∃n:Int,v= .int .i64 n/\l= .int .i64 n/\wfI n:=by
   intro v h;cases v with
   |int q n=>
    have h:(if q= .i64/\(alw .i64 n).wf=true then some (alw .i64 n) else none)=some l:=h;split at h
    .rename_i hq;cases h;obtain⟨rfl,hw⟩:=hq;refine⟨n,rfl,rfl,?_⟩;have hw:(decide (ama .i64<=n) && decide (n<=alJ .i64))=true:=hw;simp only[aQ,decide_eq_true_eq] at hw;have h1:ama .i64= -9223372036854775808:=by decide
     have h2:alJ .i64=9223372036854775807:=by decide
     rw[h1,h2] at hw;exact hw
    cases h
   |_=>cases h
  exact key v h
 have key:∀v:af,Fh .str v=some l->∃s:ByteArray,v= .string s/\l= .string s.data.toList/\s.size<=maxLen:=by
  intro v h;cases v with
  |string s=>
   have h:(if s.size<=maxLen then some (an0 s.data.toList) else none)=some l:=h;split at h
   .rename_i hq;cases h;exact⟨s,rfl,rfl,hq⟩
   cases h
  |_=>cases h
 exact key v h
end
section
variable {k:Kc}{α β:Type}
def iB (l:List (jw k×α))(x:jw k):Option α:=(l.find? λp=>decide (p.1=x)).map (·.2)
def ox (l:List (jw k×α))(x:jw k):List (jw k×α):=l.filter λp=>!decide (p.1=x)
def qd (p:jw k×α):List (jw k×α)->List (jw k×α)
 |[]=>[p]
 |y::r=>if Tu k p.1 y.1 then p::y::r else y::qd p r
def mj (l:List (jw k×α))(x:jw k)(v:α):List (jw k×α):=qd (x,v) (ox l x)
def qp (l:List (jw k×af)):DataW af:=.map (l.map λp=>(kY k p.1,.held p.2))
theorem JZ (p:jw k×af):∀l:List (jw k×af),(qd p l).map (λp=>(kY k p.1,akS p.2))=amY (kY k p.1,.held p.2) (l.map λp=>(kY k p.1,akS p.2))
 |[]=>rfl
 |y::r=>by
  simp only[qd,bn,amY,Tv];split
  .rfl
  rw[bn,JZ p r]
theorem Ox (l:List (jw k×af))(x:jw k):(qp l).del (kY k x)=qp (ox l x):=by
 unfold qp DataW.del ox;simp only[an2]
 congr 2
 refine List.filter_congr λp _=>?_;simp only[Function.comp_apply,xU]
theorem Y6 (l:List (jw k×af))(x:jw k)(v:af):(qp l).put (kY k x) (.held v)=qp (mj l x v):=by
 have h:(qp l).put (kY k x) (.held v)= .map (amY (kY k x,.held v) ((l.map λp=>(kY k p.1,akS p.2)).filter λp=>!p.1.sameKey (kY k x))):=rfl;have h2:(qp l).del (kY k x)= .map ((l.map λp=>(kY k p.1,akS p.2)).filter λp=>!p.1.sameKey (kY k x)):=rfl;rw[Ox] at h2;have h3:=ao8 h2;rw[h,<-h3];exact aG DataW.map (JZ (x,v) (ox l x)).symm
theorem MP (l:List (jw k×af))(x:jw k)(z:DataW af):(qp l).atKey (kY k x) z=match iB l x with|some v=>.held v|none=>z:=by
 unfold qp iB DataW.atKey;simp only[an4];have:((λp:Lit×DataW af=>p.1.sameKey (kY k x))∘λp:jw k×af=>(kY k p.1,akS p.2))=λp=>decide (p.1=x):=by
  funext p;exact xU k _ _
 rw[this];cases l.find? λp=>decide (p.1=x)<;>rfl
theorem Oy (l:List (jw k×af))(x:jw k):an5 (qp l) (kY k x)=(iB l x).isSome:=by
 unfold qp iB an5;simp only[List.any_map,Option.isSome_map,List.find?_isSome];rw[Bool.eq_iff_iff];simp[xU]
theorem Di (p:jw k×α):∀l:List (jw k×α),(qd p l).length=l.length+1
 |[]=>rfl
 |y::r=>by unfold qd;split<;>simp[Di p r]
theorem sU (l:List (jw k×α))(x:jw k)(v:α):(mj l x v).length<=l.length+1:=by
 unfold mj ox;rw[Di];exact Nat.succ_le_succ (amc _ _)
theorem J0 (l:List (jw k×α))(x:jw k):(ox l x).length<=l.length:=amc _ _
theorem J1 (f:α->β)(p:jw k×α):∀l:List (jw k×α),(qd p l).map (λq=>(q.1,f q.2))=qd (p.1,f p.2) (l.map λq=>(q.1,f q.2))
 |[]=>rfl
 |y::r=>by
  simp only[qd,bn];split;· rfl
  .rw[bn,J1 f p r]
theorem Dj (f:α->β)(l:List (jw k×α))(x:jw k):(ox l x).map (λq=>(q.1,f q.2))=ox (l.map λq=>(q.1,f q.2)) x:=by
 unfold ox;rw[an2];rfl
theorem rN (f:α->β)(l:List (jw k×α))(x:jw k)(v:α):(mj l x v).map (λq=>(q.1,f q.2))=mj (l.map λq=>(q.1,f q.2)) x (f v):=by
 unfold mj;rw[J1,Dj]
theorem nv (f:α->β)(l:List (jw k×α))(x:jw k):iB (l.map λq=>(q.1,f q.2)) x=(iB l x).map f:=by
 unfold iB;rw[an4];show an6 _ (an6 _ (l.find? λp=>decide (p.1=x)))=_;cases l.find? λp=>decide (p.1=x)<;>rfl
theorem zH {p q:jw k×α}:∀ {l:List (jw k×α)},q∈qd p l↔q=p\/q∈l
 |[]=>by simp[qd]
 |y::r=>by
  unfold qd;split
  .simp
  simp only[aC,zH (l:=r)];constructor
  .rintro(h|h|h)
   .exact .inr (.inl h)
   .exact .inl h
   exact .inr (.inr h)
  rintro(h|h|h)
  .exact .inr (.inl h)
  .exact .inl h
  exact .inr (.inr h)
theorem wZ {l:List (jw k×α)}{x:jw k}{v:α}{q:jw k×α}:q∈mj l x v↔q=(x,v)\/q∈l/\q.1≠x:=by
 unfold mj ox;rw[zH];simp
theorem oK {l:List (jw k×α)}{x:jw k}{v:α}(h:iB l x=some v):(x,v)∈l:=by
 unfold iB at h;obtain⟨p,h1,h2⟩:=aZ.1 h;have:=al6 h1;have e:p.1=x:=by simpa using this
 subst e;subst h2;exact anP h1
theorem yM {l:List (jw k×α)}{x:jw k}:iB l x=none↔∀v,(x,v)∉l:=by
 unfold iB;rw[alM,List.find?_eq_none];constructor
 .intro h v hm;have:=h _ hm;simp at this
 intro h p hp q;have e:p.1=x:=by simpa using q
 exact h p.2 (by rw[<-e];exact hp)
theorem FZ (p:jw k×α)(x:jw k):∀l:List (jw k×α),(∀q∈l,q.1≠p.1)->iB (qd p l) x=if p.1=x then some p.2 else iB l x
 |[],_=>by unfold iB qd;by_cases e:p.1=x<;>simp[e]
 |y::r,h=>by
  have ih:=FZ p x r λq hq=>h q (List.mem_cons_of_mem _ hq);unfold qd;split
  .unfold iB
   by_cases e:p.1=x
   .simp[e]
   simp[List.find?_cons,e]
  by_cases e2:y.1=x
  .have mc:p.1≠x:=λe=>h y (by simp) (e2.trans e.symm);rw[ah mc];unfold iB;simp[List.find?_cons,e2]
  have s1:iB (y::qd p r) x=iB (qd p r) x:=by unfold iB;simp[List.find?_cons,e2]
  have s2:iB (y::r) x=iB r x:=by unfold iB;simp[List.find?_cons,e2]
  rw[s1,s2,ih]
theorem F1 (l:List (jw k×α))(y x:jw k):iB (ox l y) x=if y=x then none else iB l x:=by
 by_cases e:y=x
 .rw[ak e,yM];intro v hm;unfold ox at hm;have:=(List.mem_filter.1 hm).2;simp[e] at this
 rw[ah e];unfold iB ox;rw[List.find?_filter]
 congr 2
 funext p
 by_cases q:p.1=x
 .have:¬x=y:=λh=>e h.symm;simp[q,this]
 simp[q]
theorem AW (l:List (jw k×α))(y x:jw k)(v:α):iB (mj l y v) x=if y=x then some v else iB l x:=by
 unfold mj;rw[FZ _ _ _ (λq hq=>by have:=(List.mem_filter.1 hq).2;simpa using this),F1]
 by_cases e:y=x
 .rw[ak e,ak e]
 rw[ah e,ah e,ah e]
end
def lE (k:Kc)(w:aa)(b:Nat)(l:List (jw k×af)):Prop:=∃P kt,P.underlying kt=some (pq k)/\w.ownsMap P kt Rv b l.length (qp l)
section
variable {P P':az}{kt JA et t:ax}{k:Kc}{w w':aa}{b n:Nat}{l:List (jw k×af)}
theorem QI (h:keyOf P kt=keyOf P' JA){D:DataW af}(ho:w.ownsMap P kt Rv b n D):w.ownsMap P' JA Rv b n D:=by
 have⟨es,clock,hb,F,hs,hD⟩:=ho;have nI:WideElems.rd P kt Rv=WideElems.rd P' JA Rv:=by
  funext x;unfold WideElems.rd;rw[h]
 have hrg:WideElems.rg P kt Rv=WideElems.rg P' JA Rv:=by
  funext x;unfold WideElems.rg;rw[nI]
 exact⟨es,clock,hb,⟨F.size,F.stamped,by rw[<-nI];exact F.reads⟩,hs,by rw[<-hrg];exact hD⟩
theorem Tx {D:DataW af}(ho:w.ownsMap P kt Rv b n D):w.ownsMap P kt Rv b (Maps.size D) D:=by
 obtain⟨es,clock,hb,F,hs,rfl⟩:=ho;exact⟨es,clock,hb,F,by simp[Maps.size,length_sorted],rfl⟩
theorem lE.to (h:lE k w b l)(hu:P.underlying kt=some (pq k)):w.ownsMap P kt Rv b l.length (qp l):=by
 have⟨P',JA,hu',ho⟩:=h;exact QI ((xV hu').trans (xV hu).symm) ho
theorem lE.mk (hu:P.underlying kt=some (pq k))(ho:w.ownsMap P kt Rv b n (qp l)):lE k w b l:=by
 have:=Tx ho;have e:Maps.size (qp l)=l.length:=by simp[Maps.size,qp]
 rw[e] at this;exact⟨P,kt,hu,this⟩
theorem lE.keep (h:lE k w b l)(hb:w'.heap[b]?=w.heap[b]?):lE k w' b l:=by
 have⟨P,kt,hu,es,clock,qh,r⟩:=h;exact⟨P,kt,hu,es,clock,hb.trans qh,r⟩
theorem lE.lt (h:lE k w b l):b<w.heap.size:=by have⟨P,kt,hu,ho⟩:=h;exact ho.lt
theorem lE.new (w:aa)(hu:P.underlying kt=some (pq k)):lE k (w.alloc (.map #[] 0)) w.heap.size []:=lE.mk hu (World.ownsMap_made (H:=af) w P kt Rv)
theorem lE.look (h:lE k w b l)(ht:P.underlying t=some (.map kt et))(hu:P.underlying kt=some (pq k)){z:af}(hz:(zeroValue et).run P w= .ok z w){x:jw k}(hx:lY k x):
  (dR t (.map (some b)) (nJ k x) false).run P w= .ok ((iB l x).getD z) w:=by
 obtain⟨v,ps,jU,hv⟩:=(h.to hu).lookup (vB hu) ht hz (zd:=.held z) (zp:=[]) rfl (vC hu hx);rw[MP] at hv;rw[jU];cases hl:iB l x with
 |none=>rw[hl] at hv;simp only[Rv,bQ,cE,ame] at hv;rw[hv.1];rfl
 |some u=>rw[hl] at hv;simp only[Rv,bQ,cE,ame] at hv;rw[hv.1];rfl
theorem lE.F3 (h:lE k w b l)(ht:P.underlying t=some (.map kt et))(hu:P.underlying kt=some (pq k)){z:af}(hz:(zeroValue et).run P w= .ok z w){x:jw k}(hx:lY k x):
  (dR t (.map (some b)) (nJ k x) true).run P w= .ok (.tuple #[(iB l x).getD z,.bool (iB l x).isSome]) w:=by
 obtain⟨v,ps,jU,hv⟩:=(h.to hu).look_ok (vB hu) ht hz (zd:=.held z) (zp:=[]) rfl (vC hu hx);rw[MP] at hv;rw[jU,Oy];cases hl:iB l x with
 |none=>rw[hl] at hv;simp only[Rv,bQ,cE,ame] at hv;rw[hv.1];rfl
 |some u=>rw[hl] at hv;simp only[Rv,bQ,cE,ame] at hv;rw[hv.1];rfl
theorem lE.put (h:lE k w b l)(ht:P.underlying t=some (.map kt et))(hu:P.underlying kt=some (pq k))(hl:l.length<=2147483647){x:jw k}(hx:lY k x)(v:af):
  ∃w',(akU t (.map (some b)) (nJ k x) v).run P w= .ok () w'/\lE k w' b (mj l x v)/\w.grownBy w' (some b)/\w'.heap.size=w.heap.size:=by
 obtain⟨w',jU,ho,hG⟩:=(h.to hu).store (vB hu) ht (by simp only[maxLen];omega) (vC hu hx) (val:=v) (d:=.held v) (ps:=[]) rfl;rw[Y6] at ho;refine⟨w',jU,lE.mk hu ho,hG.grown,?_⟩;obtain⟨_,_,_,_,_,rfl⟩:=hG;simp[cW]
theorem lE.drop (h:lE k w b l)(ht:P.underlying t=some (.map kt et))(hu:P.underlying kt=some (pq k)){x:jw k}(hx:lY k x)(ty:ax):
  ∃w',(Builtin.delete_ #[t,kt] ty #[.map (some b),nJ k x]).run P w= .ok (.tuple #[]) w'/\lE k w' b (ox l x)/\w.grownBy w' (some b):=by
 obtain⟨w',jU,ho,hG⟩:=(h.to hu).drop (vB hu) ht (vC hu hx) ty;rw[Ox] at ho;exact⟨w',jU,lE.mk hu ho,hG.grown⟩
theorem lE.len (h:lE k w b l)(ht:P.underlying t=some (.map kt et))(hu:P.underlying kt=some (pq k))(ty:ax):(alp #[t] ty #[.map (some b)]).run P w= .ok (.int .i64 (l.length:Int)) w:=by
 have:=(h.to hu).len ht ty;have e:dB (qp l)=l.length:=by simp[dB,qp]
 rw[e] at this;exact this
end
section
variable {α:Type}
def iC (m:List (Int×α))(x:Int):Option α:=iB (k:=.int) m x
def jM (m:List (Int×α))(x:Int)(v:α):List (Int×α):=mj (k:=.int) m x v
def Dk (m:List (Int×α))(x:Int):List (Int×α):=ox (k:=.int) m x
theorem jI (m:List (Int×α))(y x:Int)(v:α):iC (jM m y v) x=if y=x then some v else iC m x:=AW (k:=.int) m y x v
theorem Dl (m:List (Int×α))(y x:Int):iC (Dk m y) x=if y=x then none else iC m x:=F1 (k:=.int) m y x
theorem mY (m:List (Int×α))(x:Int)(v:α):(jM m x v).length<=m.length+1:=sU (k:=.int) m x v
theorem uH {m:List (Int×α)}{x:Int}:iC m x=none↔∀v,(x,v)∉m:=yM (k:=.int)
theorem vD {m:List (Int×α)}{x:Int}{v:α}(h:iC m x=some v):(x,v)∈m:=oK (k:=.int) h
theorem Oz {m:List (Int×α)}{x:Int}{v:α}{q:Int×α}:q∈jM m x v↔q=(x,v)\/q∈m/\q.1≠x:=wZ (k:=.int)
theorem AX {k:Kc}(p:jw k×α):∀l:List (jw k×α),(qd p l).Perm (p::l)
 |[]=>an7 _
 |y::r=>by
  unfold qd;split
  .exact an7 _
  exact(List.Perm.cons y (AX p r)).trans (anU p y r)
theorem QJ {k:Kc}{l:List (jw k×α)}{x:jw k}(h:iB l x=none):ox l x=l:=by
 unfold ox;rw[List.filter_eq_self];intro p hp;have:=yM.1 h p.2
 by_cases e:p.1=x
 .exact(this (by rw[<-e];exact hp)).elim
 simp[e]
theorem F4 {k:Kc}{l:List (jw k×α)}{x:jw k}{v:α}(h:iB l x=none):(mj l x v).Perm ((x,v)::l):=by
 unfold mj;rw[QJ h];exact AX _ _
theorem J2 {m:List (Int×α)}{x:Int}{v:α}(h:iC m x=none):(jM m x v).Perm ((x,v)::m):=F4 (k:=.int) h
end
theorem QK {P P':az}{r b since c0 clock:Nat}{seen:Array Nat}{es:Array MapEntry}{w w':aa}{v:af}(h:(alQ (.pointer (some ⟨r,0,none⟩))).run P w= .ok v w)
  (hb:w.heap[b]?=some (.map es clock)) (hr:w.heap[r]?=some (.mapIter (some b) since seen c0)) (qh:w'.heap[b]?=w.heap[b]?) (E3:w'.heap[r]?=w.heap[r]?):(alQ (.pointer (some ⟨r,0,none⟩))).run P' w'= .ok v w':=by
 rw[hb] at qh;rw[hr] at E3;simp only[alQ,getObj,aM,cw,hr,hb,bR] at h;simp only[alQ,getObj,aM,cw,E3,qh,bR];revert h;generalize seen.back?=bk;cases bk with
 |none=>intro h;simp[cw] at h
 |some q=>
  intro h;simp only[aM,cw,hb,bR] at h;simp only[aM,cw,qh,bR];revert h;cases hq:(clock !=c0) with
  |true=>intro h;simp[cw,aM,unsupported,bR] at h
  |false=>
   simp only[alf,if_false];cases hf:es.find? (λx=>x.born==q) with
   |none=>intro h;simp[cw,unsupported] at h
   |some e=>intro h;simp only[bF] at h ⊢;cases h;rfl
def r7 (k:Kc)(w:aa)(mb r:Nat)(l:List (jw k×af))(lf:jw k->Bool)(cnt:Nat)(cur:Option (jw k×af)):Prop:=
 (∃P kt left,P.underlying kt=some (pq k)/\w.ranges P kt Rv mb r l.length (qp l) left cnt/\∀x,left (kY k x)=lf x)/\
 ∀x v,cur=some (x,v)->∀(P:az) (w':aa),w'.heap[mb]?=w.heap[mb]?->w'.heap[r]?=w.heap[r]?->(alQ (.pointer (some ⟨r,0,none⟩))).run P w'= .ok (.tuple #[nJ k x,v]) w'
section
variable {P P':az}{kt JA et t:ax}{k:Kc}{w w':aa}{mb r n cnt:Nat}{l:List (jw k×af)}{lf:jw k->Bool}{cur:Option (jw k×af)}
theorem r7.keep (h:r7 k w mb r l lf cnt cur)(hb:w'.heap[mb]?=w.heap[mb]?)(hr:w'.heap[r]?=w.heap[r]?):r7 k w' mb r l lf cnt cur:=by
 obtain⟨⟨P,kt,left,hu,⟨es,clock,since,seen,c0,h1,F,hs,hD,h2,rest⟩,hl⟩,hc⟩:=h;exact⟨⟨P,kt,left,hu,⟨es,clock,since,seen,c0,hb.trans h1,F,hs,hD,hr.trans h2,rest⟩,hl⟩,λx v e P w'' h3 h4=>hc x v e P w'' (h3.trans hb) (h4.trans hr)⟩
theorem r7.lt (h:r7 k w mb r l lf cnt cur):r<w.heap.size:=by obtain⟨⟨P,kt,left,hu,h,_⟩,_⟩:=h;exact h.lt
theorem r7.ne (h:r7 k w mb r l lf cnt cur):r≠mb:=by obtain⟨⟨P,kt,left,hu,h,_⟩,_⟩:=h;exact h.ne
theorem lE.range (h:lE k w mb l)(ht:P.underlying t=some (.map kt et))(hu:P.underlying kt=some (pq k)):
  ∃w',(alR t (.map (some mb))).run P w= .ok (.pointer (some ⟨w.heap.size,0,none⟩)) w'/\r7 k w' mb w.heap.size l (λx=>(iB l x).isSome) l.length none/\w.grownBy w' none/\w'.heap.size=w.heap.size+1:=by
 obtain⟨w',h1,h2,h3,h4⟩:=(h.to hu).range (vB hu) ht;have e:dB (qp l)=l.length:=by simp[dB,qp]
 rw[e] at h2;exact⟨w',h1,⟨⟨P,kt,_,hu,h2,λx=>Oy l x⟩,λ_ _ q=>by cases q⟩,h3,h4⟩
theorem J3 (h:keyOf P kt=keyOf P' JA){D:DataW af}{left:Lit->Bool}(ho:w.ranges P kt Rv mb r n D left cnt):w.ranges P' JA Rv mb r n D left cnt:=by
 have nI:WideElems.rd P kt Rv=WideElems.rd P' JA Rv:=by
  funext x;unfold WideElems.rd;rw[h]
 have hrg:WideElems.rg P kt Rv=WideElems.rg P' JA Rv:=by
  funext x;unfold WideElems.rg;rw[nI]
 have⟨es,clock,since,seen,c0,hb,F,hs,hD,h1,h2,h3,h4,h5,h6⟩:=ho;exact⟨es,clock,since,seen,c0,hb,⟨F.size,F.stamped,by rw[<-nI];exact F.reads⟩,hs,by rw[<-hrg];exact hD,h1,h2,h3,by rw[<-hrg];exact h4,by rw[<-hrg];exact h5,h6⟩
theorem r7.next (h:r7 k w mb r l lf cnt cur)(hu:P.underlying kt=some (pq k))(ty:ax):
  ((∀x,lf x=false)/\(alS (.pointer (some ⟨r,0,none⟩)) false ty).run P w= .ok (.tuple #[.bool false]) w)\/
  ∃x v w' rO,lf x=true/\lY k x/\iB l x=some v/\rO<cnt/\(alS (.pointer (some ⟨r,0,none⟩)) false ty).run P w= .ok (.tuple #[.bool true,nJ k x,v]) w'/\
   r7 k w' mb r l (λz=>lf z && !decide (z=x)) rO (some (x,v))/\w.grownBy w' (some r)/\w'.heap.size=w.heap.size:=by
 obtain⟨⟨P',JA,left,hu',Y7,hl⟩,_⟩:=h;have hR:w.ranges P kt Rv mb r l.length (qp l) left cnt:=J3 ((xV hu').trans (xV hu).symm) Y7;have mc:=hR.ne;rcases hR.next (vB hu) ty with⟨_,h2,h3⟩|⟨key,v,kl,y,w',rO,h1,h2,h3,h4,h5,h6,h7,h8,h9,h10⟩
 .exact .inl ⟨λx=>by rw[<-hl];exact h2 _,h3⟩
 rw[xV hu] at h1;obtain⟨x,rfl,rfl,hw⟩:=Tw h1;simp only[Rv,bQ] at h3;subst h3;have E5:iB l x=some v:=by
  have a:=h4 (.held (.bool false));have b:=h4 (.held (.bool true));rw[MP] at a b;cases hq:iB l x with
  |none=>
   rw[hq] at a b;have a:akS (akV false)= .held v:=a;have b:akS (akV true)= .held v:=b;rw[<-b] at a;cases a
  |some u=>rw[hq] at a;have a:akS u= .held v:=a;cases a;rfl
 have⟨es,clock,since,seen,c0,e1,F,hs,hD,e2,e3⟩:=h6;refine .inr ⟨x,v,w',rO,by rw[<-hl];exact h2,hw,E5,h7,h5,⟨⟨P,kt,λq=>left q && !q.sameKey (kY k x),hu,⟨es,clock,since,seen,c0,e1,F,hs,hD,e2,e3⟩,λz=>?_⟩,λx' v' q P2 w2 q1 q2=>?_⟩,h8,h9⟩
 .show(left (kY k z) && !(kY k z).sameKey (kY k x))=_;rw[hl,xU]
 cases q;exact QK h10 e1 e2 q1 q2
theorem F5 (ht:P.underlying t=some (.map kt et)):(alR t (.map none)).run P w= .ok (.pointer (some ⟨w.heap.size,0,none⟩)) (w.alloc (.mapIter none 0 #[] 0)):=by
 simp[alR,run_underlying ht,newObj,bR,cw,aM,bF]
theorem Tz {since c0:Nat}{seen:Array Nat}(hr:w.heap[r]?=some (.mapIter none since seen c0))(ty:ax):(alS (.pointer (some ⟨r,0,none⟩)) false ty).run P w= .ok (.tuple #[.bool false]) w:=by
 simp[alS,getObj,aM,cw,hr,bR]
end
open ChangeMaps Maps WideElems
def QL (k:Kc)(w:aa)(b:Nat)(x:jw k)(st:Int):Prop:=∃(es:Array MapEntry) (clock j:Nat) (e:MapEntry),w.heap[b]?=some (.map es clock)/\es[j]?=some e/\e.key=nJ k x/\(e.born:Int)=st
theorem QL.keep {k:Kc}{w w':aa}{b:Nat}{x:jw k}{st:Int}(h:QL k w b x st)(hb:w'.heap[b]?=w.heap[b]?):QL k w' b x st:=let⟨es,c,j,e,h1,h2⟩:=h;⟨es,c,j,e,hb.trans h1,h2⟩
section
variable {P:az}{kt et t:ax}{k:Kc}{w w':aa}{b:Nat}{l:List (jw k×af)}
theorem zI {es:Array MapEntry}{clock:Nat}{o:Obj}(hb:w.heap[b]?=some (.map es clock)):(cW w b o).heap[b]?=some o:=by
 have pg:=(cI.1 hb).1;show(w.heap.setIfInBounds b o)[b]?=_;rw[akQ,ak rfl,ak pg]
theorem lE.entry (h:lE k w b l)(ht:P.underlying t=some (.map kt et))(hu:P.underlying kt=some (pq k))(hl:l.length<=2147483647){z:af}(hz:(zeroValue et).run P w= .ok z w){x:jw k}(hx:lY k x):
  ∃(st:Int) (w':aa),(am1 t (.map (some b)) (nJ k x)).run P w= .ok (.tuple #[(iB l x).getD z,.int .i64 st]) w'/\lE k w' b (mj l x ((iB l x).getD z))/\QL k w' b x st/\w.grownBy w' (some b)/\w'.heap.size=w.heap.size:=by
 have OA:=h.look ht hu hz hx;obtain⟨w',jU,ho,hG,m9⟩:=h.put ht hu hl hx ((iB l x).getD z);have sQ:=vC hu hx;have K:=vB hu;obtain⟨es,clock,hb,F,hs,hD⟩:=h.to hu;generalize hv0:(iB l x).getD z=v0 at*
 rcases K.find w sQ es.toList F.keys with⟨h1,h2⟩|⟨j,e0,h1,h2,h3⟩
 .have hz0:z=v0:=by
   have:(dR t (.map (some b)) (nJ k x) false).run P w= .ok z w:=by
    simp[dR,run_underlying ht,akW hb,K.check w _ sQ,h1,hz,bR]
   rw[OA] at this;injection this with this
   exact this.symm
  subst hz0;have hr:(akU t (.map (some b)) (nJ k x) z).run P w= .ok () (cW w b (.map (es.push ⟨nJ k x,z,clock⟩) (clock+1))):=by
   simp[akU,run_underlying ht,akW hb,K.check w false sQ,h1,alx _ hb,bR,cW]
  have he:w'=cW w b (.map (es.push ⟨nJ k x,z,clock⟩) (clock+1)):=by
   rw[jU] at hr;injection hr
  refine⟨(clock:Int),w',?_,ho,⟨_,_,es.size,⟨nJ k x,z,clock⟩,by rw[he];exact zI hb,by simp,rfl,rfl⟩,hG,m9⟩;rw[he];simp[am1,run_underlying ht,akW hb,K.check w false sQ,h1,hz,alx _ hb,bR,cW,goInt]
 have hj:es[j]?=some e0:=by simpa using h2
 have hv:e0.val=v0:=by
  have:(dR t (.map (some b)) (nJ k x) false).run P w= .ok e0.val w:=by
   simp[dR,run_underlying ht,akW hb,K.check w _ sQ,h1,hz,bR]
  rw[OA] at this;injection this with this
  exact this.symm
 subst hv;have hm:(es.modify j λe=>{e with key:=nJ k x})=es.modify j λe=>{e with key:=nJ k x,val:=e0.val}:=by
  apply cr;rw[amf,amf,modify_eq_set _ _ _ _ h2,modify_eq_set _ _ _ _ h2]
 have hr:(akU t (.map (some b)) (nJ k x) e0.val).run P w= .ok () (cW w b (.map (es.modify j λe=>{e with key:=nJ k x,val:=e0.val}) clock)):=by
  simp[akU,run_underlying ht,akW hb,K.check w false sQ,h1,hj,h3,K.stays w sQ,alx _ hb,bR,cW]
 have he:w'=cW w b (.map (es.modify j λe=>{e with key:=nJ k x,val:=e0.val}) clock):=by
  rw[jU] at hr;injection hr
 refine⟨(e0.born:Int),w',?_,ho,⟨_,_,j,{e0 with key:=nJ k x,val:=e0.val},by rw[he];exact zI hb,by rw[Array.getElem?_modify,ak rfl,hj];rfl,rfl,rfl⟩,hG,m9⟩;rw[he,<-hm];simp[am1,run_underlying ht,akW hb,K.check w false sQ,h1,hj,h3,K.stays w sQ,alx _ hb,bR,cW,goInt]
theorem J4 {α β:Type}{f:α->β}{l:List α}(h:(l.map f).Nodup){i j:Nat}{a c:α}(hi:l[i]?=some a)(hj:l[j]?=some c)(e:f a=f c):i=j:=by
 have h1:(l.map f)[i]?=some (f a):=by rw[cm,hi];rfl
 have h2:(l.map f)[j]?=some (f a):=by rw[cm,hj,e];rfl
 have QB:=(b7.1 h1).1;exact(List.getElem?_inj QB h).1 (h1.trans h2.symm)
theorem lE.entryStore (h:lE k w b l)(ht:P.underlying t=some (.map kt et))(hu:P.underlying kt=some (pq k))(hl:l.length<=2147483647){x:jw k}(hx:lY k x){st:Int}(Ff:QL k w b x st)(v:af):
  ∃w',(an8 t (.map (some b)) (.int .i64 st) v).run P w= .ok () w'/\lE k w' b (mj l x v)/\w.grownBy w' (some b)/\w'.heap.size=w.heap.size:=by
 obtain⟨w',jU,ho,hG,m9⟩:=h.put ht hu hl hx v;have sQ:=vC hu hx;have K:=vB hu;obtain⟨es,clock,hb,F,hs,hD⟩:=h.to hu;have⟨es',aiE,j,e,qh,hj,hek,heb⟩:=Ff;rw[hb] at qh;cases qh;have hjl:es.toList[j]?=some e:=by simpa using hj
 rcases K.find w sQ es.toList F.keys with⟨h1,h2⟩|⟨i,e0,h1,h2,h3⟩
 .exact(h2 e (bO hjl) hek).elim
 have JB:i=j:=J4 F.stamped.2.2 h2 hjl (h3.trans hek.symm);subst JB;rw[hjl] at h2;cases h2;have hfi:es.findIdx? (λe=>(e.born:Int)==st)=some i:=by
  rw[Array.findIdx?_eq_some_iff_getElem];have pg:i<es.size:=(cI.1 hj).1;have uI:es[i]=e:=(cI.1 hj).2;refine⟨pg,by rw[uI];simp[heb],λq hq hp=>?_⟩;have hp:((es[q].born:Int))=st:=by simpa using hp
  have C3:es[q].born=e.born:=by
   have:(es[q].born:Int)=(e.born:Int):=hp.trans heb.symm;omega
  have:q=i:=J4 (f:=ao9) F.stamped.2.1 (l:=es.toList) (i:=q) (j:=i) (a:=es[q]) (c:=e) (by simp) hjl C3;omega
 have hm:(es.modify i λe=>{e with val:=v})=es.modify i λe=>{e with key:=nJ k x,val:=v}:=by
  apply cr;rw[amf,amf,modify_eq_set _ _ _ _ hjl,modify_eq_set _ _ _ _ hjl,hek]
 have hr:(akU t (.map (some b)) (nJ k x) v).run P w= .ok () (cW w b (.map (es.modify i λe=>{e with key:=nJ k x,val:=v}) clock)):=by
  simp[akU,run_underlying ht,akW hb,K.check w false sQ,h1,hj,hek,K.stays w sQ,alx _ hb,bR,cW]
 have he:w'=cW w b (.map (es.modify i λe=>{e with key:=nJ k x,val:=v}) clock):=by
  rw[jU] at hr;injection hr
 refine⟨w',?_,ho,hG,m9⟩;rw[he,<-hm];simp[an8,akW hb,asInt,asIntOf,hfi,alx _ hb,bR,cW]
end
def iI (k:Kc)(α:Type):Type:=List (jw k×α)
def p9 {k:Kc}{α:Type}[Data α](S:iF)(w:aa)(b:Nat)(m:iI k α):Prop:=
 ∃zs:List (jw k×(af×α)),lE k w b (zs.map λq=>(q.1,q.2.1))/\m=zs.map (λq=>(q.1,q.2.2))/\∀z∈zs,Rd S w z.2.1 z.2.2
def TA {k:Kc}{α:Type}[Data α](S:iF)(w:aa)(v:af)(m:iI k α):Prop:=∃x,v= .map x/\match x with
 |none=>m=([]:List (jw k×α))
 |some b=>S b/\p9 S w b m
theorem p9.keep {k:Kc}{α:Type}[Data α]{S:iF}{w w':aa}{b:Nat}{m:iI k α}(h:p9 S w b m)(hk:kN S w w')(hb:w'.heap[b]?=w.heap[b]?):p9 S w' b m:=by
 have⟨zs,h1,h2,h3⟩:=h;exact⟨zs,h1.keep hb,h2,λz hz=>(h3 z hz).keep hk⟩
theorem p9.up {k:Kc}{α:Type}[Data α]{S S':iF}{w:aa}{b:Nat}{m:iI k α}(h:p9 S w b m)(hs:∀k,S k->S' k):p9 S' w b m:=by
 have⟨zs,h1,h2,h3⟩:=h;exact⟨zs,h1,h2,λz hz=>(h3 z hz).up hs⟩
instance adm {k:Kc} {α:Type} [Data α]:Data (iI k α) where
 size:=1
 isAgg:=false
 rd S w cs m:=∃v,cs=[v]/\TA S w v m
 len:=by rintro S w cs l ⟨v,rfl,_⟩;rfl
 up:=by
  rintro S S' w cs l hs ⟨v,rfl,x,rfl,h⟩;refine⟨_,rfl,x,rfl,?_⟩;cases x with
  |none=>exact h
  |some b=>exact⟨hs _ h.1,h.2.up hs⟩
 keep:=by
  rintro S w w' cs l hk ⟨v,rfl,x,rfl,h⟩;refine⟨_,rfl,x,rfl,?_⟩;cases x with
  |none=>exact h
  |some b=>exact⟨h.1,h.2.keep hk (hk b h.1)⟩
 one:=by
  rintro S w cs l ⟨v,rfl,x,rfl,_⟩ u hu;simp at hu;subst hu;rfl
theorem yN {k:Kc}{α:Type}[Data α]{S:iF}{w:aa}{v:af}{m:iI k α}(h:Rd S w v m):TA S w v m:=by
 obtain⟨cs,⟨v',rfl,h⟩,rfl⟩:=h;exact h
theorem HG {k:Kc}{α:Type}[Data α]{S:iF}{w:aa}{v:af}{m:iI k α}(h:TA S w v m):Rd S w v m:=⟨[v],⟨v,rfl,h⟩,rfl⟩
def tU (α:Type):Type:=Option α
def sV {α:Type}[Data α](S:iF)(w:aa)(v:af):tU α->Prop
 |none=>v= .pointer none
 |some y=> ∃b cur t fz cs,v= .pointer (some ⟨b,0,none⟩)/\S b/\w.heap[b]?=some (.cells cur t fz)/\Data.rd S w cs y/\∀j,j<Data.size α->cur[j]?=cs[j]?
theorem sV.keep {α:Type}[Data α]{S:iF}{w w':aa}{v:af}{x:tU α}(h:sV S w v x)(hk:kN S w w'):sV S w' v x:=by
 cases x with
 |none=>exact h
 |some y=>
  have⟨b,cur,t,fz,cs,h1,h2,h3,h4,h5⟩:=h;exact⟨b,cur,t,fz,cs,h1,h2,(hk b h2).trans h3,Data.keep hk h4,h5⟩
theorem sV.up {α:Type}[Data α]{S S':iF}{w:aa}{v:af}{x:tU α}(h:sV S w v x)(hs:∀k,S k->S' k):sV S' w v x:=by
 cases x with
 |none=>exact h
 |some y=>
  have⟨b,cur,t,fz,cs,h1,h2,h3,h4,h5⟩:=h;exact⟨b,cur,t,fz,cs,h1,hs _ h2,h3,Data.up hs h4,h5⟩
theorem sV.val {α:Type}[Data α]{S:iF}{w:aa}{v:af}{x:tU α}(h:sV S w v x):∃p,v= .pointer p:=by
 cases x with
 |none=>exact⟨_,h⟩
 |some y=>have⟨b,cur,t,fz,cs,h1,_⟩:=h;exact⟨_,h1⟩
instance adn {α:Type} [Data α]:Data (tU α) where
 size:=1
 isAgg:=false
 rd S w cs x:=∃v,cs=[v]/\sV S w v x
 len:=by rintro S w cs l ⟨v,rfl,_⟩;rfl
 up:=by rintro S S' w cs l hs ⟨v,rfl,h⟩;exact⟨v,rfl,h.up hs⟩
 keep:=by rintro S w w' cs l hk ⟨v,rfl,h⟩;exact⟨v,rfl,h.keep hk⟩
 one:=by
  rintro S w cs l ⟨v,rfl,h⟩ u hu;obtain⟨p,rfl⟩:=h.val;simp at hu;subst hu;rfl
theorem vE {α:Type}[Data α]{S:iF}{w:aa}{v:af}{x:tU α}(h:Rd S w v x):sV S w v x:=by
 obtain⟨cs,⟨v',rfl,h⟩,rfl⟩:=h;exact h
theorem MQ {α:Type}[Data α]{S:iF}{w:aa}{v:af}{x:tU α}(h:sV S w v x):Rd S w v x:=⟨[v],⟨v,rfl,h⟩,rfl⟩
instance Y8:Data Unit where
 size:=0
 isAgg:=true
 rd _ _ cs _:=cs=[]
 len h:=by rw[h];rfl
 up _ h:=h
 keep _ h:=h
 one h u hu:=by rw[h] at hu;cases hu
inductive Ty where
 |int
 |bool
 |str
 |list (t:Ty)
 |pair (a b:Ty)
 |map (k:Kc) (t:Ty)
 |ptr (t:Ty)
 |unit
def El:Ty->Type
 | .int=>Int
 | .bool=>Bool
 | .str=>ByteArray
 | .list t=>List (El t)
 | .pair a b=>El a×El b
 | .map k t=>iI k (El t)
 | .ptr t=>tU (El t)
 | .unit=>Unit
instance J5:(t:Ty)->Data (El t)
 | .int=>(inferInstance:Data Int)
 | .bool=>(inferInstance:Data Bool)
 | .str=>(inferInstance:Data ByteArray)
 | .list t=>@instDataList (El t) (J5 t)
 | .pair a b=>@instDataProd (El a) (El b) (J5 a) (J5 b)
 | .map k t=>@adm k (El t) (J5 t)
 | .ptr t=>@adn (El t) (J5 t)
 | .unit=>Y8
def zn:(t:Ty)->El t
 | .int=>(0:Int)
 | .bool=>false
 | .str=>(⟨#[]⟩:ByteArray)
 | .list _=>[]
 | .pair a b=>(zn a,zn b)
 | .map k t=>([]:List (jw k×El t))
 | .ptr t=>(none:Option (El t))
 | .unit=>()
def MR:(t s:Ty)->Option (PLift (t=s))
 | .int,.int=>some ⟨rfl⟩
 | .bool,.bool=>some ⟨rfl⟩
 | .str,.str=>some ⟨rfl⟩
 | .unit,.unit=>some ⟨rfl⟩
 | .list t,.list s=>match MR t s with
  |some ⟨h⟩=>some ⟨aG Ty.list h⟩
  |none=>none
 | .pair a b,.pair c d=>match MR a c,MR b d with
  |some ⟨h⟩,some ⟨k⟩=>some ⟨h▸k▸rfl⟩
  |_,_=>none
 | .map .int a,.map .int b=>match MR a b with
  |some ⟨h⟩=>some ⟨aG (Ty.map .int) h⟩
  |none=>none
 | .map .str a,.map .str b=>match MR a b with
  |some ⟨h⟩=>some ⟨aG (Ty.map .str) h⟩
  |none=>none
 | .ptr t,.ptr s=>match MR t s with
  |some ⟨h⟩=>some ⟨aG Ty.ptr h⟩
  |none=>none
 |_,_=>none
def oy {t s:Ty}(a:El t):Option (El s):=match MR t s with
 |some ⟨h⟩=>some (h▸a)
 |none=>none
theorem lZ {t s:Ty}{a:El t}{b:El s}(h:oy (s:=s) a=some b):∃e:t=s,e▸a=b:=by
 unfold oy at h;split at h
 .rename_i e _;exact⟨e,bz h⟩
 cases h
inductive sX where
 |i (n:Int)
 |b (b:Bool)
 |s (s:ByteArray)
 |l (t:Ty) (l:List (El t))
 |m (k:Kc) (t:Ty) (m:iI k (El t))
 |p (t:Ty) (x:tU (El t))
def je:(t:Ty)->El t->List sX
 | .int,n=>[.i n]
 | .bool,b=>[.b b]
 | .str,s=>[.s s]
 | .list t,l=>[.l t l]
 | .pair a b,x=>je a x.1++je b x.2
 | .map k t,m=>[.m k t m]
 | .ptr t,x=>[.p t x]
 | .unit,_=>[]
def sY (S:iF)(w:aa)(v:af):sX->Prop
 | .i n=>v= .int .i64 n
 | .b b=>v= .bool b
 | .s s=>v= .string s
 | .l _ l=>Rd S w v l
 | .m _ _ m=>Rd S w v m
 | .p _ x=>Rd S w v x
def jO (S:iF)(w:aa):List af->List sX->Prop
 |[],[]=>True
 |v::vs,c::cs=>sY S w v c/\jO S w vs cs
 |_,_=>False
theorem jO.append {S:iF}{w:aa}:∀ {a:List af} {b:List sX} {c:List af} {d:List sX},jO S w a b->jO S w c d->jO S w (a++c) (b++d)
 |[],[],_,_,_,h=>h
 |_::_,_::_,_,_,h,k=>⟨h.1,h.2.append k⟩
 |[],_::_,_,_,h,_=>h.elim
 |_::_,[],_,_,h,_=>h.elim
theorem jO.split {S:iF}{w:aa}:∀ {vs:List af} {a b:List sX},jO S w vs (a++b)->jO S w (vs.take a.length) a/\jO S w (vs.drop a.length) b
 |vs,[],b,h=>by simpa using⟨tv,h⟩
 |[],_::_,_,h=>h.elim
 |v::vs,x::a,b,h=>by
  obtain⟨h1,h2⟩:=jO.split (vs:=vs) (a:=a) (b:=b) h.2;exact⟨⟨h.1,h1⟩,h2⟩
theorem jO.len {S:iF}{w:aa}:∀ {vs:List af} {a:List sX},jO S w vs a->vs.length=a.length
 |[],[],_=>rfl
 |_::_,_::_,h=>by simp[jO.len h.2]
 |[],_::_,h=>h.elim
 |_::_,[],h=>h.elim
theorem jO.get {S:iF}{w:aa}:∀ {vs:List af} {a:List sX},jO S w vs a->∀ {j:Nat} {c:sX},a[j]?=some c->∃v,vs[j]?=some v/\sY S w v c
 |[],[],_,_,_,h=>by simp at h
 |v::vs,x::a,h,0,c,e=>by simp at e;subst e;exact⟨v,rfl,h.1⟩
 |v::vs,x::a,h,j+1,c,e=>h.2.get (j:=j) (by simpa using e)
 |[],_::_,h,_,_,_=>h.elim
 |_::_,[],h,_,_,_=>h.elim
theorem sY.keep {S:iF}{w w':aa}(hk:kN S w w'){v:af}{c:sX}(h:sY S w v c):sY S w' v c:=by
 cases c with
 |l t l=>exact Rd.keep hk h
 |m k t m=>exact Rd.keep hk h
 |p t x=>exact Rd.keep hk h
 |_=>exact h
theorem sY.up {S S':iF}{w:aa}(hs:∀k,S k->S' k){v:af}{c:sX}(h:sY S w v c):sY S' w v c:=by
 cases c with
 |l t l=>exact Rd.up hs h
 |m k t m=>exact Rd.up hs h
 |p t x=>exact Rd.up hs h
 |_=>exact h
theorem pT {S:iF}{w:aa}:∀(t:Ty) {cs:List af} {a:El t},Data.rd S w cs a->jO S w cs (je t a)
 | .int,cs,a,h=>by have h:cs=[.int .i64 a]:=h;subst h;exact⟨rfl,tv⟩
 | .bool,cs,a,h=>by have h:cs=[.bool a]:=h;subst h;exact⟨rfl,tv⟩
 | .str,cs,a,h=>by have h:cs=[.string a]:=h;subst h;exact⟨rfl,tv⟩
 | .unit,cs,a,h=>by have h:cs=[]:=h;subst h;trivial
 | .list t,cs,a,h=>by
  obtain⟨v,rfl,h⟩:=h;exact⟨qo h,tv⟩
 | .pair a b,cs,x,h=>by
  obtain⟨c1,c2,rfl,h1,h2⟩:=h;exact(pT a h1).append (pT b h2)
 | .map k t,cs,a,h=>by
  obtain⟨v,rfl,h⟩:=h;exact⟨HG h,tv⟩
 | .ptr t,cs,a,h=>by
  obtain⟨v,rfl,h⟩:=h;exact⟨MQ h,tv⟩
theorem CC {S:iF}{w:aa}:∀(t:Ty) {cs:List af} {a:El t},jO S w cs (je t a)->Data.rd S w cs a
 | .int,cs,a,h=>by
  match cs,h with
  |[v],h=>have h1:v= .int .i64 a:=h.1;subst h1;rfl
 | .bool,cs,a,h=>by
  match cs,h with
  |[v],h=>have h1:v= .bool a:=h.1;subst h1;rfl
 | .unit,cs,a,h=>by
  match cs,h with
  |[],_=>exact(rfl:([]:List af)=[])
 | .str,cs,a,h=>by
  match cs,h with
  |[v],h=>have h1:v= .string a:=h.1;subst h1;rfl
 | .list t,cs,a,h=>by
  match cs,h with
  |[v],h=>exact⟨v,rfl,jZ h.1⟩
 | .pair a b,cs,x,h=>by
  obtain⟨h1,h2⟩:=jO.split h;exact⟨_,_,(dO _ _).symm,CC a h1,CC b h2⟩
 | .map k t,cs,a,h=>by
  match cs,h with
  |[v],h=>exact⟨v,rfl,yN h.1⟩
 | .ptr t,cs,a,h=>by
  match cs,h with
  |[v],h=>exact⟨v,rfl,vE h.1⟩
theorem Dm:∀(t:Ty) (a:El t),(je t a).length=Data.size (El t)
 | .int,_=>rfl
 | .bool,_=>rfl
 | .str,_=>rfl
 | .unit,_=>rfl
 | .list _,_=>rfl
 | .map _ _,_=>rfl
 | .ptr _,_=>rfl
 | .pair a b,x=>by
  show(je a x.1++je b x.2).length=Data.size (El a)+Data.size (El b);rw[aO,Dm a,Dm b]
def kI:Ty->Bool| .pair _ _=>true| .unit=>true|_=>false
theorem Dn:∀t:Ty,Data.isAgg (El t)=kI t
 | .int=>rfl
 | .bool=>rfl
 | .str=>rfl
 | .unit=>rfl
 | .list _=>rfl
 | .pair _ _=>rfl
 | .map _ _=>rfl
 | .ptr _=>rfl
def iN:Ty->Nat
 | .int=>1
 | .bool=>1
 | .str=>1
 | .unit=>0
 | .list _=>1
 | .map _ _=>1
 | .ptr _=>1
 | .pair a b=>iN a+iN b
theorem kr:∀t:Ty,iN t=Data.size (El t)
 | .int=>rfl
 | .bool=>rfl
 | .str=>rfl
 | .unit=>rfl
 | .list _=>rfl
 | .map _ _=>rfl
 | .ptr _=>rfl
 | .pair a b=>by
  show iN a+iN b=Data.size (El a)+Data.size (El b);rw[kr a,kr b]
theorem lN (t:Ty)(a:El t):(je t a).length=iN t:=by rw[Dm,kr]
inductive BE where
 |lit (b:Bool)
 |dec (p:Prop) (i:Decidable p)
 |raw (b:Bool)
 |not (x:BE)
 |and (x y:BE)
 |or (x y:BE)
def BE.den:BE->Bool
 | .lit b=>b
 | .dec p i=>@decide p i
 | .raw b=>b
 | .not x=>!x.den
 | .and x y=>x.den && y.den
 | .or x y=>x.den||y.den
def BE.is:BE->Bool->Prop
 | .lit c,b=>c=b
 | .dec p _,true=>p
 | .dec p _,false=>¬p
 | .raw c,b=>c=b
 | .not x,true=>x.is false
 | .not x,false=>x.is true
 | .and x y,true=>x.is true/\y.is true
 | .and x y,false=>x.is false\/y.is false
 | .or x y,true=>x.is true\/y.is true
 | .or x y,false=>x.is false/\y.is false
theorem BE.qt:∀(e:BE) (b:Bool),e.is b↔e.den=b
 | .lit c,b=>Iff.rfl
 | .dec p i,true=>by simp[is,den]
 | .dec p i,false=>by simp[is,den]
 | .raw c,b=>Iff.rfl
 | .not x,true=>by simp[is,den,qt x]
 | .not x,false=>by simp[is,den,qt x]
 | .and x y,true=>by simp[is,den,qt x,qt y]
 | .and x y,false=>by rw[is,den,qt x,qt y];cases x.den<;>cases y.den<;>simp
 | .or x y,true=>by rw[is,den,qt x,qt y];cases x.den<;>cases y.den<;>simp
 | .or x y,false=>by simp[is,den,qt x,qt y]
structure ju where
 p:Nat->Option bJ
 n:Nat->Nat
 c:Nat->Nat
 b:Nat->Nat
 f:Nat->Lit->af
 m:Nat->Option Nat
def ju.v (A:ju)(j:Nat):af:=.slice (A.p j) (A.n j) (A.c j)
def ju.set (A:ju)(j:Nat)(p:Option bJ)(n c b:Nat):ju:=⟨λk=>if k=j then p else A.p k,λk=>if k=j then n else A.n k,λk=>if k=j then c else A.c k,λk=>if k=j then b else A.b k,A.f,A.m⟩
def ju.mZ (A:ju)(j:Nat)(g:Lit->af):ju:=⟨A.p,A.n,A.c,A.b,λk=>if k=j then g else A.f k,A.m⟩
theorem ju.r8 (A:ju)(j:Nat)(g:Lit->af):(A.mZ j g).f j=g:=by simp[ju.mZ]
def ju.iP (A:ju)(j:Nat)(x:Option Nat):ju:=⟨A.p,A.n,A.c,A.b,A.f,λk=>if k=j then x else A.m k⟩
theorem ju.Dp (A:ju)(j:Nat)(x:Option Nat):(A.iP j x).m j=x:=by simp[ju.iP]
theorem ju.rP (A:ju)(j:Nat)(p:Option bJ)(n c b:Nat):(A.set j p n c b).v j= .slice p n c:=by simp[ju.set,ju.v]
theorem ju.afM (A:ju)(j:Nat)(p:Option bJ)(n c b:Nat):(A.set j p n c b).p j=p:=by simp[ju.set]
theorem ju.Dq (A:ju)(j:Nat)(p:Option bJ)(n c b:Nat):(A.set j p n c b).b j=b:=by simp[ju.set]
inductive Hx where
 |el (i:Int) (sz off:Nat)
 |ky (k:Kc) (x:jw k)
def ix (c:Nat):Lit:=.int .i64 (c:Int)
theorem ado {c d:Nat}(h:ix c=ix d):c=d:=by
 unfold ix at h;injection h with _ h
 exact Int.ofNat.inj h
def Hx.lit:Hx->Lit
 | .el i sz off=>ix (i.toNat*sz+off)
 | .ky k x=>kY k x
inductive Sc where
 |v (x:af)
 |b (e:BE)
 |own (j:Nat)
 |mp (j:Nat)
 |ptr (j off:Nat)
 |el (j:Nat) (i:Int) (sz off:Nat)
 |r9 (f:bB) (jL:List (Nat×Nat))
 |hd (p q:Nat) (x:Hx)
 |pd (j:Nat)
def Sc.den (A:ju):Sc->af
 | .v x=>x
 | .b e=>.bool e.den
 | .own j=>A.v j
 | .mp j=>.map (A.m j)
 | .ptr j off=>.pointer (some ⟨A.b j,off,none⟩)
 | .el j i sz off=>.pointer (some ⟨Mt (A.v j),Mu (A.v j)+i.toNat*sz+off,none⟩)
 | .r9 f jL=>.func (.func f) #[] (jL.map λc=>.pointer (some ⟨A.b c.1,c.2,none⟩)).toArray
 | .hd _ q x=>A.f q x.lit
 | .pd j=>.pointer (A.p j)
def Sc.all (F:Nat->Prop):Sc->Prop
 | .v _=>True
 | .b _=>True
 | .own j=>F j
 | .mp j=>F j
 | .ptr j _=>F j
 | .el j _ _ _=>F j
 | .r9 _ jL=> ∀c∈jL,F c.1
 | .hd p q _=>F p/\F q
 | .pd j=>F j
inductive Sy where
 |one (s:Sc)
 |agg (cs:List Sc)
 |tQ (ps:List (Bool×List Sc))
def m6 (A:ju)(p:Bool×List Sc):af:=if p.1 then .agg (p.2.map (Sc.den A)).toArray else(p.2.map (Sc.den A)).headD undef
def Sy.den (A:ju):Sy->af
 | .one s=>s.den A
 | .agg cs=>.agg (cs.map (Sc.den A)).toArray
 | .tQ ps=>.tuple (ps.map (m6 A)).toArray
def Sy.all (F:Nat->Prop):Sy->Prop
 | .one s=>s.all F
 | .agg cs=> ∀c∈cs,c.all F
 | .tQ ps=> ∀p∈ps,∀c∈p.2,c.all F
structure E2 where
 ch:List (Nat×Bool)
 sy:Sy
def nu (w:aa)(e:ax)(sz:Nat)(v:af)(n:Nat)(xs:List af):Prop:=
 xs.length=n*sz/\((v= .slice none 0 0/\n=0)\/∃g d cap cur,v= .slice (some ⟨g,d*sz,none⟩) n cap/\w.heap[g]?=some (.cells cur e (0,0))/\n<=cap/\cap<=maxLen/\(d+cap)*sz<=cur.size/\(cur.toList.drop (d*sz)).take (n*sz)=xs)
theorem nu.keep {w w':aa}{e:ax}{sz:Nat}{v:af}{n:Nat}{xs:List af}(h:nu w e sz v n xs)(hb:∀b,v.ownBlock=some b->w'.heap[b]?=w.heap[b]?):nu w' e sz v n xs:=by
 refine⟨h.1,?_⟩;rcases h.2 with q|⟨g,d,cap,cur,rfl,hg,rest⟩
 .exact .inl q
 exact .inr ⟨g,d,cap,cur,rfl,(hb g rfl).trans hg,rest⟩
theorem nu.of {w:aa}{e:ax}{sz:Nat}{v:af}{n:Nat}{xs:List af}{base:Nat}(h:w.ownsRow base e sz v n xs):nu w e sz v n xs:=by
 refine⟨h.1,?_⟩;rcases h.2 with q|⟨g,cap,cur,h1,_,h2,h3,h4,h5,h6⟩
 .exact .inl q
 exact .inr ⟨g,0,cap,cur,by rw[h1,de],h2,h3,h4,by rw[cG,h5];exact ay _,by rw[de,aky];exact h6⟩
theorem nu.nil (w:aa)(e:ax)(sz:Nat):nu w e sz (.slice none 0 0) 0 []:=⟨by simp,.inl ⟨rfl,rfl⟩⟩
theorem nu.slice {w:aa}{e:ax}{sz:Nat}{v:af}{n:Nat}{xs:List af}(h:nu w e sz v n xs):∃p c,v= .slice p n c/\n<=c/\c<=maxLen:=by
 rcases h.2 with⟨rfl,rfl⟩|⟨g,d,cap,cur,rfl,hg,h1,h2,_⟩
 .exact⟨_,_,rfl,ay _,by simp[maxLen]⟩
 exact⟨_,_,rfl,h1,h2⟩
def lg {α:Type}[Data α](S:iF)(w:aa)(e:ax)(v:af)(l:List α):Prop:=∃xs,nu w e (Data.size α) v l.length xs/\jP S w xs l
section
variable {α:Type}[Data α]{S S':iF}{w w':aa}{e:ax}{v:af}{l:List α}
theorem lg.keep (h:lg S w e v l)(hk:kN S w w')(hb:∀b,v.ownBlock=some b->w'.heap[b]?=w.heap[b]?):lg S w' e v l:=let⟨xs,h1,h2⟩:=h;⟨xs,h1.keep hb,h2.keep hk⟩
theorem lg.up (h:lg S w e v l)(hs:∀k,S k->S' k):lg S' w e v l:=let⟨xs,h1,h2⟩:=h;⟨xs,h1,h2.up hs⟩
theorem lg.of (h:Own S w e v l):lg S w e v l:=let⟨xs,h1,h2⟩:=h;⟨xs,.of h1,h2⟩
theorem lg.nil:lg S w e (.slice none 0 0) ([]:List α):=⟨[],nu.nil w e _,jP.nil _ _⟩
theorem lg.cells (h:lg S w e v l){i:Int}(h0:0<=i)(h1:i<(l.length:Int))(d:α):
  ∃cs,Data.rd S w cs (l.getD i.toNat d)/\∀j,j<Data.size α->w.cell? ⟨Mt v,Mu v+i.toNat*Data.size α+j,none⟩=cs[j]?:=by
 have⟨xs,hh,hR⟩:=h;rcases hh.2 with⟨_,hn⟩|⟨g,dd,cap,cur,rfl,hg,JM,wq,j4,pn⟩
 .omega
 have hi:i.toNat<l.length:=by omega
 refine⟨_,by rw[aH,aR hi];exact hR.2 i.toNat hi,λq hq=>?_⟩;show w.cell? ⟨g,dd*Data.size α+i.toNat*Data.size α+q,none⟩=_;rw[cell_of_row w g _ cur e (0,0) hg];rw[bP,ak hq,b5,<-pn,bP,ak ?_,b5,cJ,akF];have:=bK (Data.size α) (show i.toNat+1<=l.length from hi);rw[bZ] at this;omega
theorem OB {α:Type}[Data α]{xs:List af}{l:List α}{lo hi:Nat}(h:jP S w xs l)(h1:lo<=hi)(h2:hi<=l.length):jP S w ((xs.drop (lo*Data.size α)).take ((hi-lo)*Data.size α)) ((l.drop lo).take (hi-lo)):=by
 refine⟨?_,λi qm=>?_⟩
 .rw[aX,bw,aX,bw,h.1,<-amh];have:hi-lo<=l.length-lo:=by omega
  rw[dU (bK _ this),dU this]
 rw[aX,bw] at qm;have QB:lo+i<l.length:=by omega
 have e1:((l.drop lo).take (hi-lo))[i]'(by rw[aX,bw];exact qm)=l[lo+i]:=by simp
 rw[e1];have e2:((((xs.drop (lo*Data.size α)).take ((hi-lo)*Data.size α)).drop (i*Data.size α)).take (Data.size α))=(xs.drop ((lo+i)*Data.size α)).take (Data.size α):=by
  rw[List.drop_take,List.take_take,alO,<-bU,dU];rw[<-amh];have:1<=hi-lo-i:=by omega
  calc Data.size α=1*Data.size α:=(Nat.one_mul _).symm
   _<=_:=bK _ this
 rw[e2];exact h.2 (lo+i) QB
theorem F6 {α:Type}[Data α]{p:Option bJ}{len cap lo hi:Nat}{l:List α}(h:sD S w (.slice p len cap) l)(h1:lo<=hi)(h2:hi<=l.length):sD S w (sliced p lo hi cap (Data.size α)) ((l.drop lo).take (hi-lo)):=by
 have⟨p',c',e,k1,k2,k3⟩:=h;cases e;have hlen:((l.drop lo).take (hi-lo)).length=hi-lo:=by rw[aX,bw];omega
 refine⟨_,cap-lo,by unfold sliced;rw[hlen],by rw[hlen];omega,by omega,?_⟩;rcases k3 with rfl|⟨g,off,cur,t,fz,rfl,hg,hw,hc⟩
 .exact .inl (by simp)
 by_cases q:cap=lo
 .exact .inl (bV (by rw[hlen];omega))
 refine .inr ⟨g,off+lo*Data.size α,cur,t,fz,by rw[ah q];simp[Addr.add_lit],hg,hw,λi qm=>?_⟩;rw[hlen] at qm;obtain⟨cs,q1,q2⟩:=hc (lo+i) (by omega);have e1:((l.drop lo).take (hi-lo))[i]'(by rw[hlen];exact qm)=l[lo+i]:=by simp
 refine⟨cs,by rw[e1];exact q1,λj hj=>?_⟩;rw[<-q2 j hj,bU]
 congr 1;omega
theorem lg.rd (h:lg S w e v l):Rd (λk=>S k\/v.ownBlock=some k) w v l:=by
 have⟨xs,h1,h2⟩:=h;refine qo ?_;rcases h1.2 with⟨rfl,hn⟩|⟨g,d,cap,cur,rfl,hg,JM,wq,j4,pn⟩
 .have:l=[]:=bV hn;subst this;exact⟨none,0,rfl,by simp,by simp[maxLen],.inl rfl⟩
 refine⟨_,cap,rfl,JM,wq,.inr ⟨g,d*Data.size α,cur,e,(0,0),rfl,.inr rfl,hg,λj hj=>?_⟩⟩;refine⟨_,Data.up (λ_=>.inl) (h2.2 j hj),λq hq=>?_⟩;rw[bP,ak hq,b5,<-pn,bP,ak ?_,b5,cJ,akF];have:=bK (Data.size α) (show j+1<=l.length from hj);rw[bZ] at this;omega
end
inductive X2 where
 |nest (q:Nat) (h:Option Nat) (e:ax) (t:Ty) (ie:ax) (l:List (El t))
 |kP (q:Nat) (k:Kc) (h:Option (jw k)) (t:Ty) (ie:ax) (m:iI k (List (El t)))
 |zJ (t:Ty) (x:tU (El t))
 |par (t:Ty) (x:tU (El t))
 |HH (t:Ty) (x:El t)
 |CD (t:Ty) (x:El t)
 |HI (q:Nat) (k:Kc) (t:Ty) (m:iI k (El t)) (x:jw k)
 |Fi (D:Nat)
 |sZ (e:ax) (s:ByteArray)
 |nb (q k i:Nat) (e:ax) (t:Ty) (ie:ax) (l:List (List (El t)))
inductive R2 where
 |ro (t:Ty) (l:List (El t))
 |ar (t:Ty) (l:List (El t))
 |row (e:ax) (t:Ty) (l:List (El t))
 |box (t:ax) (cs:List Sc)
 |wO (k:Kc) (t:Ty) (m:iI k (El t))
 |BR (k:Kc) (t:Ty) (m:iI k (El t))
 |map (k:Kc) (t:Ty) (m:iI k (El t))
 |iter (k:Kc) (t:Ty) (m:iI k (El t)) (lf:jw k->Bool) (cnt:Nat) (cur:Option (jw k×El t))
 |ext (x:X2)
structure Rs where
 ok:iF->aa->Prop
 has:Nat->Prop
 keep:∀S w w',ok S w->kN S w w'->(∀b,has b->w'.heap[b]?=w.heap[b]?)->ok S w'
 up:∀(S S':iF) w,ok S w->(∀k,S k->S' k)->ok S' w
def Rs.of (r:o9):Rs:=⟨λS w=>r.ok S w,λb=>r.block=some b,λ_ _ _ h hk hb=>o9.Hz h hk hb,λ_ _ _ h hs=>o9.ab6 h hs⟩
def xd:Rs:=⟨λ_ _=>True,λ_=>False,λ_ _ _ _ _ _=>trivial,λ_ _ _ _ _=>trivial⟩
def xe {α:Type}[Data α](e:ax)(v:af)(l:List α):Rs:=⟨λS w=>lg S w e v l,λb=>v.ownBlock=some b,λ_ _ _ h hk hb=>h.keep hk hb,λ_ _ _ h hs=>h.up hs⟩
def yC {k:Kc}{α:Type}[Data α](x:Option Nat)(m:iI k α):Rs where
 ok S w:=∃b,x=some b/\p9 S w b m
 has b:=x=some b
 keep:=λS w w' ⟨b,e,h⟩ hk hb=>⟨b,e,h.keep hk (hb b e)⟩
 up:=λS S' w ⟨b,e,h⟩ hs=>⟨b,e,h.up hs⟩
def HJ {k:Kc}{α:Type}[Data α](S:iF)(w:aa)(b:Nat)(m:iI k α)(lf:jw k->Bool)(cnt:Nat)(cur:Option (jw k×α)):Prop:=
 ∃mb,∃zs:List (jw k×(af×α)),∃cu:Option (jw k×(af×α)),S mb/\r7 k w mb b (zs.map λq=>(q.1,q.2.1)) lf cnt (cu.map λq=>(q.1,q.2.1))/\m=zs.map (λq=>(q.1,q.2.2))/\(∀z∈zs,Rd S w z.2.1 z.2.2)/\cur=cu.map (λq=>(q.1,q.2.2))/\∀q,cu=some q->Rd S w q.2.1 q.2.2
def zK {k:Kc}{α:Type}(w:aa)(b:Nat)(m:iI k α)(lf:jw k->Bool)(cur:Option (jw k×α)):Prop:=
 m=([]:List (jw k×α))/\cur=none/\(∀x,lf x=false)/\∃since seen c0,w.heap[b]?=some (.mapIter none since seen c0)
def MT {k:Kc}{α:Type}[Data α](b:Nat)(m:iI k α)(lf:jw k->Bool)(cnt:Nat)(cur:Option (jw k×α)):Rs where
 ok S w:=HJ S w b m lf cnt cur\/zK w b m lf cur
 has x:=x=b
 keep:=by
  intro S w w' h hk hb;rcases h with⟨mb,zs,cu,h1,h2,h3,h4,h5,h6⟩|⟨h1,h2,h3,s,se,c,h4⟩
  .have h7:=h2.keep (hk mb h1) (hb b rfl);exact .inl ⟨mb,zs,cu,h1,h7,h3,λz hz=>(h4 z hz).keep hk,h5,λq e=>(h6 q e).keep hk⟩
  exact .inr ⟨h1,h2,h3,s,se,c,(hb b rfl).trans h4⟩
 up:=by
  intro S S' w h hs;rcases h with⟨mb,zs,cu,h1,h2,h3,h4,h5,h6⟩|h
  .exact .inl ⟨mb,zs,cu,hs mb h1,h2,h3,λz hz=>(h4 z hz).up hs,h5,λq e=>(h6 q e).up hs⟩
  exact .inr h
def ny (t:Ty)(l:List (El t)):List sX:=l.flatMap (je t)
theorem mw (t:Ty):∀l:List (El t),(ny t l).length=l.length*iN t
 |[]=>by simp[ny]
 |x::l=>by
  show(je t x++ny t l).length=_;rw[aO,lN,mw t l,List.length_cons,bZ];omega
def yx (S:iF)(w:aa)(ie:ax)(v:af):sX->Prop
 | .l _ l=>lg S w ie v l
 |c=>sY S w v c/\v.ownBlock=none
theorem yx.keep {S:iF}{w w':aa}{ie:ax}{v:af}{c:sX}(h:yx S w ie v c)(hk:kN S w w')(hb:∀b,v.ownBlock=some b->w'.heap[b]?=w.heap[b]?):yx S w' ie v c:=by
 cases c with
 |l t l=>exact lg.keep h hk hb
 |_=>exact⟨h.1.keep hk,h.2⟩
theorem yx.up {S S':iF}{w:aa}{ie:ax}{v:af}{c:sX}(h:yx S w ie v c)(hs:∀k,S k->S' k):yx S' w ie v c:=by
 cases c with
 |l t l=>exact lg.up h hs
 |_=>exact⟨h.1.up hs,h.2⟩
structure mW (S:iF)(w:aa)(v:af)(f:Lit->af)(h:Option Nat)(e:ax)(t:Ty)(ie:ax)(l:List (El t)):Prop where
 row:∃xs,nu w e (iN t) v l.length xs/\(∀u∈xs,u.oneCell'=true)/\∀c x,(ny t l)[c]?=some x->h≠some c->xs[c]?=some (f (ix c))/\yx S w ie (f (ix c)) x
 inj:∀c d b,c<l.length*iN t->d<l.length*iN t->h≠some c->h≠some d->(f (ix c)).ownBlock=some b->(f (ix d)).ownBlock=some b->c=d
 out:∀c b,c<l.length*iN t->h≠some c->(f (ix c)).ownBlock=some b->v.ownBlock≠some b
def yO (v:af)(f:Lit->af)(h:Option Nat)(e:ax)(t:Ty)(ie:ax)(l:List (El t)):Rs where
 ok S w:=mW S w v f h e t ie l
 has b:=v.ownBlock=some b\/∃c,c<l.length*iN t/\h≠some c/\(f (ix c)).ownBlock=some b
 keep:=by
  intro S w w' H hk hb;have⟨xs,h1,h2,h3⟩:=H.row;refine⟨⟨xs,h1.keep λb q=>hb b (.inl q),h2,λc x hc hh=>?_⟩,H.inj,H.out⟩;obtain⟨k1,k2⟩:=h3 c x hc hh;refine⟨k1,k2.keep hk λb q=>hb b (.inr ⟨c,?_,hh,q⟩)⟩;have:=(b7.1 hc).1;rwa[mw] at this
 up:=λS S' w H hs=>⟨let⟨xs,h1,h2,h3⟩:=H.row;⟨xs,h1,h2,λc x hc hh=>⟨(h3 c x hc hh).1,(h3 c x hc hh).2.up hs⟩⟩,H.inj,H.out⟩
structure TB {α:Type}[Data α](S:iF)(w:aa)(v u:af)(f:Lit->af)(i:Nat)(e ie:ax)(l:List (List α)):Prop where
 row:∃xs,nu w e 1 v l.length xs/\(∀u∈xs,u.oneCell'=true)/\∀d (h:d<l.length),xs[d]?=some (f (ix d))/\(d≠i->lg S w ie (f (ix d)) l[d])
 inj:∀c d b,c<l.length->d<l.length->(f (ix c)).ownBlock=some b->(f (ix d)).ownBlock=some b->c=d
 out:∀c b,c<l.length->(f (ix c)).ownBlock=some b->v.ownBlock≠some b
 eq:u=f (ix i)
def adp {α:Type}[Data α](v u:af)(f:Lit->af)(i:Nat)(e ie:ax)(l:List (List α)):Rs where
 ok S w:=TB S w v u f i e ie l
 has b:=v.ownBlock=some b\/∃c,c<l.length/\c≠i/\(f (ix c)).ownBlock=some b
 keep:=by
  intro S w w' H hk hb;have⟨xs,h1,h2,h3⟩:=H.row;exact⟨⟨xs,h1.keep λb q=>hb b (.inl q),h2,λd h=>⟨(h3 d h).1,λhd=>((h3 d h).2 hd).keep hk λb q=>hb b (.inr ⟨d,h,hd,q⟩)⟩⟩,H.inj,H.out,H.eq⟩
 up:=λS S' w H hs=>⟨let⟨xs,h1,h2,h3⟩:=H.row;⟨xs,h1,h2,λd h=>⟨(h3 d h).1,λhd=>((h3 d h).2 hd).up hs⟩⟩,H.inj,H.out,H.eq⟩
structure vF {k:Kc}{α:Type}[Data α](S:iF)(w:aa)(b:Nat)(f:Lit->af)(h:Option (jw k))(ie:ax)(m:iI k (List α)):Prop where
 map:∃zs:List (jw k×(af×List α)),lE k w b (zs.map λq=>(q.1,q.2.1))/\m=zs.map (λq=>(q.1,q.2.2))/\∀z∈zs,h≠some z.1->z.2.1=f (kY k z.1)/\lg S w ie z.2.1 z.2.2
 non:∀x,iB m x=none->h≠some x->f (kY k x)= .slice none 0 0
 inj:∀x y c,h≠some x->h≠some y->(f (kY k x)).ownBlock=some c->(f (kY k y)).ownBlock=some c->x=y
 out:∀x c,h≠some x->(f (kY k x)).ownBlock=some c->c≠b
def TC {k:Kc}{α:Type}[Data α](y:Option Nat)(f:Lit->af)(h:Option (jw k))(ie:ax)(m:iI k (List α)):Rs where
 ok S w:=∃b,y=some b/\vF S w b f h ie m
 has c:=y=some c\/∃x,h≠some x/\(f (kY k x)).ownBlock=some c
 keep:=by
  intro S w w' ⟨b,e,H⟩ hk hb;have⟨zs,h1,h2,h3⟩:=H.map;exact⟨b,e,⟨zs,h1.keep (hb b (.inl e)),h2,λz hz hh=>⟨(h3 z hz hh).1,(h3 z hz hh).2.keep hk λc q=>hb c (.inr ⟨z.1,hh,by rw[<-(h3 z hz hh).1];exact q⟩)⟩⟩,H.non,H.inj,H.out⟩
 up:=λS S' w ⟨b,e,H⟩ hs=>⟨b,e,let⟨zs,h1,h2,h3⟩:=H.map;⟨zs,h1,h2,λz hz hh=>⟨(h3 z hz hh).1,(h3 z hz hh).2.up hs⟩⟩,H.non,H.inj,H.out⟩
def oz {α:Type}[Data α](S:iF)(w:aa)(b:Nat)(y:α):Prop:=∃cur t fz cs,S b/\w.heap[b]?=some (.cells cur t fz)/\Data.rd S w cs y/\∀j,j<Data.size α->cur[j]?=cs[j]?
def ace {α:Type}[Data α](b:Nat)(y:α):Rs where
 ok S w:=oz S w b y
 has _:=False
 keep:=λS w w' ⟨cur,t,fz,cs,h1,h2,h3,h4⟩ hk _=>⟨cur,t,fz,cs,h1,(hk b h1).trans h2,Data.keep hk h3,h4⟩
 up:=λS S' w ⟨cur,t,fz,cs,h1,h2,h3,h4⟩ hs=>⟨cur,t,fz,cs,hs b h1,h2,Data.up hs h3,h4⟩
def acf {k:Kc}{α:Type}[Data α](y:Option Nat)(f:Lit->af)(m:iI k α)(key:jw k):Rs where
 ok S w:=∃b,y=some b/\p9 S w b m/\∃st,f (kY k key)= .int .i64 st/\QL k w b key st
 has b:=y=some b
 keep:=λS w w' ⟨b,e,h,st,h1,h2⟩ hk hb=>⟨b,e,h.keep hk (hb b e),st,h1,h2.keep (hb b e)⟩
 up:=λS S' w ⟨b,e,h,h2⟩ hs=>⟨b,e,h.up hs,h2⟩
def OC (D:Nat):Rs:=⟨λ_ w=>w.heap[D]?=some (.deferred (some [])),λb=>b=D,λ_ _ _ h _ hb=>(hb D rfl).trans h,λ_ _ _ h _=>h⟩
def zL (s:ByteArray):List af:=s.data.toList.map λx=>.int .u8 (x.toNat:Int)
theorem vG {w w':aa}{base:Nat}{e:ax}{sz:Nat}{v:af}{n:Nat}{xs:List af}(h:w.ownsRow base e sz v n xs)(hb:∀b,v.ownBlock=some b->w'.heap[b]?=w.heap[b]?):w'.ownsRow base e sz v n xs:=
 ⟨h.1,h.2.imp id λ⟨g,cap,cur,e1,e2,e3,r⟩=>⟨g,cap,cur,e1,e2,(hb g (by rw[e1];rfl)).trans e3,r⟩⟩
def afN (e:ax)(v:af)(s:ByteArray):Rs:=⟨λ_ w=>w.ownsRow 0 e 1 v s.size (zL s),λb=>v.ownBlock=some b,λ_ _ _ h _ hb=>vG h hb,λ_ _ _ h _=>h⟩
def X2.den (A:ju)(j:Nat):X2->Rs
 | .nest q h e t ie l=>yO (A.v j) (A.f q) h e t ie l
 | .kP q _ h _ ie m=>TC (A.m j) (A.f q) h ie m
 | .zJ _ x=>.of (.ro (.pointer (A.p j)) x)
 | .par _ _=>xd
 | .HH _ x=>ace (A.b j) x
 | .CD _ _=>xd
 | .HI q _ _ m x=>acf (A.m j) (A.f q) m x
 | .Fi D=>OC D
 | .sZ e s=>afN e (A.v j) s
 | .nb q k i e _ ie l=>adp (A.v j) (A.v k) (A.f q) i e ie l
def X2.all (F:Nat->Prop):X2->Prop
 | .nest q _ _ _ _ _=>F q
 | .kP q _ _ _ _ _=>F q
 | .HI q _ _ _ _=>F q
 | .nb q k _ _ _ _ _=>F q/\F k
 |_=>True
def R2.den (A:ju)(j:Nat):R2->Rs
 | .ro t l=>.of (@o9.ro (List (El t)) _ (A.v j) l)
 | .ar _ _=>xd
 | .row e t l=>@xe (El t) _ e (A.v j) l
 | .box t cs=>.of (.box (A.b j) t (cs.map (Sc.den A)))
 | .wO _ _ m=>.of (.ro (.map (A.m j)) m)
 | .BR _ _ _=>xd
 | .map _ _ m=>yC (A.m j) m
 | .iter _ _ m lf cnt cur=>MT (A.b j) m lf cnt cur
 | .ext x=>x.den A j
def R2.all (F:Nat->Prop):R2->Prop
 | .box _ cs=> ∀c∈cs,c.all F
 | .ext x=>x.all F
 |_=>True
def kD (F:Nat->Prop)(A B:ju):Prop:=∀j,F j->A.v j=B.v j/\A.b j=B.b j/\A.f j=B.f j/\A.m j=B.m j
theorem kD.set {F:Nat->Prop}{A:ju}{j:Nat}(h:¬F j)(p:Option bJ)(n c b:Nat):kD F A (A.set j p n c b):=λk hk=>by
 have:k≠j:=λe=>h (e▸hk);simp[ju.set,ju.v,this]
theorem kD.mZ {F:Nat->Prop}{A:ju}{j:Nat}(h:¬F j)(g:Lit->af):kD F A (A.mZ j g):=λk hk=>by
 have:k≠j:=λe=>h (e▸hk);simp[ju.mZ,ju.v,this]
theorem kD.iP {F:Nat->Prop}{A:ju}{j:Nat}(h:¬F j)(x:Option Nat):kD F A (A.iP j x):=λk hk=>by
 have:k≠j:=λe=>h (e▸hk);simp[ju.iP,ju.v,this]
theorem kD.refl (F:Nat->Prop)(A:ju):kD F A A:=λ_ _=>⟨rfl,rfl,rfl,rfl⟩
theorem kD.trans {F:Nat->Prop}{A B C:ju}(h:kD F A B)(k:kD F B C):kD F A C:=λj hj=>⟨(h j hj).1.trans (k j hj).1,(h j hj).2.1.trans (k j hj).2.1,(h j hj).2.2.1.trans (k j hj).2.2.1,(h j hj).2.2.2.trans (k j hj).2.2.2⟩
theorem kD.mono {F G:Nat->Prop}{A B:ju}(h:kD G A B)(hs:∀j,F j->G j):kD F A B:=λj hj=>h j (hs j hj)
section
variable {F:Nat->Prop}{A B:ju}
theorem kD.p (h:kD F A B){j:Nat}(k:F j):A.p j=B.p j:=by
 have:=(h j k).1;unfold ju.v at this;injection this
theorem Sc.congr (h:kD F A B):∀ {s:Sc},s.all F->s.den A=s.den B
 | .v _,_=>rfl
 | .b _,_=>rfl
 | .own j,k=>(h j k).1
 | .mp j,k=>by simp only[den];rw[(h j k).2.2.2]
 | .ptr j off,k=>by simp only[den];rw[(h j k).2.1]
 | .el j i sz off,k=>by simp only[den];rw[(h j k).1]
 | .r9 f jL,k=>by
  simp only[den]
  congr 2
  exact dg λc hc=>by rw[(h c.1 (k c hc)).2.1]
 | .hd p q ix,k=>by simp only[den];rw[(h q k.2).2.2.1]
 | .pd j,k=>by simp only[den];rw[h.p k]
theorem qT (h:kD F A B){cs:List Sc}(k:∀c∈cs,c.all F):cs.map (Sc.den A)=cs.map (Sc.den B):=dg λc hc=>Sc.congr h (k c hc)
theorem Sy.congr (h:kD F A B):∀ {s:Sy},s.all F->s.den A=s.den B
 | .one s,k=>Sc.congr h k
 | .agg cs,k=>by simp only[den];rw[qT h k]
 | .tQ ps,k=>by
  simp only[den]
  congr 2
  exact dg λp hp=>by unfold m6;rw[qT h (k p hp)]
theorem X2.congr (h:kD F A B){j:Nat}(hj:F j):∀ {r:X2},r.all F->r.den A j=r.den B j
 | .nest q _ _ _ _ _,k=>by simp only[den];rw[(h j hj).1,(h q k).2.2.1]
 | .kP q _ _ _ _ _,k=>by simp only[den];rw[(h j hj).2.2.2,(h q k).2.2.1]
 | .zJ _ _,_=>by simp only[den];rw[h.p hj]
 | .par _ _,_=>rfl
 | .HH _ _,_=>by simp only[den];rw[(h j hj).2.1]
 | .CD _ _,_=>rfl
 | .HI q _ _ _ _,k=>by simp only[den];rw[(h j hj).2.2.2,(h q k).2.2.1]
 | .Fi _,_=>rfl
 | .sZ _ _,_=>by simp only[den];rw[(h j hj).1]
 | .nb q k _ _ _ _ _,z=>by simp only[den];rw[(h j hj).1,(h q z.1).2.2.1,(h k z.2).1]
theorem R2.congr (h:kD F A B){j:Nat}(hj:F j):∀ {r:R2},r.all F->r.den A j=r.den B j
 | .ro t l,_=>by simp only[den];rw[(h j hj).1]
 | .ar t l,_=>rfl
 | .row e t l,_=>by simp only[den];rw[(h j hj).1]
 | .box t cs,k=>by simp only[den];rw[(h j hj).2.1,qT h k]
 | .wO k t m,_=>by simp only[den];rw[(h j hj).2.2.2]
 | .BR k t m,_=>rfl
 | .map k t m,_=>by simp only[den];rw[(h j hj).2.2.2]
 | .iter k t m lf cnt cur,_=>by simp only[den];rw[(h j hj).2.1]
 | .ext x,k=>X2.congr h hj k
variable {G:Nat->Prop}
theorem Sc.mono (h:∀j,F j->G j):∀ {s:Sc},s.all F->s.all G
 | .v _,_=>trivial
 | .b _,_=>trivial
 | .own j,k=>h j k
 | .mp j,k=>h j k
 | .ptr j _,k=>h j k
 | .el j _ _ _,k=>h j k
 | .r9 _ _,k=>λc hc=>h _ (k c hc)
 | .hd _ _ _,k=>⟨h _ k.1,h _ k.2⟩
 | .pd _,k=>h _ k
theorem Sy.mono (h:∀j,F j->G j):∀ {s:Sy},s.all F->s.all G
 | .one _,k=>Sc.mono h k
 | .agg _,k=>λc hc=>Sc.mono h (k c hc)
 | .tQ _,k=>λp hp c hc=>Sc.mono h (k p hp c hc)
theorem X2.mono (h:∀j,F j->G j):∀ {r:X2},r.all F->r.all G
 | .nest _ _ _ _ _ _,k=>h _ k
 | .kP _ _ _ _ _ _,k=>h _ k
 | .zJ _ _,_=>trivial
 | .par _ _,_=>trivial
 | .HH _ _,_=>trivial
 | .CD _ _,_=>trivial
 | .HI _ _ _ _ _,k=>h _ k
 | .Fi _,_=>trivial
 | .sZ _ _,_=>trivial
 | .nb _ _ _ _ _ _ _,z=>⟨h _ z.1,h _ z.2⟩
theorem R2.mono (h:∀j,F j->G j):∀ {r:R2},r.all F->r.all G
 | .ro _ _,_=>trivial
 | .ar _ _,_=>trivial
 | .row _ _ _,_=>trivial
 | .box _ _,k=>λc hc=>Sc.mono h (k c hc)
 | .wO _ _ _,_=>trivial
 | .BR _ _ _,_=>trivial
 | .map _ _ _,_=>trivial
 | .iter _ _ _ _ _ _,_=>trivial
 | .ext _,k=>X2.mono h k
end
structure pU (w w':aa)(H:Nat->Prop):Prop where
 os:w'.os=w.os
 tape:w'.tape=w.tape
 output:w'.output=w.output
 size:w.heap.size<=w'.heap.size
 block:∀k,k<w.heap.size->¬H k->w'.heap[k]?=w.heap[k]?
theorem pU.of {w w':aa}{r:Option Nat}(h:w.grownBy w' r):pU w w' (λb=>r=some b):=⟨h.os,h.tape,h.output,h.size,λk hk hn=>h.block k hk λe=>hn e.symm⟩
theorem pU.refl (w:aa)(H:Nat->Prop):pU w w H:=⟨rfl,rfl,rfl,ay _,λ_ _ _=>rfl⟩
theorem pU.trans {a b c:aa}{H K:Nat->Prop}(h:pU a b H)(k:pU b c K)(hk:∀j,j<a.heap.size->K j->H j):pU a c H:=
 ⟨k.os.trans h.os,k.tape.trans h.tape,k.output.trans h.output,aU h.size k.size,λj hj hn=>(k.block j (bf hj h.size) λq=>hn (hk j hj q)).trans (h.block j hj hn)⟩
theorem pU.below {a b:aa}{H:Nat->Prop}(h:Below a.heap.size a b):pU a b H:=⟨h.os,h.tape,h.output,h.size,λk hk _=>h.block k hk⟩
structure jh extends Orig where
 G:Nat->Prop
 gS:∀k,G k->¬S k
 Y9:∀k,G k->k<w.heap.size
 pF:Nat->Prop
 pA:ju
 kp:Nat
def TD:ju:=⟨λ_=>none,λ_=>0,λ_=>0,λ_=>0,λ_ _=>undef,λ_=>none⟩
def jh.of (o:Orig):jh:=⟨o,λ_=>False,λ_ h=>h.elim,λ_ h=>h.elim,λ_=>False,TD,0⟩
def jh.new (o:jh)(b:Nat):Prop:=o.w.heap.size<=b\/o.G b
def jh.old (o:jh):iF:=λk=>k<o.w.heap.size/\¬o.G k
abbrev HK (o:jh)(w':aa):iF:=λk=>o.S k\/(o.new k/\k<w'.heap.size)
structure nK (o:jh)(w:aa)(S:iF)(f:Nat->Option Rs):Prop where
 sw:pU o.w w o.G
 src:∀k,S k->o.S k\/o.new k
 nO:∀k,S k->k<w.heap.size
 ok:∀j r,f j=some r->r.ok S w
 own:∀j r b,f j=some r->r.has b->o.new b/\b<w.heap.size/\¬S b
 apart:∀i j ri rj b,f i=some ri->f j=some rj->ri.has b->rj.has b->i=j
def ni {α:Type}(f:Nat->Option α)(j:Nat)(x:Option α):Nat->Option α:=λk=>if k=j then x else f k
section
variable {o:jh}{w w':aa}{S S':iF}{f:Nat->Option Rs}
theorem jh.J6 {b:Nat}(h:pU o.w w o.G)(k:w.heap.size<=b):o.new b:=.inl (aU h.size k)
theorem nK.old (h:nK o w S f):kN o.old o.w w:=λk hk=>h.sw.block k hk.1 hk.2
theorem nK.start (o:jh):nK o o.w o.S (λ_=>none):=
 ⟨pU.refl _ _,λ_ h=>.inl h,o.ok,λ_ _ h=>(by cases h),λ_ _ _ h=>(by cases h),λ_ _ _ _ _ h=>(by cases h)⟩
abbrev nK.at (h:nK o w S f):Orig:=⟨w,S,h.nO⟩
theorem nK.sub {g:Nat->Option Rs}(h:nK o w S f)(hg:∀j r,g j=some r->f j=some r):nK o w S g:=
 ⟨h.sw,h.src,h.nO,λj r k=>h.ok j r (hg j r k),λj r b k=>h.own j r b (hg j r k),λi j ri rj b k l=>h.apart i j ri rj b (hg i ri k) (hg j rj l)⟩
theorem nK.acg (h:nK o w S f){j:Nat}{r:Rs}(hj:f j=some r)(hb:Below w.heap.size w w'):∀b,r.has b->w'.heap[b]?=w.heap[b]?:=λb e=>hb.block b (h.own j r b hj e).2.1
theorem nK.on (h:nK o w S f)(hb:Below w.heap.size w w'):nK o w' S f where
 sw:=h.sw.trans (pU.below (H:=λ_=>False) hb) λ_ _ q=>q.elim
 src:=h.src
 nO k hk:=bf (h.nO k hk) hb.size
 ok j r hj:=r.keep _ _ _ (h.ok j r hj) (λk hk=>hb.block k (h.nO k hk)) (h.acg hj hb)
 own j r b hj e:=let⟨h1,h2,h3⟩:=h.own j r b hj e;⟨h1,bf h2 hb.size,h3⟩
 apart:=h.apart
theorem nK.call (h:nK o w S f)(hb:Below w.heap.size w w'):nK o w' (λk=>S k\/(w.heap.size<=k/\k<w'.heap.size)) f where
 sw:=(h.on hb).sw
 src k hk:=hk.elim (h.src k) λq=>.inr (jh.J6 h.sw q.1)
 nO k hk:=hk.elim (λq=>bf (h.nO k q) hb.size) λq=>q.2
 ok j r hj:=r.up _ _ _ (r.keep _ _ _ (h.ok j r hj) (λk hk=>hb.block k (h.nO k hk)) (h.acg hj hb)) λ_=>.inl
 own j r b hj e:=let⟨h1,h2,h3⟩:=h.own j r b hj e;⟨h1,bf h2 hb.size,λq=>q.elim h3 λq=>alb _ (bf h2 q.1)⟩
 apart:=h.apart
theorem nK.put (h:nK o w S f)(j:Nat)(r:Rs)(qj:r.ok S w)(hb:∀b,r.has b->o.new b/\b<w.heap.size/\¬S b/\∀i ri,i≠j->f i=some ri->¬ri.has b):nK o w S (ni f j (some r)) where
 sw:=h.sw
 src:=h.src
 nO:=h.nO
 ok i ri hi:=by
  unfold ni at hi;split at hi
  .cases hi;exact qj
  exact h.ok i ri hi
 own i ri b hi e:=by
  unfold ni at hi;split at hi
  .cases hi;obtain⟨h1,h2,h3,_⟩:=hb b e;exact⟨h1,h2,h3⟩
  exact h.own i ri b hi e
 apart i k ri rk b hi hk ei ek:=by
  unfold ni at hi hk;split at hi<;>split at hk
  .rename_i a c;exact a.trans c.symm
  .rename_i a c;cases hi;exact((hb b ei).2.2.2 k rk c hk ek).elim
  .rename_i a c;cases hk;exact((hb b ek).2.2.2 i ri a hi ei).elim
  exact h.apart i k ri rk b hi hk ei ek
theorem nK.TE (h:nK o w S f)(j:Nat){α:Type}[Data α]{v:af}{a:α}(hr:Rd S w v a):nK o w S (ni f j (some (Rs.of (.ro v a)))):=h.put j _ hr λb e=>by cases e
theorem nK.Fj (h:nK o w S f)(j:Nat){r:Rs}(hr:r.ok S w)(hn:∀b,¬r.has b):nK o w S (ni f j (some r)):=h.put j r hr λb e=>(hn b e).elim
theorem nK.TF (h:nK o w S f)(j:Nat)(x:Obj)(r:Rs)(qj:r.ok S (w.alloc x))(hb:∀b,r.has b->b=w.heap.size):nK o (w.alloc x) S (ni f j (some r)):=by
 refine(h.on (oJ w x)).put j r qj λb e=>?_;have e:=hb b e;subst e;have m9:w.heap.size<(w.alloc x).heap.size:=by simp
 refine⟨jh.J6 h.sw (ay _),m9,λq=>alb _ (h.nO _ q),λi ri _ hi e=>alb _ (h.own i ri _ hi e).2.1⟩
theorem nK.swap (h:nK o w S f){g:Nat->Option Rs}{N K:Nat->Prop}(hc:pU w w' (λb=> ∃j r,K j/\f j=some r/\r.has b))(hS:∀k,S k->S' k)
  (hS':∀k,S' k->S k\/(((∃j r,K j/\f j=some r/\r.has k)\/w.heap.size<=k)/\k<w'.heap.size/\∀j r,N j->g j=some r->¬r.has k))
  (hold:∀j r,¬N j->g j=some r->¬K j/\f j=some r) (qj:∀j r,N j->g j=some r->r.ok S' w')
  (uu:∀j r b,N j->g j=some r->r.has b->((∃i ri,K i/\f i=some ri/\ri.has b)\/w.heap.size<=b)/\b<w'.heap.size)
  (TG:∀i j ri rj b,N i->N j->g i=some ri->g j=some rj->ri.has b->rj.has b->i=j):nK o w' S' g:=by
 have hKn:∀b,(∃j r,K j/\f j=some r/\r.has b)->o.new b/\b<w.heap.size/\¬S b:=λb ⟨j,r,_,h2,h3⟩=>h.own j r b h2 h3;have hKo:∀j r b,¬K j->f j=some r->r.has b->¬ ∃i ri,K i/\f i=some ri/\ri.has b:=λj r b hj hf hb ⟨i,ri,h1,h2,h3⟩=>hj (by rw[h.apart j i r ri b hf h2 hb h3];exact h1);have wo:kN S w w':=λk hk=>hc.block k (h.nO k hk) λq=>(hKn k q).2.2 hk;refine⟨h.sw.trans hc λj hj q=>?_,λk hk=>?_,λk hk=>?_,λj r hj=>?_,λj r b hj hb=>?_,λi j ri rj b hi hj ei ej=>?_⟩
 .rcases(hKn j q).1 with q|q
  .omega
  exact q
 .rcases hS' k hk with q|⟨q,_⟩
  .exact h.src k q
  rcases q with q|q
  .exact .inr (hKn k q).1
  exact .inr (jh.J6 h.sw q)
 .rcases hS' k hk with q|q
  .exact bf (h.nO k q) hc.size
  exact q.2.1
 .by_cases hN:N j
  .exact qj j r hN hj
  obtain⟨h1,h2⟩:=hold j r hN hj;exact r.up _ _ _ (r.keep _ _ _ (h.ok j r h2) wo λb hb=>hc.block b (h.own j r b h2 hb).2.1 (hKo j r b h1 h2 hb)) hS
 .by_cases hN:N j
  .obtain⟨h1,h2⟩:=uu j r b hN hj hb;refine⟨?_,h2,λq=>?_⟩
   .rcases h1 with h1|h1
    .exact(hKn b h1).1
    exact jh.J6 h.sw h1
   rcases hS' b q with q|⟨_,_,q⟩
   .rcases h1 with h1|h1
    .exact(hKn b h1).2.2 q
    have:=h.nO b q;omega
   exact q j r hN hj hb
  obtain⟨h1,h2⟩:=hold j r hN hj;obtain⟨k1,k2,k3⟩:=h.own j r b h2 hb;refine⟨k1,bf k2 hc.size,λq=>?_⟩;rcases hS' b q with q|⟨q,_,_⟩
  .exact k3 q
  rcases q with q|q
  .exact hKo j r b h1 h2 hb q
  omega
 by_cases hNi:N i<;>by_cases hNj:N j
 .exact TG i j ri rj b hNi hNj hi hj ei ej
 .obtain⟨h1,h2⟩:=hold j rj hNj hj;rcases(uu i ri b hNi hi ei).1 with q|q
  .exact(hKo j rj b h1 h2 ej q).elim
  have:=(h.own j rj b h2 ej).2.1;omega
 .obtain⟨h1,h2⟩:=hold i ri hNi hi;rcases(uu j rj b hNj hj ej).1 with q|q
  .exact(hKo i ri b h1 h2 ei q).elim
  have:=(h.own i ri b h2 ei).2.1;omega
 exact h.apart i j ri rj b (hold i ri hNi hi).2 (hold j rj hNj hj).2 ei ej
theorem nK.mut (h:nK o w S f)(j:Nat){r:Rs}(hj:f j=some r)(hg:pU w w' r.has):nK o w' S (ni f j none):=by
 refine h.swap (N:=λ_=>False) (K:=λi=>i=j) ⟨hg.os,hg.tape,hg.output,hg.size,λk hk hn=>hg.block k hk λq=>hn ⟨j,r,rfl,hj,q⟩⟩ (λ_ q=>q) (λ_ q=>.inl q) (λi ri _ hi=>?_) (λ_ _ q=>q.elim) (λ_ _ _ q=>q.elim) (λ_ _ _ _ _ q=>q.elim);unfold ni at hi;split at hi
 .cases hi
 rename_i mc;exact⟨mc,hi⟩
end
inductive Tr (α:Type 1):Type 1 where
 |ret (a:α)
 |fail
 |slot (t:Nat) (k:E2->Tr α)
 |res (j:Nat) (k:R2->Tr α)
def Tr.run {α:Type 1}(s:Nat->Option E2)(r:Nat->Option R2):Tr α->Option α
 | .ret a=>some a
 | .fail=>none
 | .slot t k=>match s t with
  |some e=>(k e).run s r
  |none=>none
 | .res j k=>match r j with
  |some x=>(k x).run s r
  |none=>none
theorem Tr.mono {α:Type 1}{s s':Nat->Option E2}{r r':Nat->Option R2}(hs:∀t e,s t=some e->s' t=some e)(hr:∀j x,r j=some x->r' j=some x):∀(T:Tr α) {a:α},T.run s r=some a->T.run s' r'=some a
 | .ret _,_,h=>h
 | .fail,_,h=>h
 | .slot t k,a,h=>by
  simp only[run] at h ⊢;split at h
  .rename_i e he;rw[hs t e he];exact Tr.mono hs hr _ h
  cases h
 | .res j k,a,h=>by
  simp only[run] at h ⊢;split at h
  .rename_i e he;rw[hr j e he];exact Tr.mono hs hr _ h
  cases h
structure Hid where
 lhs:ju->aa->Result af
 rhs:ju->aa->Result af
structure Out:Type 1 where
 cs:List Prop
 hs:List Hid
 sy:Sy
 re:List (Nat×Option R2)
def QM:List Prop->Prop
 |[]=>True
 |[p]=>p
 |p::q::r=>p/\QM (q::r)
theorem OD:∀ {l:List Prop},QM l↔∀p∈l,p
 |[]=>by simp[QM]
 |[p]=>by rw[List.forall_mem_singleton];rfl
 |p::q::r=>by
  show(p/\QM (q::r))↔_;rw[List.forall_mem_cons,OD]
def jz (i:Int)(n:Nat):Prop:=0<=i/\i<(n:Int)
theorem bd {i:Int}{n:Nat}(h:0<=i/\i<(n:Int):=by omega):jz i n:=h
theorem jK {n:Int}(h: -9223372036854775808<=n/\n<=9223372036854775807:=by omega):jm .i64 n:=h
def tV:af->Sc
 | .bool b=>.b (.lit b)
 |v=>.v v
def Fk:af->Sy
 | .agg cs=>.agg (cs.toList.map tV)
 |v=>.one (tV v)
def oZ {α:Type 1}(C:List (Nat×Bool)):aL->(Sy->Tr α)->Tr α
 | .tmp t,k=>.slot t λe=>match e.ch.isPrefixOf C with
  |true=>k e.sy
  |false=>.fail
 | .const v,k=>k (Fk v)
 | .func f,k=>k (.one (.r9 f []))
 | .global _,_=>.fail
def QN {α:Type 1}(C:List (Nat×Bool)):List aL->(List Sy->Tr α)->Tr α
 |[],k=>k []
 |x::l,k=>oZ C x λs=>QN C l λr=>k (s::r)
def one (s:Sc):Tr Out:=.ret ⟨[],[],.one s,[]⟩
def wv (p:Prop)(s:Sc):Tr Out:=.ret ⟨[p],[],.one s,[]⟩
def num (n:Int):Sc:=.v (.int .i64 n)
def iX {α:Type 1}(b:Bool)(T:Tr α):Tr α:=match b with
 |true=>T
 |false=>.fail
abbrev OE:Ty->Nat:=iN
theorem TH (t:Ty):OE t=Data.size (El t):=kr t
def ji (k:Bool):Nat->List sX->List Sc×List (Nat×Option R2)
 |_,[]=>([],[])
 |b,.i n::r=>let x:=ji k b r;(num n::x.1,x.2)
 |b,.b e::r=>let x:=ji k b r;(.b (.raw e)::x.1,x.2)
 |b,.s s::r=>let x:=ji k b r;(.v (.string s)::x.1,x.2)
 |b,.l t l::r=>let x:=ji k (b+1) r;(.own b::x.1,(b,some (match k with|true=>.ro t l|false=>.ar t l))::x.2)
 |b,.m q t m::r=>let x:=ji k (b+1) r;(.mp b::x.1,(b,some (match k with|true=>.wO q t m|false=>.BR q t m))::x.2)
 |b,.p t y::r=>let x:=ji k (b+1) r;(.pd b::x.1,(b,some (match k with|true=>.ext (.zJ t y)|false=>.ext (.par t y)))::x.2)
def ob:R2->Option ((t:Ty)×List (El t))
 | .ro t l=>some ⟨t,l⟩
 | .ar t l=>some ⟨t,l⟩
 | .row _ t l=>some ⟨t,l⟩
 |_=>none
def J7:R2->Option ((k:Kc)×(t:Ty)×iI k (El t))
 | .wO k t m=>some ⟨k,t,m⟩
 | .BR k t m=>some ⟨k,t,m⟩
 | .map k t m=>some ⟨k,t,m⟩
 |_=>none
def OG:R2->Option ((t:Ty)×List (El t))
 | .ext (.nest _ _ _ t _ l)=>some ⟨t,l⟩
 |x=>ob x
def ach:R2->Option ((t:Ty)×List (El t))
 | .ext (.nest _ none _ t _ l)=>some ⟨t,l⟩
 |x=>ob x
def aiF:R2->Option ((k:Kc)×(t:Ty)×iI k (El t))
 | .ext (.kP _ k _ t _ m)=>some ⟨k,.list t,m⟩
 |x=>J7 x
def MU:R2->Option ((k:Kc)×(t:Ty)×iI k (El t))
 | .ext (.kP _ k none t _ m)=>some ⟨k,.list t,m⟩
 |x=>J7 x
def J8:R2->Option ((t:Ty)×tU (El t))
 | .ext (.zJ t x)=>some ⟨t,x⟩
 | .ext (.par t x)=>some ⟨t,x⟩
 |_=>none
def TI:R2->Option ((t:Ty)×El t)
 | .ext (.HH t x)=>some ⟨t,x⟩
 | .ext (.CD t x)=>some ⟨t,x⟩
 |_=>none
def od:R2->Bool
 | .ar _ _=>false
 | .BR _ _ _=>false
 | .ext (.par _ _)=>false
 | .ext (.CD _ _)=>false
 |_=>true
def arith (op:BinOp)(k:dJ)(a b:Int):Tr Out:=
 match op with
 | .add=>wv (jm k (a+b)) (.v (.int k (a+b)))
 | .sub=>wv (jm k (a-b)) (.v (.int k (a-b)))
 | .mul=>wv (jm k (a*b)) (.v (.int k (a*b)))
 | .quo=>wv (0<=a/\0<b/\jm k a) (.v (.int k (a/b)))
 | .rem=>wv (0<=a/\0<b) (.v (.int k (a%b)))
 | .eql=>one (.b (.dec (a=b) inferInstance))
 | .neq=>one (.b (.not (.dec (a=b) inferInstance)))
 | .lss=>one (.b (.dec (a<b) inferInstance))
 | .leq=>one (.b (.dec (a<=b) inferInstance))
 | .gtr=>one (.b (.dec (b<a) inferInstance))
 | .geq=>one (.b (.dec (b<=a) inferInstance))
 | .shr=>iX (decide (k= .u64) && decide (b=1)) (one (.v (.int .u64 (a/2))))
 | .xor=>iX (decide (k= .i64) && decide (b=1)) (wv (0<=a/\a<=9223372036854775807) (.v (.int .i64 (if a%2=0 then a+1 else a-1))))
 |_=>.fail
def Za:BE->BE->BE
 |x,.lit true=>x
 |x,y=>.and x y
def Zb (P:az)(cs ds:List Sc):List Field->Option BE
 |[]=>some (.lit true)
 |f::fs=>match f.name== "_",P.underlying f.type,cs[f.offset]?,ds[f.offset]?,Zb P cs ds fs with
  |false,some (.int _),some (.v (.int k a)),some (.v (.int k2 b)),some e=>match decide (k=k2) with
   |true=>some (Za (.dec (a=b) inferInstance) e)
   |false=>none
  |false,some .string,some (.v (.string a)),some (.v (.string b)),some e=>some (Za (.dec (a=b) inferInstance) e)
  |_,_,_,_,_=>none
def OH (P:az)(t:ax)(cs ds:List Sc)(k:BE->Tr Out):Tr Out:=match P.underlying t with
 |some (.struct fs)=>iX (!P.stoodInHeld t && !P.eqGuardType P.depth t) (match Zb P cs ds fs.toList with
  |some e=>k e
  |none=>.fail)
 |_=>.fail
def adq (P:az)(op:BinOp)(t:ax):Sy->Sy->Tr Out
 | .agg cs,.agg ds=>match op with
  | .eql=>OH P t cs ds λe=>one (.b e)
  | .neq=>OH P t cs ds λe=>one (.b (.not e))
  |_=>.fail
 | .one (.v (.int k a)),.one (.v (.int k' b))=>iX (decide (k=k')) (arith op k a b)
 | .one (.v (.string a)),.one (.v (.string b))=>match op with
  | .add=>wv (a.size+b.size<=9223372036854775807) (.v (.string (a++b)))
  | .eql=>one (.b (.dec (a=b) inferInstance))
  | .neq=>one (.b (.not (.dec (a=b) inferInstance)))
  |_=>.fail
 | .one (.pd j),.one (.v (.pointer none))=>match P.underlying t,op with
  |some (.pointer _),.eql=>.res j λx=>match J8 x with
   |some ⟨t',y⟩=>one (.b (.raw (show Option (El t') from y).isNone))
   |none=>.fail
  |some (.pointer _),.neq=>.res j λx=>match J8 x with
   |some ⟨t',y⟩=>one (.b (.raw (show Option (El t') from y).isSome))
   |none=>.fail
  |_,_=>.fail
 | .one (.ptr j off),.one (.v (.pointer none))=>match P.underlying t,op with
  |some (.pointer _),.eql=>one (.b (.lit false))
  |some (.pointer _),.neq=>one (.b (.lit true))
  |_,_=>.fail
 | .one (.r9 _ _),.one (.v .nilFunc)=>match P.underlying t,op with
  |some (.func _ _ _),.eql=>one (.b (.lit false))
  |some (.func _ _ _),.neq=>one (.b (.lit true))
  |_,_=>.fail
 | .one (.b a),.one (.b b)=>match P.underlying t,op with
  |some .bool,.eql=>one (.b (.raw (a.den==b.den)))
  |some .bool,.neq=>one (.b (.not (.raw (a.den==b.den))))
  |_,_=>.fail
 |_,_=>.fail
def BS (j q:Nat)(i:Int)(sz:Nat):Nat->List sX->Option (List Sc)
 |_,[]=>some []
 |c,.i n::r=>(BS j q i sz (c+1) r).map (num n:: ·)
 |c,.b e::r=>(BS j q i sz (c+1) r).map (.b (.raw e):: ·)
 |c,.s s::r=>(BS j q i sz (c+1) r).map (.v (.string s):: ·)
 |c,.l _ _::r=>(BS j q i sz (c+1) r).map (.hd j q (.el i sz c):: ·)
 |_,.m _ _ _::_=>none
 |_,.p _ _::_=>none
def akj (P:az)(t:ax)(n:Nat)(one:Tr Out)(many:Tr Out):Tr Out:=
 match P.underlying t with
 |some (.struct _)=>iX ((P.info? t).isSome && aK n (P.cellsOf t)) many
 |some (.array _ _)=>.fail
 |some _=>one
 |none=>.fail
def J9 (P:az)(k:Bool)(b:Nat)(t:ax)(cs:List sX)(off:Nat):Tr Out:=
 match P.underlying t with
 |some (.struct _)=>
  let c:=ji k b ((cs.drop off).take (P.cellsOf t))
  iX ((P.info? t).isSome && aK c.1.length (P.cellsOf t)) (.ret ⟨[],[],.agg c.1,c.2⟩)
 |some (.array _ _)=>.fail
 |some _=>match cs[off]? with
  |some c=>match ji k b [c] with
   |([s],re)=>.ret ⟨[],[],.one s,re⟩
   |_=>.fail
  |none=>.fail
 |none=>.fail
def TJ (P:az)(b:Nat)(t:ax):Sy->Tr Out
 | .one (.ptr j off)=>.res j λx=>match x with
  | .box _ cs=>match P.underlying t with
   |some (.struct _)=>iX ((P.info? t).isSome && aK ((cs.drop off).take (P.cellsOf t)).length (P.cellsOf t)) (.ret ⟨[],[],.agg ((cs.drop off).take (P.cellsOf t)),[]⟩)
   |some (.array _ _)=>.fail
   |some _=>match cs[off]? with
    |some s=>one s
    |none=>.fail
   |none=>.fail
  | .ext (.HH t' y)=>J9 P true b t (je t' y) off
  | .ext (.CD t' y)=>J9 P false b t (je t' y) off
  |_=>.fail
 | .one (.el j i sz off)=>.res j λx=>match x with
  | .ext (.nest q none _ t' _ l)=>iX (aK (OE t') sz) (match P.underlying t with
   |some (.struct _)=>match BS j q i sz off (((je t' (l.getD i.toNat (zn t'))).drop off).take (P.cellsOf t)) with
    |some c=>iX ((P.info? t).isSome && aK c.length (P.cellsOf t)) (.ret ⟨[],[],.agg c,[]⟩)
    |none=>.fail
   |some (.array _ _)=>.fail
   |some _=>match(je t' (l.getD i.toNat (zn t')))[off]? with
    |some c=>match BS j q i sz off [c] with
     |some [s]=>one s
     |_=>.fail
    |none=>.fail
   |none=>.fail)
  |x=>match ob x with
   |some ⟨t',l⟩=>iX (aK (OE t') sz) (J9 P (od x) b t (je t' (l.getD i.toNat (zn t'))) off)
   |none=>.fail
 |_=>.fail
def TK (C:List (Nat×Bool))(c x y:aL):Tr Out:=
 match c with
 | .tmp t=>oZ C c λs=>match s with
  | .one (.b (.lit true))=>oZ C x λr=>.ret ⟨[],[],r,[]⟩
  | .one (.b (.lit false))=>oZ C y λr=>.ret ⟨[],[],r,[]⟩
  | .one (.b e)=>match x,y with
   | .const (.bool true),y=>oZ (C++[(t,false)]) y λr=>match r with
    | .one (.b q)=>one (.b (.or e q))
    |_=>.fail
   |x,.const (.bool false)=>oZ (C++[(t,true)]) x λr=>match r with
    | .one (.b p)=>one (.b (.and e p))
    |_=>.fail
   |_,_=>.fail
  |_=>.fail
 |_=>.fail
def adr {α:Type 1}(l:List Sc)(k:Int->List Sc->Tr α):Tr α:=match l with
 | .v (.int .i64 m)::l=>k m l
 |_=>.fail
def TL {α:Type 1}(l:List Sc)(k:Bool->List Sc->Tr α):Tr α:=match l with
 | .b e::l=>k e.den l
 |_=>.fail
def ads {α:Type 1}(l:List Sc)(k:ByteArray->List Sc->Tr α):Tr α:=match l with
 | .v (.string m)::l=>k m l
 |_=>.fail
def TM {α:Type 1}(t:Ty)(l:List Sc)(k:List (El t)->List Sc->Tr α):Tr α:=match l with
 | .own j::l=>.res j λx=>match ach x with
  |some ⟨t',y⟩=>match oy (t:=.list t') (s:=.list t) y with
   |some z=>k z l
   |none=>.fail
  |none=>.fail
 | .v (.slice none 0 0)::l=>k [] l
 |_=>.fail
def adt {α:Type 1}(k:Kc)(t:Ty)(l:List Sc)(c:iI k (El t)->List Sc->Tr α):Tr α:=match l with
 | .mp j::l=>.res j λx=>match MU x with
  |some ⟨k',t',y⟩=>match oy (t:=.map k' t') (s:=.map k t) y with
   |some z=>c z l
   |none=>.fail
  |none=>.fail
 | .v (.map none)::l=>c ([]:List (jw k×El t)) l
 |_=>.fail
def adu {α:Type 1}(t:Ty)(l:List Sc)(c:tU (El t)->List Sc->Tr α):Tr α:=match l with
 | .pd j::l=>.res j λx=>match J8 x with
  |some ⟨t',y⟩=>match oy (t:=.ptr t') (s:=.ptr t) y with
   |some z=>c z l
   |none=>.fail
  |none=>.fail
 | .ptr j off::l=>match off with
  |0=>.res j λx=>match TI x with
   |some ⟨t',y⟩=>match oy (t:=t') (s:=t) y with
    |some z=>c (some z:Option (El t)) l
    |none=>.fail
   |none=>.fail
  |_=>.fail
 | .v (.pointer none)::l=>c (none:Option (El t)) l
 |_=>.fail
def MV {α:Type 1}:(t:Ty)->List Sc->(El t->List Sc->Tr α)->Tr α
 | .int,l,k=>adr l k
 | .bool,l,k=>TL l k
 | .str,l,k=>ads l k
 | .unit,l,k=>k () l
 | .list t,l,k=>TM t l k
 | .map q t,l,k=>adt q t l k
 | .ptr t,l,k=>adu t l k
 | .pair p q,l,k=>MV p l λx l'=>MV q l' λy l''=>k (x,y) l''
def qu {α:Type 1}(t:Ty)(y:Sy)(k:El t->Tr α):Tr α:=
 match y,kI t with
 | .one c,false=>MV t [c] λx l=>match l with
  |[]=>k x
  |_=>.fail
 | .agg cs,true=>MV t cs λx l=>match l with
  |[]=>k x
  |_=>.fail
 |_,_=>.fail
def BT:(k:Kc)->Sy->Option (jw k)
 | .int,.one (.v (.int .i64 n))=>some (show Int from n)
 | .str,.one (.v (.string s))=>some (show ByteArray from s)
 |_,_=>none
def uc (P:az)(kt:ax):Kc->Bool
 | .int=>match P.underlying kt with
  |some (.int .i64)=>true
  |_=>false
 | .str=>match P.underlying kt with
  |some .string=>true
  |_=>false
def Dr (P:az)(t:ax):Option Sy:=match P.info? t with
 |some i=>i.zero.map Fk
 |none=>none
def qv (P:az)(t:ax)(y:Sy):Hid:=⟨λ_ w=>(zeroValue t).run P w,λA w=>.ok (y.den A) w⟩
def F3 (P:az)(b:Nat)(t:ax)(ok:Bool)(p q:Sy):Tr Out:=
 match P.underlying t with
 |some (.map kt et)=>match p with
  | .one (.mp j)=>.res j λr=>match r with
   | .ext (.kP qf k none _ _ m)=>match BT k q with
    |some x=>iX (uc P kt k) (match ok with
     |true=>.ret ⟨[lY k x],[qv P et (.one (.v (.slice none 0 0)))],.tQ [(false,[.hd j qf (.ky k x)]),(false,[.b (.raw (iB m x).isSome)])],[]⟩
     |false=>.ret ⟨[lY k x],[qv P et (.one (.v (.slice none 0 0)))],.one (.hd j qf (.ky k x)),[]⟩)
    |none=>.fail
   |r=>match J7 r with
   |some ⟨k,ty,m⟩=>match BT k q,Dr P et with
    |some x,some z=>iX (uc P kt k) (qu ty z λx0=>
     let c:=ji (od r) b (je ty ((iB m x).getD x0))
     match ok with
     |true=>.ret ⟨[lY k x],[qv P et z],.tQ [(kI ty,c.1),(false,[.b (.raw (iB m x).isSome)])],c.2⟩
     |false=>match kI ty,c.1 with
      |true,cs=>.ret ⟨[lY k x],[qv P et z],.agg cs,c.2⟩
      |false,[s]=>.ret ⟨[lY k x],[qv P et z],.one s,c.2⟩
      |_,_=>.fail)
    |_,_=>.fail
   |none=>.fail
  |_=>.fail
 |_=>.fail
def qV (P:az)(C:List (Nat×Bool))(b:Nat):Op->Tr Out
 | .move x=>oZ C x λs=>.ret ⟨[],[],s,[]⟩
 | .assign x=>oZ C x λs=>.ret ⟨[],[],s,[]⟩
 | .unOp .not _ x=>oZ C x λs=>match s with
  | .one (.b e)=>one (.b (.not e))
  |_=>.fail
 | .extract x i=>oZ C x λs=>match s with
  | .tQ ps=>match ps[i]? with
   |some (true,cs)=>.ret ⟨[],[],.agg cs,[]⟩
   |some (false,[c])=>one c
   |_=>.fail
  |_=>.fail
 | .nilCheck x=>oZ C x λs=>match s with
  | .one (.ptr j off)=>one (.ptr j off)
  | .one (.el j i sz off)=>one (.el j i sz off)
  | .one (.pd j)=>.res j λx=>match x with
   | .ext (.zJ t y)=>.ret ⟨[(show Option (El t) from y).isSome=true],[],.one (.ptr b 0),[(b,some (.ext (.HH t ((show Option (El t) from y).getD (zn t)))))]⟩
   | .ext (.par t y)=>.ret ⟨[(show Option (El t) from y).isSome=true],[],.one (.ptr b 0),[(b,some (.ext (.CD t ((show Option (El t) from y).getD (zn t)))))]⟩
   |_=>.fail
  |_=>.fail
 | .binOp op t x y _=>oZ C x λp=>oZ C y λq=>adq P op t p q
 | .convert s d x=>match P.underlying s,P.underlying d with
  |some (.int _),some (.int k)=>oZ C x λp=>match p with
   | .one (.v (.int _ n))=>wv (jm k n) (.v (.int k n))
   |_=>.fail
  |_,_=>.fail
 | .index t x i=>match P.underlying t with
  |some .string=>oZ C x λp=>oZ C i λq=>match p,q with
   | .one (.v (.string s)),.one (.v (.int _ n))=>wv (jz n s.size) (.v (.int .u8 (nL s n)))
   |_,_=>.fail
  |_=>.fail
 | .indexAddr t x i=>match P.underlying t with
  |some (.slice e)=>oZ C x λp=>oZ C i λq=>match p,q with
   | .one (.own j),.one (.v (.int _ n))=>.res j λr=>match OG r with
    |some ⟨t',l⟩=>iX ((P.info? e).isSome) (wv (jz n l.length) (.el j n (P.cellsOf e) 0))
    |none=>.fail
   |_,_=>.fail
  |_=>.fail
 | .fieldAddr t x f=>match P.underlying t with
  |some (.struct fs)=>match fs[f]? with
   |some fd=>iX (bp 0 (P.cellsOf fd.type)) (oZ C x λp=>match p with
    | .one (.ptr j off)=>one (.ptr j (off+fd.offset))
    | .one (.el j i sz off)=>one (.el j i sz (off+fd.offset))
    |_=>.fail)
   |none=>.fail
  |_=>.fail
 | .load t x=>oZ C x λp=>TJ P b t p
 | .field t x f=>match P.underlying t with
  |some (.struct fs)=>match fs[f]? with
   |some fd=>oZ C x λp=>match p with
    | .agg cs=>match P.underlying fd.type with
     |some (.struct _)=>iX ((P.info? fd.type).isSome) (.ret ⟨[],[],.agg ((cs.drop fd.offset).take (P.cellsOf fd.type)),[]⟩)
     |some (.array _ _)=>.fail
     |some _=>match cs[fd.offset]? with
      |some s=>one s
      |none=>.fail
     |none=>.fail
    |_=>.fail
   |none=>.fail
  |_=>.fail
 | .pick c x y=>TK C c x y
 | .call c=>match c.callee,c.args.toList with
  | .builtin .len,[x]=>match(c.argTypes[0]?).bind P.underlying with
   |some .string=>oZ C x λp=>match p with
    | .one (.v (.string s))=>one (num (s.size:Int))
    |_=>.fail
   |some (.slice _)=>oZ C x λp=>match p with
    | .one (.own j)=>.res j λr=>match r with
     | .ext (.sZ _ s)=>one (num (s.size:Int))
     |r=>match OG r with
      |some ⟨t',l⟩=>one (num (l.length:Int))
      |none=>.fail
    | .one (.v (.slice none 0 0))=>one (num 0)
    |_=>.fail
   |_=>.fail
  | .builtin .max,[x,y]=>oZ C x λp=>oZ C y λq=>match p,q with
   | .one (.v (.int .i64 a)),.one (.v (.int .i64 b))=>one (num (max a b))
   |_,_=>.fail
  | .builtin .min,[x,y]=>oZ C x λp=>oZ C y λq=>match p,q with
   | .one (.v (.int .i64 a)),.one (.v (.int .i64 b))=>one (num (min a b))
   |_,_=>.fail
  |_,_=>.fail
 |_=>.fail
theorem xg (A:ju)(v:af):(tV v).den A=v:=by unfold tV;split<;>rfl
theorem TN (A:ju)(v:af):(Fk v).den A=v:=by
 unfold Fk;split
 .rename_i cs;simp only[Sy.den,List.map_map];have:(Sc.den A∘tV)=id:=by funext x;exact xg A x
  rw[this,List.map_id]
 exact xg A _
def Sc.jW (A:ju):Sc->Prop
 | .el j i _ _=>JO (A.v j) i
 |_=>True
def Sy.jW (A:ju):Sy->Prop
 | .one s=>s.jW A
 | .agg cs=> ∀c∈cs,c.jW A
 | .tQ ps=> ∀p∈ps,∀c∈p.2,c.jW A
def R2.jW (A:ju):R2->Prop
 | .box _ cs=> ∀c∈cs,c.jW A
 |_=>True
theorem uJ (A:ju)(v:af):(tV v).jW A:=by unfold tV;split<;>trivial
theorem xh (F:Nat->Prop)(v:af):(tV v).all F:=by unfold tV;split<;>trivial
theorem QO (A:ju)(v:af):(Fk v).jW A:=by
 unfold Fk;split
 .intro c hc;obtain⟨x,_,rfl⟩:=aN.1 hc;exact uJ A x
 exact uJ A _
theorem TO (F:Nat->Prop)(v:af):(Fk v).all F:=by
 unfold Fk;split
 .intro c hc;obtain⟨x,_,rfl⟩:=aN.1 hc;exact xh F x
 exact xh F _
theorem Sc.l5 {F:Nat->Prop}{A B:ju}(h:kD F A B):∀ {s:Sc},s.all F->s.jW A->s.jW B
 | .el j i _ _,k,g=>by simp only[jW] at g ⊢;rw[<-(h j k).1];exact g
 | .v _,_,_=>trivial
 | .b _,_,_=>trivial
 | .own _,_,_=>trivial
 | .mp _,_,_=>trivial
 | .ptr _ _,_,_=>trivial
 | .r9 _ _,_,_=>trivial
 | .hd _ _ _,_,_=>trivial
 | .pd _,_,_=>trivial
theorem Sy.l5 {F:Nat->Prop}{A B:ju}(h:kD F A B):∀ {s:Sy},s.all F->s.jW A->s.jW B
 | .one _,k,g=>Sc.l5 h k g
 | .agg _,k,g=>λc hc=>Sc.l5 h (k c hc) (g c hc)
 | .tQ _,k,g=>λp hp c hc=>Sc.l5 h (k p hp c hc) (g p hp c hc)
theorem R2.l5 {F:Nat->Prop}{A B:ju}(h:kD F A B):∀ {s:R2},s.all F->s.jW A->s.jW B
 | .box _ _,k,g=>λc hc=>Sc.l5 h (k c hc) (g c hc)
 | .ro _ _,_,_=>trivial
 | .ar _ _,_,_=>trivial
 | .row _ _ _,_,_=>trivial
 | .wO _ _ _,_,_=>trivial
 | .BR _ _ _,_,_=>trivial
 | .map _ _ _,_,_=>trivial
 | .iter _ _ _ _ _ _,_,_=>trivial
 | .ext _,_,_=>trivial
abbrev iZ (A:ju)(r:Nat->Option R2):Nat->Option Rs:=λj=>(r j).map (R2.den A j)
def zM (o:jh)(A:ju)(j:Nat):R2->Prop
 | .ar _ x=>Rd o.old o.w (A.v j) x
 | .BR _ _ x=>Rd o.old o.w (.map (A.m j)) x
 | .ext (.par _ x)=>Rd o.old o.w (.pointer (A.p j)) x
 | .ext (.CD _ x)=>oz o.old o.w (A.b j) x
 |_=>True
theorem zM.congr {o:jh}{F:Nat->Prop}{A B:ju}(h:kD F A B){j:Nat}(k:F j):∀ {x:R2},zM o A j x->zM o B j x
 | .ar _ _,q=>by show Rd _ _ _ _;rw[<-(h j k).1];exact q
 | .BR _ _ _,q=>by show Rd _ _ _ _;rw[<-(h j k).2.2.2];exact q
 | .ext (.par _ _),q=>by show Rd _ _ _ _;rw[<-h.p k];exact q
 | .ext (.CD _ _),q=>by show oz _ _ _ _;rw[<-(h j k).2.1];exact q
 | .ro _ _,_=>trivial
 | .row _ _ _,_=>trivial
 | .box _ _,_=>trivial
 | .wO _ _ _,_=>trivial
 | .map _ _ _,_=>trivial
 | .iter _ _ _ _ _ _,_=>trivial
 | .ext (.nest _ _ _ _ _ _),_=>trivial
 | .ext (.kP _ _ _ _ _ _),_=>trivial
 | .ext (.zJ _ _),_=>trivial
 | .ext (.HH _ _),_=>trivial
 | .ext (.HI _ _ _ _ _),_=>trivial
 | .ext (.Fi _),_=>trivial
 | .ext (.sZ _ _),_=>trivial
 | .ext (.nb _ _ _ _ _ _ _),_=>trivial
structure j5 (o:jh)(n:Nat)(A:ju)(S:iF)(F:Nat->Prop)(s:Nat->Option E2)(r:Nat->Option R2)(a:Act)(w:aa):Prop where
 size:a.tmps.size=n
 lD:a.defers=[]
 env:∀t e,s t=some e->C8 a ⟨t,e.ch,e.sy.den A⟩
 qW:∀t e,s t=some e->nt a e.ch->e.sy.all F/\e.sy.jW A
 j7:∀j x,r j=some x->F j/\x.all F/\x.jW A
 jd:nK o w S (iZ A r)
 args:∀j x,r j=some x->zM o A j x
 zN:(∀j,o.pF j->F j)/\kD o.pF o.pA A
def aci (o:jh)(S:iF)(w:aa)(A:ju)(j:Nat):R2->Prop
 | .ro _ x=>Rd S w (A.v j) x
 | .ar _ x=>Rd o.old o.w (A.v j) x
 | .wO _ _ x=>Rd S w (.map (A.m j)) x
 | .BR _ _ x=>Rd o.old o.w (.map (A.m j)) x
 | .ext (.zJ _ x)=>Rd S w (.pointer (A.p j)) x
 | .ext (.par _ x)=>Rd o.old o.w (.pointer (A.p j)) x
 | .ext (.HH _ x)=>oz S w (A.b j) x
 | .ext (.CD _ x)=>oz o.old o.w (A.b j) x
 |_=>False
def rQ (o:jh)(S:iF)(w:aa)(A:ju):Nat->List (Nat×Option R2)->Prop
 |_,[]=>True
 |b,p::l=>b<=p.1/\(∃x,p.2=some x/\aci o S w A p.1 x)/\rQ o S w A (p.1+1) l
theorem rQ.aiG {o:jh}{S:iF}{w:aa}{A:ju}{b b':Nat}(h:b<=b'):∀ {l:List (Nat×Option R2)},rQ o S w A b' l->rQ o S w A b l
 |[],_=>trivial
 |_::_,k=>⟨aU h k.1,k.2⟩
def FU (F:Nat->Prop)(re:List (Nat×Option R2)):Nat->Prop:=λj=>F j\/∃x,(j,x)∈re
def CE (o:jh)(S:iF)(w:aa)(k:Bool)(vs:List af)(cs:List sX):Prop:=match k with
 |true=>jO S w vs cs
 |false=>jO o.old o.w vs cs
theorem CE.cons {o:jh}{S:iF}{w:aa}{k:Bool}{v:af}{vs:List af}{c:sX}{cs:List sX}(h:CE o S w k (v::vs) (c::cs)):(match k with|true=>sY S w v c|false=>sY o.old o.w v c)/\CE o S w k vs cs:=by
 cases k<;>exact h
theorem CE.QS {o:jh}{S:iF}{w:aa}{k:Bool}{c:sX}{cs:List sX}(h:CE o S w k [] (c::cs)):False:=by cases k<;>exact h
theorem CE.aiH {o:jh}{S:iF}{w:aa}{k:Bool}{v:af}{vs:List af}(h:CE o S w k (v::vs) []):False:=by cases k<;>exact h
theorem nA {o:jh}{S:iF}{w:aa}{k:Bool}{B:Nat}:∀(cs:List sX) (vs:List af) (b:Nat) (A:ju) (F:Nat->Prop),CE o S w k vs cs->(∀j,b<=j->j<B->¬F j)->(∀p∈(ji k b cs).2,p.1<B)->
  ∃A',kD F A A'/\(ji k b cs).1.map (Sc.den A')=vs/\rQ o S w A' b (ji k b cs).2/\∀s∈(ji k b cs).1,s.all (FU F (ji k b cs).2)/\s.jW A'
 |[],[],b,A,F,_,_,_=>⟨A,kD.refl _ _,rfl,tv,λ_ h=>by cases h⟩
 |[],_::_,_,_,_,h,_,_=>h.aiH.elim
 | .i n::r,[],_,_,_,h,_,_=>h.QS.elim
 | .b n::r,[],_,_,_,h,_,_=>h.QS.elim
 | .s n::r,[],_,_,_,h,_,_=>h.QS.elim
 | .l t n::r,[],_,_,_,h,_,_=>h.QS.elim
 | .m q t n::r,[],_,_,_,h,_,_=>h.QS.elim
 | .p t n::r,[],_,_,_,h,_,_=>h.QS.elim
 | .i n::r,v::vs,b,A,F,h,hF,hB=>by
  obtain⟨A',h1,h2,h3,h4⟩:=nA r vs b A F h.cons.2 hF hB;have hv:v= .int .i64 n:=by cases k<;>exact h.1
  refine⟨A',h1,by show Sc.den A' _::_=_;rw[h2,hv];rfl,h3,λs hs=>?_⟩;rcases aC.1 hs with rfl|hs
  .exact⟨tv,tv⟩
  exact h4 s hs
 | .b n::r,v::vs,b,A,F,h,hF,hB=>by
  obtain⟨A',h1,h2,h3,h4⟩:=nA r vs b A F h.cons.2 hF hB;have hv:v= .bool n:=by cases k<;>exact h.1
  refine⟨A',h1,by show Sc.den A' _::_=_;rw[h2,hv];rfl,h3,λs hs=>?_⟩;rcases aC.1 hs with rfl|hs
  .exact⟨tv,tv⟩
  exact h4 s hs
 | .s n::r,v::vs,b,A,F,h,hF,hB=>by
  obtain⟨A',h1,h2,h3,h4⟩:=nA r vs b A F h.cons.2 hF hB;have hv:v= .string n:=by cases k<;>exact h.1
  refine⟨A',h1,by show Sc.den A' _::_=_;rw[h2,hv];rfl,h3,λs hs=>?_⟩;rcases aC.1 hs with rfl|hs
  .exact⟨tv,tv⟩
  exact h4 s hs
 | .l t n::r,v::vs,b,A,F,h,hF,hB=>by
  obtain⟨p,c,hv⟩:∃p c,v= .slice p n.length c:=by
   cases k
   .obtain⟨p,c,hv,_⟩:=jZ (show Rd o.old o.w v n from h.1);exact⟨p,c,hv⟩
   obtain⟨p,c,hv,_⟩:=jZ (show Rd S w v n from h.1);exact⟨p,c,hv⟩
  have hA:=kD.set (A:=A) (F:=F) (j:=b) (hF b (ay _) (hB _ aA)) p n.length c 0;obtain⟨A',h1,h2,h3,h4⟩:=nA r vs (b+1) (A.set b p n.length c 0) (λj=>F j\/j=b) h.cons.2 (λj hj hB hn=>by
   rcases hn with hn|hn
   .exact hF j (by omega) hB hn
   omega) (λp hp=>hB p (aE _ hp))
  have hb:(A'.v b)=v:=by rw[<-(h1 b (.inr rfl)).1,ju.rP,hv]
  refine⟨A',hA.trans (h1.mono λj hj=>.inl hj),by show Sc.den A' (.own b)::_=_;rw[h2];simp only[Sc.den,hb],⟨ay _,⟨_,rfl,by
   cases k
   .show Rd _ _ (A'.v b) _;rw[hb];exact h.1
   show Rd _ _ (A'.v b) _;rw[hb];exact h.1⟩,h3⟩,λs hs=>?_⟩
  rcases aC.1 hs with rfl|hs
  .exact⟨.inr ⟨_,aA⟩,tv⟩
  refine⟨Sc.mono (λj hj=>?_) (h4 s hs).1,(h4 s hs).2⟩;rcases hj with(hj|hj)|⟨x,hx⟩
  .exact .inl hj
  .subst hj;exact .inr ⟨_,aA⟩
  exact .inr ⟨x,aE _ hx⟩
 | .m q t n::r,v::vs,b,A,F,h,hF,hB=>by
  obtain⟨y,hv⟩:∃y,v= .map y:=by
   cases k
   .obtain⟨y,hv,_⟩:=yN (show Rd o.old o.w v n from h.1);exact⟨y,hv⟩
   obtain⟨y,hv,_⟩:=yN (show Rd S w v n from h.1);exact⟨y,hv⟩
  have hA:=kD.iP (A:=A) (F:=F) (j:=b) (hF b (ay _) (hB _ aA)) y;obtain⟨A',h1,h2,h3,h4⟩:=nA r vs (b+1) (A.iP b y) (λj=>F j\/j=b) h.cons.2 (λj hj hB hn=>by
   rcases hn with hn|hn
   .exact hF j (by omega) hB hn
   omega) (λp hp=>hB p (aE _ hp))
  have hb:(.map (A'.m b))=v:=by rw[<-(h1 b (.inr rfl)).2.2.2,ju.Dp,hv]
  refine⟨A',hA.trans (h1.mono λj hj=>.inl hj),by show Sc.den A' (.mp b)::_=_;rw[h2];simp only[Sc.den,hb],⟨ay _,⟨_,rfl,by
   cases k
   .show Rd _ _ (.map (A'.m b)) _;rw[hb];exact h.1
   show Rd _ _ (.map (A'.m b)) _;rw[hb];exact h.1⟩,h3⟩,λs hs=>?_⟩
  rcases aC.1 hs with rfl|hs
  .exact⟨.inr ⟨_,aA⟩,tv⟩
  refine⟨Sc.mono (λj hj=>?_) (h4 s hs).1,(h4 s hs).2⟩;rcases hj with(hj|hj)|⟨x,hx⟩
  .exact .inl hj
  .subst hj;exact .inr ⟨_,aA⟩
  exact .inr ⟨x,aE _ hx⟩
 | .p t n::r,v::vs,b,A,F,h,hF,hB=>by
  obtain⟨y,hv⟩:∃y,v= .pointer y:=by
   cases k
   .exact(vE (show Rd o.old o.w v n from h.1)).val
   exact(vE (show Rd S w v n from h.1)).val
  have hA:=kD.set (A:=A) (F:=F) (j:=b) (hF b (ay _) (hB _ aA)) y 0 0 0;obtain⟨A',h1,h2,h3,h4⟩:=nA r vs (b+1) (A.set b y 0 0 0) (λj=>F j\/j=b) h.cons.2 (λj hj hB hn=>by
   rcases hn with hn|hn
   .exact hF j (by omega) hB hn
   omega) (λp hp=>hB p (aE _ hp))
  have hb:(.pointer (A'.p b))=v:=by rw[<-h1.p (.inr rfl),ju.afM,hv]
  refine⟨A',hA.trans (h1.mono λj hj=>.inl hj),by show Sc.den A' (.pd b)::_=_;rw[h2];simp only[Sc.den,hb],⟨ay _,⟨_,rfl,by
   cases k
   .show Rd _ _ (.pointer (A'.p b)) _;rw[hb];exact h.1
   show Rd _ _ (.pointer (A'.p b)) _;rw[hb];exact h.1⟩,h3⟩,λs hs=>?_⟩
  rcases aC.1 hs with rfl|hs
  .exact⟨.inr ⟨_,aA⟩,tv⟩
  refine⟨Sc.mono (λj hj=>?_) (h4 s hs).1,(h4 s hs).2⟩;rcases hj with(hj|hj)|⟨x,hx⟩
  .exact .inl hj
  .subst hj;exact .inr ⟨_,aA⟩
  exact .inr ⟨x,aE _ hx⟩
section
variable {P:az}{o:jh}{n:Nat}{A:ju}{S:iF}{F:Nat->Prop}{s:Nat->Option E2}{r:Nat->Option R2}{a:Act}{w:aa}{C:List (Nat×Bool)}{b:Nat}
theorem xW (H:j5 o n A S F s r a w){j:Nat}{x:R2}(hj:r j=some x){t:Ty}{l:List (El t)}(hx:ob x=some ⟨t,l⟩):Rd (· <w.heap.size) w (A.v j) l:=by
 have hm:iZ A r j=some (x.den A j):=by simp[iZ,hj]
 cases x with
 |ro t' l'=>cases hx;exact Rd.up H.jd.nO (H.jd.ok j _ hm)
 |ar t' l'=>cases hx;exact(Rd.keep H.jd.old (H.args j _ hj)).up λ_ hk=>bf hk.1 H.jd.sw.size
 |row e t' l'=>cases hx;exact(lg.rd (H.jd.ok j _ hm)).up λk hk=>hk.elim (H.jd.nO k) λq=>(H.jd.own j _ k hm q).2.1
 |ext y=>
  cases y with
  |_=>cases hx
 |_=>cases hx
theorem Ka (H:j5 o n A S F s r a w){j:Nat}{x:R2}(hj:r j=some x){k:Kc}{t:Ty}{m:iI k (El t)}(hx:J7 x=some ⟨k,t,m⟩):(A.m j=none/\m=([]:List (jw k×El t)))\/
  ∃b,∃zs:List (jw k×(af×El t)),A.m j=some b/\lE k w b (zs.map λq=>(q.1,q.2.1))/\m=zs.map (λq=>(q.1,q.2.2))/\∀z∈zs,match od x with
   |true=>Rd S w z.2.1 z.2.2
   |false=>Rd o.old o.w z.2.1 z.2.2:=by
 have hm:iZ A r j=some (x.den A j):=by simp[iZ,hj]
 cases x with
 |wO k' t' m'=>
  cases hx;have h:Rd S w (.map (A.m j)) m:=H.jd.ok j _ hm;obtain⟨y,hy,h⟩:=yN h;cases hy;cases hA:A.m j with
  |none=>rw[hA] at h;exact .inl ⟨rfl,h⟩
  |some b=>rw[hA] at h;have⟨_,zs,h1,h2,h3⟩:=h;exact .inr ⟨b,zs,rfl,h1,h2,h3⟩
 |BR k' t' m'=>
  cases hx;obtain⟨y,hy,h⟩:=yN (H.args j _ hj);cases hy;cases hA:A.m j with
  |none=>rw[hA] at h;exact .inl ⟨rfl,h⟩
  |some b=>rw[hA] at h;have⟨hb,zs,h1,h2,h3⟩:=h;exact .inr ⟨b,zs,rfl,h1.keep (H.jd.old b hb),h2,h3⟩
 |map k' t' m'=>
  cases hx;obtain⟨b,e,zs,h1,h2,h3⟩:=H.jd.ok j _ hm;exact .inr ⟨b,zs,e,h1,h2,h3⟩
 |_=>cases hx
theorem HL (H:j5 o n A S F s r a w){j:Nat}{x:R2}(hj:r j=some x){t:Ty}{l:List (El t)}(hx:ob x=some ⟨t,l⟩){i:Int}(h0:0<=i)(h1:i<(l.length:Int)):
  ∃cs,CE o S w (od x) cs (je t (l.getD i.toNat (zn t)))/\cs.length=Data.size (El t)/\∀q,q<Data.size (El t)->w.cell? ⟨Mt (A.v j),Mu (A.v j)+i.toNat*Data.size (El t)+q,none⟩=cs[q]?:=by
 have hm:iZ A r j=some (x.den A j):=by simp[iZ,hj]
 cases x with
 |ro t' l'=>
  cases hx;have hr:Rd S w (A.v j) l:=H.jd.ok j _ hm;obtain⟨cs,k1,k2⟩:=FX (C:=(· =w)) (T:=S) (λw' e=>by subst e;exact kN.refl _ _) hr h0 h1 (zn t);exact⟨cs,pT t k1,Data.len k1,λq hq=>k2 q hq w rfl⟩
 |ar t' l'=>
  cases hx;have hr:Rd o.old o.w (A.v j) l:=H.args j _ hj;obtain⟨cs,k1,k2⟩:=FX (C:=(· =w)) (T:=o.old) (λw' e=>by subst e;exact H.jd.old) hr h0 h1 (zn t);exact⟨cs,pT t k1,Data.len k1,λq hq=>k2 q hq w rfl⟩
 |row e t' l'=>
  cases hx;obtain⟨cs,k1,k2⟩:=lg.cells (show lg S w e (A.v j) l from H.jd.ok j _ hm) h0 h1 (zn t);exact⟨cs,pT t k1,Data.len k1,λq hq=>k2 q hq⟩
 |ext y=>
  cases y with
  |_=>cases hx
 |_=>cases hx
theorem Dt (H:j5 o n A S F s r a w){j:Nat}{x:R2}(hj:r j=some x){t:Ty}{l:List (El t)}(hx:OG x=some ⟨t,l⟩):∃p c,A.v j= .slice p l.length c/\(0<l.length->∃g f,p=some ⟨g,f,none⟩):=by
 have old:ob x=some ⟨t,l⟩->∃p c,A.v j= .slice p l.length c/\(0<l.length->∃g f,p=some ⟨g,f,none⟩):=λhx=>by
  obtain⟨p,c,h1,_,_,h2⟩:=jZ (xW H hj hx);refine⟨p,c,h1,λh=>?_⟩;rcases h2 with rfl|⟨g,f,_,_,_,h2,_⟩
  .cases h
  exact⟨g,f,h2⟩
 cases x with
 |ext y=>
  cases y with
  |nest q h e t' ie l'=>
   cases hx;have hm:mW S w (A.v j) (A.f q) h e t ie l:=H.jd.ok j _ (show iZ A r j=some _ by simp[iZ,hj];rfl);have⟨xs,h1,_⟩:=hm.row;rcases h1.2 with⟨hv,hn⟩|⟨g,d,cap,cur,hv,_⟩
   .exact⟨_,_,by rw[hv,hn],λq=>by omega⟩
   exact⟨_,_,hv,λ_=>⟨_,_,rfl⟩⟩
  |_=>cases hx
 |_=>exact old hx
theorem QT (H:j5 o n A S F s r a w){j:Nat}{x:R2}(hj:r j=some x){t:Ty}{l:List (El t)}(hx:OG x=some ⟨t,l⟩){i:Int}(h0:0<=i)(h1:i<(l.length:Int)):JO (A.v j) i:=by
 obtain⟨p,c,h2,h3⟩:=Dt H hj hx;obtain⟨g,f,rfl⟩:=h3 (by omega);exact⟨g,f,_,c,h2,h0,h1⟩
theorem zO {t:Ty}:∀ {l:List (El t)} {i off:Nat} (hi:i<l.length),off<iN t->(ny t l)[i*iN t+off]?=(je t (l.getD i (zn t)))[off]?
 |x::l,0,off,_,ho=>by
  show(je t x++ny t l)[0*iN t+off]?=(je t x)[off]?;rw[de,cG,List.getElem?_append_left (by rw[lN];exact ho)]
 |x::l,i+1,off,hi,ho=>by
  show(je t x++ny t l)[(i+1)*iN t+off]?=(je t (l.getD i (zn t)))[off]?;rw[List.getElem?_append_right (by rw[lN,bZ];omega),lN,show(i+1)*iN t+off-iN t=i*iN t+off by rw[bZ];omega];exact zO (by simpa using hi) ho
theorem nu.cell {e:ax}{sz:Nat}{v:af}{n:Nat}{xs:List af}(h:nu w e sz v n xs){c:Nat}{u:af}(hc:xs[c]?=some u):w.cell? ⟨Mt v,Mu v+c,none⟩=some u:=by
 have hl:=(b7.1 hc).1;rcases h.2 with⟨_,rfl⟩|⟨g,d,cap,cur,rfl,hg,h1,h2,h3,h4⟩
 .have:=h.1;omega
 show w.cell? ⟨g,d*sz+c,none⟩=_;rw[cell_of_row w g _ cur e (0,0) hg,<-hc,<-h4,bP,ak (by rw[<-h.1];exact hl),b5,akF]
theorem AY {v:af}{f:Lit->af}{e:ax}{t:Ty}{ie:ax}{l:List (El t)}(h:mW S w v f none e t ie l){i:Int}(h0:0<=i)(h1:i<(l.length:Int)){off:Nat}{c:sX}(hc:(je t (l.getD i.toNat (zn t)))[off]?=some c):
  w.cell? ⟨Mt v,Mu v+(i.toNat*iN t+off),none⟩=some (f (ix (i.toNat*iN t+off)))/\yx S w ie (f (ix (i.toNat*iN t+off))) c:=by
 have⟨xs,k1,_,k2⟩:=h.row;have ho:off<iN t:=by have:=(b7.1 hc).1;rwa[lN] at this
 obtain⟨k3,k4⟩:=k2 (i.toNat*iN t+off) c (by rw[zO (by omega) ho];exact hc) (by simp);exact⟨k1.cell k3,k4⟩
theorem Du {ie:ax}{j q:Nat}{i:Int}{sz:Nat}:∀ {cs:List sX} {c:Nat} {out:List Sc},BS j q i sz c cs=some out->(∀d x,cs[d]?=some x->yx S w ie (A.f q (ix (i.toNat*sz+(c+d)))) x)->
  out.length=cs.length/\∀d u,out[d]?=some u->u.den A=A.f q (ix (i.toNat*sz+(c+d)))/\(F j->F q->u.all F)/\u.jW A
 |[],c,out,h,_=>by cases h;exact⟨rfl,λd u q=>by simp at q⟩
 |x::r,c,out,h,k=>by
  have k0:=k 0 x rfl;have k1:∀d y,r[d]?=some y->yx S w ie (A.f q (ix (i.toNat*sz+(c+1+d)))) y:=λd y hy=>by
   have:=k (d+1) y (by simpa using hy);rwa[show c+(d+1)=c+1+d by omega] at this
  have main:∀z:Sc,(BS j q i sz (c+1) r).map (z:: ·)=some out->(z.den A=A.f q (ix (i.toNat*sz+(c+0)))/\(F j->F q->z.all F)/\z.jW A)->out.length=(x::r).length/\∀d u,out[d]?=some u->u.den A=A.f q (ix (i.toNat*sz+(c+d)))/\(F j->F q->u.all F)/\u.jW A:=by
   intro z hz hzk;obtain⟨o',h1,rfl⟩:=aZ.1 hz;obtain⟨h2,h3⟩:=Du h1 k1;refine⟨by simp[h2],λd u hu=>?_⟩;cases d with
   |zero=>
    have:z=u:=by simpa using hu
    subst this;exact hzk
   |succ d=>
    have:=h3 d u (by simpa using hu);rwa[show c+(d+1)=c+1+d by omega]
  cases x with
  |i n=>exact main _ h ⟨k0.1.symm,λ_ _=>trivial,tv⟩
  |b n=>exact main _ h ⟨k0.1.symm,λ_ _=>trivial,tv⟩
  |s n=>exact main _ h ⟨k0.1.symm,λ_ _=>trivial,tv⟩
  |l t n=>exact main _ h ⟨rfl,λh1 h2=>⟨h1,h2⟩,tv⟩
  |m _ _ _=>cases h
  |p _ _=>cases h
theorem F7 (H:j5 o n A S F s r a w)(hC:nt a C){t:Nat}{e:E2}(he:s t=some e)(hp:e.ch.isPrefixOf C=true):a.tmps[t]?=some (e.sy.den A):=(H.env t e he).1 (rI hp hC)
theorem iR {α:Type 1}(H:j5 o n A S F s r a w)(hC:nt a C){x:aL}{k:Sy->Tr α}{out:α}(h:(oZ C x k).run s r=some out):∃y:Sy,a.eval x=y.den A/\y.all F/\y.jW A/\(k y).run s r=some out:=by
 cases x with
 |tmp t=>
  simp only[oZ,Tr.run] at h;split at h
  .rename_i e he;split at h
   .rename_i hp;refine⟨e.sy,?_,(H.qW t e he (rI hp hC)).1,(H.qW t e he (rI hp hC)).2,h⟩;simp only[dL,cj,F7 H hC he hp,dA]
   cases h
  cases h
 |const v=>exact⟨Fk v,(TN A v).symm,TO F v,QO A v,h⟩
 |func f=>exact⟨.one (.r9 f []),rfl,λc hc=>(by cases hc),tv,h⟩
 |global g=>cases h
theorem iD {α:Type 1}{b:Bool}{T:Tr α}{out:α}(h:(iX b T).run s r=some out):b=true/\T.run s r=some out:=by
 cases b with
 |true=>exact⟨rfl,h⟩
 |false=>cases h
theorem iQ {α:Type 1}{j:Nat}{k:R2->Tr α}{out:α}(h:(Tr.res j k).run s r=some out):∃x,r j=some x/\(k x).run s r=some out:=by
 simp only[Tr.run] at h;split at h
 .rename_i e he;exact⟨e,he,h⟩
 cases h
def Dv (P:az)(o:jh)(A:ju)(S:iF)(F:Nat->Prop)(w:aa)(b:Nat)(op:Op)(a:Act)(out:Out):Prop:=
 ∃A',kD F A A'/\(∀o:aD,o.op=op->dy P (· =w) w (out.sy.den A') ((execOp a.eval o).run P w))/\out.sy.all (FU F out.re)/\out.sy.jW A'/\rQ o S w A' b out.re
theorem jD {op:Op}{out:Out}{mJ:Option af}{p:Prop}(Fl:out.re=[])(mC:out.sy.all F)(hg:out.sy.jW A)(h:kH P (· =w) (λx=>some (a.eval x)) op mJ=some (out.sy.den A,p))(hp:p):Dv P o A S F w b op a out:=by
 refine⟨A,kD.refl _ _,λo ho=>?_,Sy.mono (λj hj=>.inl hj) mC,hg,by rw[Fl];trivial⟩;subst ho;exact HB (ρ:=a.eval) (λx u hx=>bz hx) h hp w rfl
theorem jv {c:Sc}{out:Out}(h:(one c).run s r=some out):out=⟨[],[],.one c,[]⟩:=(bz h).symm
theorem nB {p:Prop}{c:Sc}{out:Out}(h:(wv p c).run s r=some out)(hc:∀q∈out.cs,q):out=⟨[p],[],.one c,[]⟩/\p:=by
 have e:=(bz h).symm;subst e;exact⟨rfl,hc p (by simp)⟩
theorem HM (a b:ByteArray):(a.toList==b.toList)=decide (a=b):=by
 by_cases h:a=b
 .subst h;simp
 rw[bG h];refine an1.2 λq=>h (afI q)
theorem aiI (n:Nat):n ^^^ 1=if n%2=0 then n+1 else n-1:=by
 have h1:(n ^^^ 1)/2=n/2:=by rw[Nat.xor_div_two];simp
 have h2:(n ^^^ 1)%2=(n+1)%2:=by
  have h:(n ^^^ 1)%2 ^ 1=(n%2 ^ 1) ^^^ (1%2 ^ 1):=Nat.xor_mod_two_pow;rw[Nat.pow_one] at h;rw[h];rcases Nat.mod_two_eq_zero_or_one n with q|q
  .rw[q];show 1=_;omega
  rw[q];show 0=_;omega
 split<;>omega
theorem TP {op:aD}{t t':ax}{x y:aL}{n:Int}(ho:op.op= .binOp .xor t x y t')(hx:a.eval x= .int .i64 n)(hy:a.eval y= .int .i64 1)(hn:0<=n/\n<=9223372036854775807):dy P (· =w) w (.int .i64 (if n%2=0 then n+1 else n-1)) ((execOp a.eval op).run P w):=by
 obtain⟨m,rfl⟩:=Int.eq_ofNat_of_zero_le hn.1;have hm:m<2 ^ 64:=by omega
 have h1:(an9 .xor .i64 (m:Int) 1)=pure (.int .i64 (if(m:Int)%2=0 then(m:Int)+1 else(m:Int)-1)):=by
  show(pure (bI .i64 (aoa.wrap (((BitVec.ofInt 64 (m:Int)) ^^^ (BitVec.ofInt 64 1)).toNat:Int))):Sem af)=_;have e1:(BitVec.ofInt 64 (m:Int)).toNat=m:=by
   rw[BitVec.toNat_ofInt];omega
  have e2:(BitVec.ofInt 64 1).toNat=1:=by decide
  rw[BitVec.toNat_xor,e1,e2,aiI]
  congr 2
  have e3:(((if m%2=0 then m+1 else m-1:Nat)):Int)=if(m:Int)%2=0 then(m:Int)+1 else(m:Int)-1:=by split<;>split<;>omega
  rw[e3];exact jm.wrap (k:=.i64) ⟨by split<;>omega,by split<;>omega⟩
 have h2:(eqGuard .xor t x y (.int .i64 (m:Int)) (.int .i64 1)).run P w= .ok () w:=by simp[eqGuard,bF]
 simp only[execOp,ho,aM,hx,hy,h2,bY];have h3:(binOp .xor t (.int .i64 (m:Int)) (.int .i64 1))=an9 .xor .i64 (m:Int) 1:=rfl;rw[h3,h1];exact⟨rfl,rfl⟩
theorem Dw {op:aD}{t t' e:ax}{x y:aL}{p:Option bJ}(hu:P.underlying t=some (.pointer e))(ho:op.op= .binOp .eql t x y t')(hx:a.eval x= .pointer p)(hy:a.eval y= .pointer none):dy P (· =w) w (.bool p.isNone) ((execOp a.eval op).run P w):=by
 have h1:(alm t (.pointer p) (.pointer none)).run P w= .ok p.isNone w:=by
  unfold Op.equal;rw[show akY=(akY-1)+1 from by decide];cases p<;>(unfold Op.equalIn;rw[aM,run_underlying hu];rfl)
 have h2:(eqGuard .eql t x y (.pointer p) (.pointer none)).run P w= .ok () w:=by simp[eqGuard,bF]
 simp only[execOp,ho,aM,hx,hy,h2,bY,binOp,h1,bF];exact⟨rfl,rfl⟩
theorem Dx {op:aD}{t t' e:ax}{x y:aL}{p:Option bJ}(hu:P.underlying t=some (.pointer e))(ho:op.op= .binOp .neq t x y t')(hx:a.eval x= .pointer p)(hy:a.eval y= .pointer none):dy P (· =w) w (.bool p.isSome) ((execOp a.eval op).run P w):=by
 have h1:(alm t (.pointer p) (.pointer none)).run P w= .ok p.isNone w:=by
  unfold Op.equal;rw[show akY=(akY-1)+1 from by decide];cases p<;>(unfold Op.equalIn;rw[aM,run_underlying hu];rfl)
 have h2:(eqGuard .neq t x y (.pointer p) (.pointer none)).run P w= .ok () w:=by simp[eqGuard,bF]
 simp only[execOp,ho,aM,hx,hy,h2,bY,binOp,h1,bF];exact⟨rfl,by cases p<;>rfl⟩
theorem MW {op:aD}{t t':ax}{x y:aL}{g:Fn}{p c:Array af}{e1 e2:Array ax}{e3:Bool}(hu:P.underlying t=some (.func e1 e2 e3))(ho:op.op= .binOp .eql t x y t')(hx:a.eval x= .func g p c)(hy:a.eval y= .nilFunc):dy P (· =w) w (.bool false) ((execOp a.eval op).run P w):=by
 have h1:(alm t (.func g p c) .nilFunc).run P w= .ok false w:=by
  unfold Op.equal;rw[show akY=(akY-1)+1 from by decide];unfold Op.equalIn;rw[aM,run_underlying hu];rfl
 have h2:(eqGuard .eql t x y (.func g p c) .nilFunc).run P w= .ok () w:=by simp[eqGuard,bF]
 simp only[execOp,ho,aM,hx,hy,h2,bY,binOp,h1,bF];exact⟨rfl,rfl⟩
theorem MX {op:aD}{t t':ax}{x y:aL}{g:Fn}{p c:Array af}{e1 e2:Array ax}{e3:Bool}(hu:P.underlying t=some (.func e1 e2 e3))(ho:op.op= .binOp .neq t x y t')(hx:a.eval x= .func g p c)(hy:a.eval y= .nilFunc):dy P (· =w) w (.bool true) ((execOp a.eval op).run P w):=by
 have h1:(alm t (.func g p c) .nilFunc).run P w= .ok false w:=by
  unfold Op.equal;rw[show akY=(akY-1)+1 from by decide];unfold Op.equalIn;rw[aM,run_underlying hu];rfl
 have h2:(eqGuard .neq t x y (.func g p c) .nilFunc).run P w= .ok () w:=by simp[eqGuard,bF]
 simp only[execOp,ho,aM,hx,hy,h2,bY,binOp,h1,bF];exact⟨rfl,rfl⟩
theorem TQ (H:j5 o n A S F s r a w){op:BinOp}{t t':ax}{x y:aL}{k:dJ}{m q:Int}{out:Out}(hx:a.eval x= .int k m)(hy:a.eval y= .int k q)(h:(arith op k m q).run s r=some out)(hc:∀p∈out.cs,p):Dv P o A S F w b (.binOp op t x y t') a out/\out.hs=[]:=by
 cases op
 case add=>obtain⟨rfl,hp⟩:=nB h hc;exact⟨jD (mJ:=none) rfl tv tv (by simp only[kH,hx,hy,oS,if_true];rfl) hp,rfl⟩
 case sub=>obtain⟨rfl,hp⟩:=nB h hc;exact⟨jD (mJ:=none) rfl tv tv (by simp only[kH,hx,hy,oS,if_true];rfl) hp,rfl⟩
 case mul=>obtain⟨rfl,hp⟩:=nB h hc;exact⟨jD (mJ:=none) rfl tv tv (by simp only[kH,hx,hy,oS,if_true];rfl) hp,rfl⟩
 case quo=>obtain⟨rfl,hp⟩:=nB h hc;exact⟨jD (mJ:=none) rfl tv tv (by simp only[kH,hx,hy,oS,if_true];rfl) hp,rfl⟩
 case rem=>obtain⟨rfl,hp⟩:=nB h hc;exact⟨jD (mJ:=none) rfl tv tv (by simp only[kH,hx,hy,oS,if_true];rfl) hp,rfl⟩
 case shr=>
  obtain⟨hg,h2⟩:=iD h;rw[aQ] at hg;have hk:=aP hg.1;have hb:=aP hg.2;subst hk;subst hb;rw[jv h2];exact⟨jD (mJ:=some (.int .u64 (m/2))) rfl tv tv (by simp only[kH,hx,hy,oS];rfl) (Y4 (by decide)),rfl⟩
 case xor=>
  obtain⟨hg,h2⟩:=iD h;rw[aQ] at hg;have hk:=aP hg.1;have hb:=aP hg.2;subst hk;subst hb;obtain⟨rfl,hp⟩:=nB h2 hc;exact⟨⟨A,kD.refl _ _,λop ho=>TP ho hx hy hp,tv,tv,tv⟩,rfl⟩
 case eql=>rw[jv h];exact⟨jD (mJ:=none) (p:=True) rfl tv tv (by simp only[kH,hx,hy,oS,if_true];rfl) tv,rfl⟩
 case neq=>rw[jv h];exact⟨jD (mJ:=none) (p:=True) rfl tv tv (by simp only[kH,hx,hy,oS,if_true];rfl) tv,rfl⟩
 case lss=>rw[jv h];exact⟨jD (mJ:=none) (p:=True) rfl tv tv (by simp only[kH,hx,hy,oS,if_true];rfl) tv,rfl⟩
 case leq=>rw[jv h];exact⟨jD (mJ:=none) (p:=True) rfl tv tv (by simp only[kH,hx,hy,oS,if_true];rfl) tv,rfl⟩
 case gtr=>rw[jv h];exact⟨jD (mJ:=none) (p:=True) rfl tv tv (by simp only[kH,hx,hy,oS,if_true];rfl) tv,rfl⟩
 case geq=>rw[jv h];exact⟨jD (mJ:=none) (p:=True) rfl tv tv (by simp only[kH,hx,hy,oS,if_true];rfl) tv,rfl⟩
 all_goals cases h
theorem Kb (x y:BE):(Za x y).den=(x.den && y.den):=by
 unfold Za;split
 .simp[BE.den]
 rfl
theorem HN {cs ds:List Sc}(d:Nat):∀ {fs:List Field} {e:BE},Zb P cs ds fs=some e->(am5 (d+1) (cs.map (Sc.den A)).toArray (ds.map (Sc.den A)).toArray fs).run P w= .ok e.den w
 |[],e,h=>by cases h;rfl
 |f::fs,e,h=>by
  unfold Zb at h;have uI:∀ {l:List Sc} {x:Sc},l[f.offset]?=some x->((l.map (Sc.den A)).toArray)[f.offset]?=some (x.den A):=λhl=>by rw[akG,cm,hl];rfl
  split at h
  .rename_i k' k a k2 b e' hn hu h1 h2 h3;split at h
   .rename_i hk;have hk:=aP hk;subst hk;cases h;have hp:P.plainKey f.type=true:=by unfold Program.plainKey;rw[hu]
    have Ti:f.name≠ "_" :=by simpa using hn
    simp only[am5,ak Ti,aM,run_part_plain w hp (uI h1),run_part_plain w hp (uI h2),bY,Sc.den,run_equalIn_int w d f.type k k' a b hu,Kb,BE.den]
    by_cases q:a=b
    .subst q;simp[HN d h3]
    simp[q,bF]
   cases h
  .rename_i a b e' hn hu h1 h2 h3;cases h;have hp:P.plainKey f.type=true:=by unfold Program.plainKey;rw[hu]
   have Ti:f.name≠ "_" :=by simpa using hn
   simp only[am5,ak Ti,aM,run_part_plain w hp (uI h1),run_part_plain w hp (uI h2),bY,Sc.den,run_equalIn_string w d f.type a b hu,Kb,BE.den,HM]
   by_cases q:a=b
   .subst q;simp[HN d h3]
   simp[q,bF]
  cases h
theorem F8 {t:ax}{cs ds:List Sc}{k:BE->Tr Out}{out:Out}(h:(OH P t cs ds k).run s r=some out):∃e:BE,(k e).run s r=some out/\P.eqGuardType P.depth t=false/\(Op.equalIn 10000 t (.agg (cs.map (Sc.den A)).toArray) (.agg (ds.map (Sc.den A)).toArray)).run P w= .ok e.den w:=by
 unfold OH at h;split at h
 .rename_i fs hu;obtain⟨hg,h⟩:=iD h;simp only[aQ,Bool.not_eq_true'] at hg;split at h
  .rename_i e he;refine⟨e,h,hg.2,?_⟩;have hf:P.fieldsOf t=fs:=by unfold Program.fieldsOf;rw[hu]
   rw[run_equalIn_struct w 9999 t _ _ (by rw[hf];exact hu) hg.1,hf];exact HN 9998 he
  cases h
 cases h
theorem Zc (H:j5 o n A S F s r a w){op:BinOp}{t t':ax}{x y:aL}{p q:Sy}{out:Out}(hx:a.eval x=p.den A)(hy:a.eval y=q.den A)(h:(adq P op t p q).run s r=some out)(hc:∀p∈out.cs,p):Dv P o A S F w b (.binOp op t x y t') a out/\out.hs=[]:=by
 unfold adq at h;split at h
 .rename_i cs ds;have hx:a.eval x= .agg (cs.map (Sc.den A)).toArray:=hx;have hy:a.eval y= .agg (ds.map (Sc.den A)).toArray:=hy;split at h
  .obtain⟨e,h,hg,he⟩:=F8 (A:=A) (w:=w) h;rw[jv h];refine⟨⟨A,kD.refl _ _,λop ho=>?_,tv,tv,tv⟩,rfl⟩;simp only[execOp,ho,aM,hx,hy,run_eqGuard_agg w .eql t x y _ _ hg,bY,run_eql_struct,he];exact⟨rfl,rfl⟩
  .obtain⟨e,h,hg,he⟩:=F8 (A:=A) (w:=w) h;rw[jv h];refine⟨⟨A,kD.refl _ _,λop ho=>?_,tv,tv,tv⟩,rfl⟩;simp only[execOp,ho,aM,hx,hy,run_eqGuard_agg w .neq t x y _ _ hg,bY,run_neq_struct,he];exact⟨rfl,rfl⟩
  cases h
 .obtain⟨hk,h2⟩:=iD h;have hk:=aP hk;subst hk;exact TQ H hx hy h2 hc
 .rename_i u v;have hx:a.eval x= .string u:=hx;have hy:a.eval y= .string v:=hy;split at h
  .obtain⟨rfl,hp⟩:=nB h hc;exact⟨jD (mJ:=none) rfl tv tv (by simp only[kH,hx,hy,oS];rfl) hp,rfl⟩
  .rw[jv h];exact⟨jD (mJ:=none) (p:=True) rfl tv tv (by simp only[kH,hx,hy,oS,HM];rfl) tv,rfl⟩
  .rw[jv h];exact⟨jD (mJ:=none) (p:=True) rfl tv tv (by simp only[kH,hx,hy,oS,HM];rfl) tv,rfl⟩
  cases h
 .rename_i j;have hx:a.eval x= .pointer (A.p j):=hx;have hy:a.eval y= .pointer none:=hy;have key:∀ {z:R2} {t':Ty} {d:tU (El t')},r j=some z->J8 z=some ⟨t',d⟩->(A.p j).isNone=(show Option (El t') from d).isNone:=by
   intro z t' d hz hd;have nI:∃T w',sV T w' (.pointer (A.p j)) d:=by
    cases z with
    |ext z=>
     cases z with
     |zJ t x=>cases hd;exact⟨S,w,vE (H.jd.ok j _ (show iZ A r j=some _ by simp[iZ,hz];rfl))⟩
     |par t x=>cases hd;exact⟨o.old,o.w,vE (H.args j _ hz)⟩
     |_=>cases hd
    |_=>cases hd
   have⟨T,w',nI⟩:=nI;cases d with
   |none=>have nI:cC (A.p j)= .pointer none:=nI;cases hq:A.p j with
    |none=>rfl
    |some _=>rw[hq] at nI;cases nI
   |some y=>have⟨b,_,_,_,_,e,_⟩:=nI;cases hq:A.p j with
    |none=>rw[hq] at e;cases e
    |some _=>rfl
  split at h
  .obtain⟨z,hz,h⟩:=iQ h;split at h
   .rename_i t' d hd;rw[jv h];refine⟨⟨A,kD.refl _ _,λop ho=>?_,tv,tv,tv⟩,rfl⟩;rw[show(Sy.one (.b (.raw (show Option (El t') from d).isNone))).den A= .bool (A.p j).isNone by rw[key hz hd];rfl];exact Dw (by assumption) ho hx hy
   cases h
  .obtain⟨z,hz,h⟩:=iQ h;split at h
   .rename_i t' d hd;rw[jv h];refine⟨⟨A,kD.refl _ _,λop ho=>?_,tv,tv,tv⟩,rfl⟩;rw[show(Sy.one (.b (.raw (show Option (El t') from d).isSome))).den A= .bool (A.p j).isSome by
     have:=key hz hd;rw[<-aob,<-aob,<-this];cases A.p j<;>cases d<;>rfl]
    exact Dx (by assumption) ho hx hy
   cases h
  cases h
 .rename_i j off;have hx:a.eval x= .pointer (some ⟨A.b j,off,none⟩):=hx;have hy:a.eval y= .pointer none:=hy;split at h
  .rw[jv h];exact⟨⟨A,kD.refl _ _,λop ho=>Dw (by assumption) ho hx hy,tv,tv,tv⟩,rfl⟩
  .rw[jv h];exact⟨⟨A,kD.refl _ _,λop ho=>Dx (by assumption) ho hx hy,tv,tv,tv⟩,rfl⟩
  cases h
 .split at h
  .rw[jv h];exact⟨⟨A,kD.refl _ _,λop ho=>MW (by assumption) ho hx hy,tv,tv,tv⟩,rfl⟩
  .rw[jv h];exact⟨⟨A,kD.refl _ _,λop ho=>MX (by assumption) ho hx hy,tv,tv,tv⟩,rfl⟩
  cases h
 .rename_i u v;have hx:a.eval x= .bool u.den:=hx;have hy:a.eval y= .bool v.den:=hy;split at h
  .rw[jv h];exact⟨jD (mJ:=none) (p:=P.underlying t=some .bool) rfl tv tv (by simp only[kH,hx,hy,oS];rfl) (by assumption),rfl⟩
  .rw[jv h];exact⟨jD (mJ:=none) (p:=P.underlying t=some .bool) rfl tv tv (by simp only[kH,hx,hy,oS];rfl) (by assumption),rfl⟩
  cases h
 cases h
end
theorem jO.drop {S:iF}{w:aa}:∀(k:Nat) {vs:List af} {a:List sX},jO S w vs a->jO S w (vs.drop k) (a.drop k)
 |0,_,_,h=>h
 |k+1,[],[],_=>trivial
 |k+1,_::_,_::_,h=>jO.drop k h.2
 |_+1,[],_::_,h=>h.elim
 |_+1,_::_,[],h=>h.elim
theorem jO.take {S:iF}{w:aa}:∀(k:Nat) {vs:List af} {a:List sX},jO S w vs a->jO S w (vs.take k) (a.take k)
 |0,_,_,_=>trivial
 |k+1,[],[],_=>trivial
 |k+1,_::_,_::_,h=>⟨h.1,jO.take k h.2⟩
 |_+1,[],_::_,h=>h.elim
 |_+1,_::_,[],h=>h.elim
theorem CE.drop {o:jh}{S:iF}{w:aa}{k:Bool}(j:Nat){vs:List af}{cs:List sX}(h:CE o S w k vs cs):CE o S w k (vs.drop j) (cs.drop j):=by
 cases k
 .exact jO.drop j h
 exact jO.drop j h
theorem CE.take {o:jh}{S:iF}{w:aa}{k:Bool}(j:Nat){vs:List af}{cs:List sX}(h:CE o S w k vs cs):CE o S w k (vs.take j) (cs.take j):=by
 cases k
 .exact jO.take j h
 exact jO.take j h
theorem CE.get {o:jh}{S:iF}{w:aa}{k:Bool}{vs:List af}{cs:List sX}(h:CE o S w k vs cs){j:Nat}{c:sX}(hc:cs[j]?=some c):∃v,vs[j]?=some v/\CE o S w k [v] [c]:=by
 cases k
 .obtain⟨v,h1,h2⟩:=jO.get h hc;exact⟨v,h1,h2,tv⟩
 obtain⟨v,h1,h2⟩:=jO.get h hc;exact⟨v,h1,h2,tv⟩
theorem QU {w w':aa}{b q:Nat}(h:w'.heap[b]?=w.heap[b]?):w'.cell? ⟨b,q,none⟩=w.cell? ⟨b,q,none⟩:=by
 unfold World.cell?;simp only[h]
section
variable {P:az}{o:jh}{n:Nat}{A:ju}{S:iF}{F:Nat->Prop}{s:Nat->Option E2}{r:Nat->Option R2}{a:Act}{w:aa}{C:List (Nat×Bool)}{b:Nat}
theorem uK {op:Op}{out:Out}{mJ:Option af}{p:Prop}{A':ju}(hA:kD F A A')(mC:out.sy.all (FU F out.re))(hg:out.sy.jW A')(Fm:rQ o S w A' b out.re)(h:kH P (· =w) (λx=>some (a.eval x)) op mJ=some (out.sy.den A',p))(hp:p):Dv P o A S F w b op a out:=by
 refine⟨A',hA,λo ho=>?_,mC,hg,Fm⟩;subst ho;exact HB (ρ:=a.eval) (λx u hx=>bz hx) h hp w rfl
theorem iW {out MY:Out}(h:(Tr.ret MY).run s r=some out):out=MY:=(bz h).symm
theorem Dy {j:Nat}(h:F j):FU F [] j:=.inl h
theorem Dz {B:Nat}{k:Bool}(hF:∀j,b<=j->j<B->¬F j){t:ax}{x:aL}{off lV base:Nat}{cs:List sX}{vs:List af}{out:Out}(hx:a.eval x= .pointer (some ⟨lV,base+off,none⟩))(DA:CE o S w k vs cs)(qP:∀q,q<vs.length->w.cell? ⟨lV,base+q,none⟩=vs[q]?)
  (h:(J9 P k b t cs off).run s r=some out) (hB:∀p∈out.re,p.1<B):Dv P o A S F w b (.load t x) a out/\out.hs=[]/\∀p∈out.cs,p:=by
 unfold J9 at h;split at h
 .rename_i fs hu;obtain⟨MG,h⟩:=iD h;rw[aQ] at MG;have pV:=aly MG.2;have e:=iW h;subst e;obtain⟨A',k1,k2,k3,k4⟩:=nA _ _ b A F (CE.take (P.cellsOf t) (CE.drop off DA)) hF hB;have Fo:((vs.drop off).take (P.cellsOf t)).length=P.cellsOf t:=by rw[<-k2,aV];exact pV
  refine⟨uK (A':=A') (mJ:=some (.agg (((vs.drop off).take (P.cellsOf t))).toArray)) (p:=(P.info? t).isSome=true/\JP (· =w) lV (base+off) (P.cellsOf t) ((vs.drop off).take (P.cellsOf t)).toArray) k1 (λc yy=>(k4 c yy).1) (λc yy=>(k4 c yy).2) k3 ?_ ⟨MG.1,?_,?_⟩,rfl,λ_ q=>by cases q⟩
  .simp only[kH,hu,hx,Sy.den];rw[k2]
  .simp only[dK];exact Fo
  intro w' zm q hq;subst zm;have hq2:off+q<vs.length:=by
   rw[aX,bw] at Fo;omega
  rw[cJ,qP (off+q) hq2,akG,bP,ak hq,b5]
 .cases h
 .rename_i d FP JS hu;split at h
  .rename_i c j4;obtain⟨v,HE,Y3⟩:=CE.get DA j4;split at h
   .rename_i sc re hce;have e:=iW h;subst e;obtain⟨A',k1,k2,k3,k4⟩:=nA [c] [v] b A F Y3 hF (by rw[hce];exact hB);rw[hce] at k2 k3 k4;have k2:sc.den A'=v:=by simpa using k2
    refine⟨uK (A':=A') (mJ:=some v) (p:=vz (· =w) lV (base+off) v) k1 (k4 sc (by simp)).1 (k4 sc (by simp)).2 k3 ?_ ?_,rfl,λ_ q=>by cases q⟩
    .simp only[kH,hx,Sy.den];rw[hu,k2];cases d<;>first|exact(FP _ rfl).elim|exact(JS _ _ rfl).elim|rfl
    intro w' zm;subst zm;rw[qP off (b7.1 HE).1,HE]
   cases h
  cases h
 cases h
theorem BU {T:iF}{w':aa}{t:Ty}{lV:Nat}{y:El t}(h:oz T w' lV y):∃vs,Data.rd T w' vs y/\vs.length=iN t/\T lV/\∀q,q<vs.length->w'.cell? ⟨lV,0+q,none⟩=vs[q]?:=by
 have⟨cur,t',fz,cs,h1,h2,h3,h4⟩:=h;refine⟨cs,h3,by rw[Data.len h3,kr],h1,λq hq=>?_⟩;rw[cG,cell_of_row w' lV q cur t' fz h2];exact h4 q (by rw[<-Data.len h3];exact hq)
theorem TR {B:Nat}(H:j5 o n A S F s r a w)(hF:∀j,b<=j->j<B->¬F j){t:ax}{x:aL}{p:Sy}{out:Out}(hx:a.eval x=p.den A)(mC:p.all F)(hg:p.jW A)(h:(TJ P b t p).run s r=some out)(hB:∀p∈out.re,p.1<B):Dv P o A S F w b (.load t x) a out/\out.hs=[]:=by
 unfold TJ at h;split at h
 ·
  rename_i j off;obtain⟨y,hy,h⟩:=iQ h;have hx:a.eval x= .pointer (some ⟨A.b j,off,none⟩):=hx;have hr:=H.j7 j y hy;have Dh:iZ A r j=some (y.den A j):=by simp[iZ,hy]
  split at h
  .rename_i bt cs;have hm:iZ A r j=some (Rs.of (.box (A.b j) bt (cs.map (Sc.den A)))):=Dh;have hb:w.heap[A.b j]?=some (.cells (cs.map (Sc.den A)).toArray bt (0,0)):=H.jd.ok j _ hm;have qP:∀q,w.cell? ⟨A.b j,q,none⟩=(cs.map (Sc.den A))[q]?:=λq=>by rw[cell_of_row w _ q _ _ _ hb];simp
   split at h
   .rename_i fs hu;obtain⟨MG,h⟩:=iD h;rw[aQ] at MG;have hlen:=aly MG.2;have e:=iW h;subst e;refine⟨uK (A':=A) (mJ:=some (.agg (((cs.drop off).take (P.cellsOf t)).map (Sc.den A)).toArray)) (p:=(P.info? t).isSome=true/\JP (· =w) (A.b j) off (P.cellsOf t) (((cs.drop off).take (P.cellsOf t)).map (Sc.den A)).toArray) (kD.refl _ _) ?_ ?_ tv ?_ ⟨MG.1,?_,?_⟩,rfl⟩
    .intro c yy;exact Sc.mono (λ_=>Dy) (hr.2.1 c (dV (dh yy)))
    .intro c yy;exact hr.2.2 c (dV (dh yy))
    .simp only[kH,hu,hx];rfl
    .rw[aX,bw] at hlen;simp;exact hlen
    intro w' zm q hq;subst zm;rw[qP,akG,alz,alA,bP,ak hq,b5]
   .cases h
   .rename_i d FP JS hu;split at h
    .rename_i c j4;have e:=jv h;subst e;have oL:=bO j4;refine⟨uK (A':=A) (mJ:=some (c.den A)) (p:=vz (· =w) (A.b j) off (c.den A)) (kD.refl _ _) (Sc.mono (λ_=>Dy) (hr.2.1 c oL)) (hr.2.2 c oL) tv ?_ ?_,rfl⟩
     .simp only[kH,hx];rw[hu];cases d<;>first|exact(FP _ rfl).elim|exact(JS _ _ rfl).elim|rfl
     intro w' zm;subst zm;rw[qP,cm,j4];rfl
    cases h
   cases h
  .rename_i t' y;have hp:oz S w (A.b j) y:=H.jd.ok j _ Dh;obtain⟨vs,h1,h2,_,h3⟩:=BU hp;obtain⟨k1,k2,_⟩:=Dz (P:=P) (k:=true) (base:=0) hF (by rw[cG];exact hx) (pT t' h1) h3 h hB;exact⟨k1,k2⟩
  .rename_i t' y;have hp:oz o.old o.w (A.b j) y:=H.args j _ hy;obtain⟨vs,h1,h2,h4,h3⟩:=BU hp;obtain⟨k1,k2,_⟩:=Dz (P:=P) (k:=false) (w:=w) (base:=0) hF (by rw[cG];exact hx) (pT t' h1) (λq hq=>by rw[<-h3 q hq];exact QU (H.jd.old _ h4)) h hB;exact⟨k1,k2⟩
  cases h
 ·
  rename_i j i sz off;obtain⟨y,hy,h⟩:=iQ h;obtain⟨g,f,m,cp,hv,h0,h1⟩:JO (A.v j) i:=hg;split at h
  .rename_i q e t' ie l;obtain⟨m9,h⟩:=iD h;have m9:=aly m9;subst m9;have hm:mW S w (A.v j) (A.f q) none e t' ie l:=H.jd.ok j _ (show iZ A r j=some _ by simp[iZ,hy];rfl);obtain⟨BV,F9,_⟩:=H.j7 j _ hy;have F9:F q:=F9;have hlen:m=l.length:=by
    obtain⟨p',c',e,_⟩:=Dt H hy (t:=t') (l:=l) rfl;rw[hv] at e;cases e;rfl
   subst hlen;have hx:a.eval x= .pointer (some ⟨Mt (A.v j),Mu (A.v j)+i.toNat*iN t'+off,none⟩):=hx;split at h
   .rename_i fs hu;split at h
    .rename_i c hc;obtain⟨MG,h⟩:=iD h;rw[aQ] at MG;have pV:=aly MG.2;have e:=iW h;subst e;have C7:∀d x,(((je t' (l.getD i.toNat (zn t'))).drop off).take (P.cellsOf t))[d]?=some x->(je t' (l.getD i.toNat (zn t')))[off+d]?=some x:=λd x hd=>by
      rw[bP] at hd;split at hd
      .rwa[b5] at hd
      cases hd
     obtain⟨k1,k2⟩:=Du (F:=F) (S:=S) (w:=w) (A:=A) (ie:=ie) hc λd x hd=>by
      exact(AY hm h0 h1 (C7 d x hd)).2
     refine⟨uK (A':=A) (mJ:=some (.agg (c.map (Sc.den A)).toArray)) (p:=(P.info? t).isSome=true/\JP (· =w) (Mt (A.v j)) (Mu (A.v j)+i.toNat*iN t'+off) (P.cellsOf t) (c.map (Sc.den A)).toArray) (kD.refl _ _) (λu hu=>?_) (λu hu=>?_) tv ?_ ⟨MG.1,?_,?_⟩,rfl⟩
     .obtain⟨d,hd⟩:=akA.1 hu;exact Sc.mono (λ_=>Dy) ((k2 d u hd).2.1 BV F9)
     .obtain⟨d,hd⟩:=akA.1 hu;exact(k2 d u hd).2.2
     .simp only[kH,hu,hx,Sy.den]
     .simp;exact pV
     intro w' zm d hd;subst zm;have Ga:d<c.length:=by omega
     have hcd:c[d]?=some c[d]:=aR Ga;have hxd:(((je t' (l.getD i.toNat (zn t'))).drop off).take (P.cellsOf t))[d]?=some (((je t' (l.getD i.toNat (zn t'))).drop off).take (P.cellsOf t))[d]:=aR (by rw[<-k1];exact Ga);have:=(AY hm h0 h1 (C7 d _ hxd)).1;rw[akG,cm,hcd,ck,(k2 d _ hcd).1,<-this]
     congr 2;omega
    cases h
   .cases h
   .rename_i d FP JS hu;split at h
    .rename_i c j4;split at h
     .rename_i sc hsc;have e:=jv h;subst e;obtain⟨n1,n2⟩:=AY hm h0 h1 j4;obtain⟨k1,k2⟩:=Du (F:=F) (S:=S) (w:=w) (A:=A) (ie:=ie) hsc λd x hd=>by
       cases d with
       |zero=>
        have:c=x:=by simpa using hd
        subst this;exact n2
       |succ d=>simp at hd
      obtain⟨z1,z2,z3⟩:=k2 0 sc rfl;refine⟨uK (A':=A) (mJ:=some (sc.den A)) (p:=vz (· =w) (Mt (A.v j)) (Mu (A.v j)+i.toNat*iN t'+off) (sc.den A)) (kD.refl _ _) (Sc.mono (λ_=>Dy) (z2 BV F9)) z3 tv ?_ ?_,rfl⟩
      .simp only[kH,hx,Sy.den];rw[hu];cases d<;>first|exact(FP _ rfl).elim|exact(JS _ _ rfl).elim|rfl
      intro w' zm;subst zm;rw[z1,dS,<-n1,cJ]
     cases h
    cases h
   cases h
  split at h
  .rename_i t' l hl;obtain⟨m9,h⟩:=iD h;have m9:=aly m9;rw[TH] at m9;have nI:=xW H hy hl;have hlen:m=l.length:=by
    obtain⟨p',c',e,_⟩:=jZ nI;rw[hv] at e;cases e;rfl
   subst hlen;obtain⟨vs,DA,hvl,qP⟩:=HL H hy hl h0 h1;have hx:a.eval x= .pointer (some ⟨Mt (A.v j),Mu (A.v j)+i.toNat*Data.size (El t')+off,none⟩):=by rw[m9];exact hx
   obtain⟨k1,k2,_⟩:=Dz (P:=P) hF hx DA (λq hq=>qP q (by rw[<-hvl];exact hq)) h hB;exact⟨k1,k2⟩
  cases h
 cases h
theorem TS (H:j5 o n A S F s r a w)(hC:nt a C){c x y:aL}{out:Out}(h:(TK C c x y).run s r=some out):Dv P o A S F w b (.pick c x y) a out/\out.hs=[]:=by
 have key:∀(e:BE) (v:Sy),a.eval c= .bool e.den->(e.den=true->a.eval x=v.den A)->(e.den=false->a.eval y=v.den A)->v.all F->v.jW A->Dv P o A S F w b (.pick c x y) a ⟨[],[],v,[]⟩:=by
  intro e v hc h1 h2 h3 h4;refine⟨A,kD.refl _ _,λo ho=>?_,Sy.mono (λ_=>Dy) h3,h4,tv⟩;simp only[execOp,ho,hc,asBool,aM,bF,bY];cases hd:e.den with
  |true=>simp only[if_true,h1 hd];exact⟨rfl,rfl⟩
  |false=>simp only[alf,if_false,h2 hd];exact⟨rfl,rfl⟩
 unfold TK at h;split at h
 .rename_i t;simp only[oZ,Tr.run] at h;split at h
  .rename_i en SS;split at h
   .rename_i hp;have Zd:=F7 H hC SS hp;have E6:a.eval (.tmp t)=en.sy.den A:=by simp only[dL,cj,Zd,dA]
    split at h
    .rename_i Mv;obtain⟨v,e1,e2,e3,h⟩:=iR H hC h;have e:=iW h;subst e;rw[Mv] at E6;exact⟨key (.lit true) v E6 (λ_=>e1) (λq=>by cases q) e2 e3,rfl⟩
    .rename_i Mv;obtain⟨v,e1,e2,e3,h⟩:=iR H hC h;have e:=iW h;subst e;rw[Mv] at E6;exact⟨key (.lit false) v E6 (λq=>by cases q) (λ_=>e1) e2 e3,rfl⟩
    .rename_i e _ _ Mv;rw[Mv] at E6 Zd;have E6:a.eval (.tmp t)= .bool e.den:=E6;have Tn:∀b',e.den=b'->nt a (C++[(t,b')]):=by
      intro b' qh l hl;rcases aI.1 hl with hl|hl
      .exact hC l hl
      rw[av] at hl;subst hl;subst qh;exact Zd
     split at h
     .have hx:∀q,a.eval (.const (.bool q))= .bool q:=λ_=>rfl
      by_cases hd:e.den=false
      .obtain⟨v,e1,e2,e3,h⟩:=iR H (Tn false hd) h;split at h
       .rename_i q;have e':=jv h;subst e';refine⟨key e (.one (.b (.or e q))) E6 (λk=>by rw[hd] at k;cases k) (λ_=>?_) tv tv,rfl⟩;rw[e1];show akV q.den= .bool (e.den||q.den);rw[hd];rfl
       cases h
      have hd:e.den=true:=by simpa using hd
      have:∃q,out=⟨[],[],.one (.b (.or e q)),[]⟩:=by
       generalize hk:(λr:Sy=>match r with| .one (.b q)=>one (.b (.or e q))|_=>Tr.fail)=k at h;have TU:∀(u:Sy),(k u).run s r=some out->∃q,out=⟨[],[],.one (.b (.or e q)),[]⟩:=by
        intro u hu;subst hk;simp only at hu;split at hu
        .exact⟨_,jv hu⟩
        cases hu
       cases y with
       |tmp t2=>
        simp only[oZ,Tr.run] at h;split at h
        .split at h
         .exact TU _ h
         cases h
        cases h
       |const v=>exact TU _ h
       |func f=>exact TU _ h
       |global g=>cases h
      obtain⟨q,rfl⟩:=this;refine⟨key e (.one (.b (.or e q))) E6 (λ_=>?_) (λk=>by rw[hd] at k;cases k) tv tv,rfl⟩;rw[hx];show akV true= .bool (e.den||q.den);rw[hd];rfl
     .have hx:∀q,a.eval (.const (.bool q))= .bool q:=λ_=>rfl
      by_cases hd:e.den=true
      .obtain⟨v,e1,e2,e3,h⟩:=iR H (Tn true hd) h;split at h
       .rename_i q;have e':=jv h;subst e';refine⟨key e (.one (.b (.and e q))) E6 (λ_=>?_) (λk=>by rw[hd] at k;cases k) tv tv,rfl⟩;rw[e1];show akV q.den= .bool (e.den && q.den);rw[hd];rfl
       cases h
      have hd:e.den=false:=by simpa using hd
      have:∃q,out=⟨[],[],.one (.b (.and e q)),[]⟩:=by
       generalize hk:(λr:Sy=>match r with| .one (.b q)=>one (.b (.and e q))|_=>Tr.fail)=k at h;have TU:∀(u:Sy),(k u).run s r=some out->∃q,out=⟨[],[],.one (.b (.and e q)),[]⟩:=by
        intro u hu;subst hk;simp only at hu;split at hu
        .exact⟨_,jv hu⟩
        cases hu
       cases x with
       |tmp t2=>
        simp only[oZ,Tr.run] at h;split at h
        .split at h
         .exact TU _ h
         cases h
        cases h
       |const v=>exact TU _ h
       |func f=>exact TU _ h
       |global g=>cases h
      obtain⟨q,rfl⟩:=this;refine⟨key e (.one (.b (.and e q))) E6 (λk=>by rw[hd] at k;cases k) (λ_=>?_) tv tv,rfl⟩;rw[hx];show akV false= .bool (e.den && q.den);rw[hd];rfl
     cases h
    cases h
   cases h
  cases h
 cases h
end
section
variable {P:az}{o:jh}{n:Nat}{A:ju}{S:iF}{F:Nat->Prop}{s:Nat->Option E2}{r:Nat->Option R2}{a:Act}{w:aa}{C:List (Nat×Bool)}{b:Nat}
theorem TV (H:j5 o n A S F s r a w)(hC:nt a C){c:Call}{out:Out}(h:(qV P C b (.call c)).run s r=some out)(hc:∀p∈out.cs,p):Dv P o A S F w b (.call c) a out/\out.hs=[]:=by
 simp only[qV] at h;split at h
 .rename_i x qw lC;split at h
  .rename_i hu;obtain⟨p,e1,e2,e3,h⟩:=iR H hC h;split at h
   .rename_i u;rw[jv h];have e1:a.eval x= .string u:=e1;refine⟨jD (mJ:=none) (p:=True) rfl tv tv ?_ tv,rfl⟩;simp only[kH,qw,lC,bn,b9,e1,hu];rfl
   cases h
  .rename_i e hu;obtain⟨p,e1,e2,e3,h⟩:=iR H hC h;split at h
   .rename_i j;obtain⟨y,hy,h⟩:=iQ h;split at h
    .rename_i et by_;rw[jv h];have e1:a.eval x=A.v j:=e1;have ko:w.ownsRow 0 et 1 (A.v j) by_.size (zL by_):=H.jd.ok j _ (show iZ A r j=some _ by simp[iZ,hy];rfl);have hlen:JN (A.v j) (by_.size:Int):=by
      rcases ko.2 with⟨e,z⟩|⟨g,cap,cur,e,_⟩
      .exact⟨_,_,_,e,by rw[z]⟩
      exact⟨_,_,_,e,rfl⟩
     refine⟨jD (mJ:=some (.int .i64 (by_.size:Int))) (p:=JN (A.v j) (by_.size:Int)) rfl tv tv ?_ hlen,rfl⟩;simp only[kH,qw,lC,bn,b9,e1,hu];rfl
    split at h
    .rename_i t l hl;rw[jv h];have e1:a.eval x=A.v j:=e1;refine⟨jD (mJ:=some (.int .i64 (l.length:Int))) (p:=JN (A.v j) (l.length:Int)) rfl tv tv ?_ (let⟨p,c,e,_⟩:=Dt H hy hl;⟨p,_,c,e,rfl⟩),rfl⟩;simp only[kH,qw,lC,bn,b9,e1,hu];rfl
    cases h
   .rw[jv h];have e1:a.eval x= .slice none 0 0:=e1;refine⟨jD (mJ:=some (.int .i64 0)) (p:=JN (.slice none 0 0) 0) rfl tv tv ?_ ⟨_,_,_,rfl,rfl⟩,rfl⟩;simp only[kH,qw,lC,bn,b9,e1,hu];rfl
   cases h
  cases h
 .rename_i x y qw lC;obtain⟨p,e1,e2,e3,h⟩:=iR H hC h;obtain⟨q,f1,f2,f3,h⟩:=iR H hC h;split at h
  .rename_i u v _;rw[jv h];have e1:a.eval x= .int .i64 u:=e1;have f1:a.eval y= .int .i64 v:=f1;refine⟨jD (mJ:=some (.int .i64 (max u v))) (p:=∀ty w,(al4 c.argTypes ty [.int .i64 u,.int .i64 v].toArray).run P w= .ok (.int .i64 (max u v)) w) rfl tv tv ?_ (λty w=>adh ty w),rfl⟩;simp only[kH,qw,lC,bn,b9,e1,f1];rfl
  cases h
 .rename_i x y qw lC;obtain⟨p,e1,e2,e3,h⟩:=iR H hC h;obtain⟨q,f1,f2,f3,h⟩:=iR H hC h;split at h
  .rename_i u v _;rw[jv h];have e1:a.eval x= .int .i64 u:=e1;have f1:a.eval y= .int .i64 v:=f1;refine⟨jD (mJ:=some (.int .i64 (min u v))) (p:=∀ty w,(al5 c.argTypes ty [.int .i64 u,.int .i64 v].toArray).run P w= .ok (.int .i64 (min u v)) w) rfl tv tv ?_ (λty w=>adi ty w),rfl⟩;simp only[kH,qw,lC,bn,b9,e1,f1];rfl
  cases h
 cases h
theorem QV {B:Nat}(H:j5 o n A S F s r a w)(hC:nt a C)(hF:∀j,b<=j->j<B->¬F j){op:Op}{out:Out}(h:(qV P C b op).run s r=some out)(hc:∀p∈out.cs,p)(hB:∀p∈out.re,p.1<B):Dv P o A S F w b op a out/\out.hs=[]:=by
 cases op
 case move x=>
  obtain⟨p,e1,e2,e3,h⟩:=iR H hC h;rw[iW h];exact⟨jD (mJ:=none) (p:=True) rfl e2 e3 (by simp only[kH,e1];rfl) tv,rfl⟩
 case assign x=>
  obtain⟨p,e1,e2,e3,h⟩:=iR H hC h;rw[iW h];exact⟨jD (mJ:=none) (p:=True) rfl e2 e3 (by simp only[kH,e1];rfl) tv,rfl⟩
 case unOp uo t x=>
  cases uo
  case not=>
   obtain⟨p,e1,e2,e3,h⟩:=iR H hC h;split at h
   .rename_i e;rw[jv h];have e1:a.eval x= .bool e.den:=e1;exact⟨jD (mJ:=none) (p:=True) rfl tv tv (by simp only[kH,e1];rfl) tv,rfl⟩
   cases h
  all_goals cases h
 case extract x i=>
  obtain⟨p,e1,e2,e3,h⟩:=iR H hC h;split at h
  .rename_i ps;have e1:a.eval x= .tuple (ps.map (m6 A)).toArray:=e1;split at h
   .rename_i cs JV;rw[iW h];have hm:=bO JV;refine⟨jD (mJ:=none) (p:=True) rfl (λc hc=>e2 _ hm c hc) (λc hc=>e3 _ hm c hc) ?_ tv,rfl⟩;simp only[kH,e1,akG,cm,JV];rfl
   .rename_i c JV;rw[jv h];have hm:=bO JV;refine⟨jD (mJ:=none) (p:=True) rfl (e2 _ hm c (by simp)) (e3 _ hm c (by simp)) ?_ tv,rfl⟩;simp only[kH,e1,akG,cm,JV];rfl
   cases h
  cases h
 case nilCheck x=>
  obtain⟨p,e1,e2,e3,h⟩:=iR H hC h;split at h
  .rename_i j off;rw[jv h];exact⟨jD (mJ:=none) (p:=True) rfl e2 e3 (by simp only[kH,e1,Sy.den,Sc.den]) tv,rfl⟩
  .rename_i j i sz off;rw[jv h];exact⟨jD (mJ:=none) (p:=True) rfl e2 e3 (by simp only[kH,e1,Sy.den,Sc.den]) tv,rfl⟩
  .rename_i j;have e1:a.eval x= .pointer (A.p j):=e1;obtain⟨z,hz,h⟩:=iQ h;have fin:∀ {t:Ty} {y:tU (El t)} {k:Bool} {T:iF} {w':aa},sV T w' (.pointer (A.p j)) y->(∀lV,A.p j=some ⟨lV,0,none⟩->∀d:El t,oz T w' lV d->aci o S w (A.set b (A.p j) 0 0 lV) b (.ext (if k then .HH t d else .CD t d)))->
     out=⟨[(show Option (El t) from y).isSome=true],[],.one (.ptr b 0),[(b,some (.ext (if k then .HH t ((show Option (El t) from y).getD (zn t)) else .CD t ((show Option (El t) from y).getD (zn t)))))]⟩->Dv P o A S F w b (.nilCheck x) a out/\out.hs=[]:=by
    intro t y k T w' hp Fm e;subst e;have hs:(show Option (El t) from y).isSome=true:=hc _ (by simp);cases y with
    |none=>cases hs
    |some d=>
     have⟨lV,cur,t0,fz,cs,p1,p2,p3,p4,p5⟩:=hp;have p1:A.p j=some ⟨lV,0,none⟩:=by injection p1
     have xX:¬F b:=hF b (ay _) (hB _ (av.2 rfl));refine⟨⟨A.set b (A.p j) 0 0 lV,kD.set xX _ _ _ _,λop ho=>?_,.inr ⟨_,av.2 rfl⟩,tv,⟨ay _,⟨_,rfl,Fm lV p1 d ⟨cur,t0,fz,cs,p2,p3,p4,p5⟩⟩,tv⟩⟩,rfl⟩;have Ze:(Sy.one (.ptr b 0)).den (A.set b (A.p j) 0 0 lV)= .pointer (some ⟨lV,0,none⟩):=by
      show cC (some ⟨(A.set b (A.p j) 0 0 lV).b b,0,none⟩)=_;rw[ju.Dq]
     rw[Ze];simp only[execOp,ho,e1,p1];exact⟨rfl,rfl⟩
   split at h
   .rename_i t y;refine fin (k:=true) (T:=S) (w':=w) (vE (H.jd.ok j _ (show iZ A r j=some _ by simp[iZ,hz];rfl))) (λlV hb d hd=>?_) (iW h);show oz S w ((A.set b (A.p j) 0 0 lV).b b) d;rw[ju.Dq];exact hd
   .rename_i t y;refine fin (k:=false) (T:=o.old) (w':=o.w) (vE (H.args j _ hz)) (λlV hb d hd=>?_) (iW h);show oz o.old o.w ((A.set b (A.p j) 0 0 lV).b b) d;rw[ju.Dq];exact hd
   cases h
  cases h
 case binOp bo t x y t'=>
  obtain⟨p,e1,e2,e3,h⟩:=iR H hC h;obtain⟨q,f1,f2,f3,h⟩:=iR H hC h;exact Zc H e1 f1 h hc
 case convert sT dT x=>
  simp only[qV] at h;split at h
  .rename_i k1 k h1 h2;obtain⟨p,e1,e2,e3,h⟩:=iR H hC h;split at h
   .rename_i k2 m;obtain⟨rfl,hp⟩:=nB h hc;have e1:a.eval x= .int k2 m:=e1;exact⟨jD (mJ:=none) rfl tv tv (by simp only[kH,h1,h2,e1];rfl) hp,rfl⟩
   cases h
  cases h
 case index t x i=>
  simp only[qV] at h;split at h
  .rename_i hu;obtain⟨p,e1,e2,e3,h⟩:=iR H hC h;obtain⟨q,f1,f2,f3,h⟩:=iR H hC h;split at h
   .rename_i u k m _;obtain⟨rfl,hp⟩:=nB h hc;have e1:a.eval x= .string u:=e1;have f1:a.eval i= .int k m:=f1;exact⟨jD (mJ:=none) rfl tv tv (by simp only[kH,hu,e1,f1];rfl) (show jz m u.size from hp),rfl⟩
   cases h
  cases h
 case indexAddr t x i=>
  simp only[qV] at h;split at h
  .rename_i e hu;obtain⟨p,e1,e2,e3,h⟩:=iR H hC h;obtain⟨q,f1,f2,f3,h⟩:=iR H hC h;split at h
   .rename_i j k m _;obtain⟨y,hy,h⟩:=iQ h;split at h
    .rename_i t' l hl;obtain⟨hi,h⟩:=iD h;obtain⟨rfl,hp⟩:=nB h hc;have e1:a.eval x=A.v j:=e1;have f1:a.eval i= .int k m:=f1;have hix:=QT H hy hl hp.1 hp.2;exact⟨jD (mJ:=none) (p:=(P.info? e).isSome=true/\JO (A.v j) m) rfl e2 hix (by simp only[kH,hu,e1,f1];rfl) ⟨hi,hix⟩,rfl⟩
    cases h
   cases h
  cases h
 case fieldAddr t x f=>
  simp only[qV] at h;split at h
  .rename_i fs hu;split at h
   .rename_i fd YF;obtain⟨hi,h⟩:=iD h;have hi:0<P.cellsOf fd.type:=by simpa using bW▸hi
    obtain⟨p,e1,e2,e3,h⟩:=iR H hC h;split at h
    .rename_i j off;rw[jv h];have e1:a.eval x= .pointer (some ⟨A.b j,off,none⟩):=e1;exact⟨jD (mJ:=none) (p:=0<P.cellsOf fd.type) rfl e2 tv (by simp only[kH,hu,e1,YF];rfl) hi,rfl⟩
    .rename_i j i sz off;rw[jv h];have e1:a.eval x= .pointer (some ⟨Mt (A.v j),Mu (A.v j)+i.toNat*sz+off,none⟩):=e1;exact⟨jD (mJ:=none) (p:=0<P.cellsOf fd.type) rfl e2 e3 (by simp only[kH,hu,e1,YF,Sy.den,Sc.den,cJ]) hi,rfl⟩
    cases h
   cases h
  cases h
 case load t x=>
  obtain⟨p,e1,e2,e3,h⟩:=iR H hC h;exact TR H hF e1 e2 e3 h hB
 case field t x f=>
  simp only[qV] at h;split at h
  .rename_i fs hu;split at h
   .rename_i fd YF;obtain⟨p,e1,e2,e3,h⟩:=iR H hC h;split at h
    .rename_i cs;have e1:a.eval x= .agg (cs.map (Sc.den A)).toArray:=e1;split at h
     .rename_i fs' h3;obtain⟨hi,h⟩:=iD h;rw[iW h];refine⟨jD (mJ:=none) (p:=(P.info? fd.type).isSome=true) rfl (λc hc=>e2 c (dV (dh hc))) (λc hc=>e3 c (dV (dh hc))) ?_ hi,rfl⟩;simp only[kH,hu,e1,YF,h3,Sy.den,alz,alA]
      congr 3
      apply cr;rw[Array.toList_extract,List.extract_eq_take_drop];simp
     .cases h
     .rename_i d FP JS h3;split at h
      .rename_i c j4;rw[jv h];have hm:=bO j4;refine⟨jD (mJ:=none) (p:=True) rfl (e2 c hm) (e3 c hm) ?_ tv,rfl⟩;have hg:((cs.map (Sc.den A)).toArray[fd.offset]?).map (λv=>(v,True))=some (c.den A,True):=by
        rw[akG,cm,j4];rfl
       simp only[kH,hu,e1,YF,h3];cases d<;>first|exact(FP _ rfl).elim|exact(JS _ _ rfl).elim|exact hg
      cases h
     cases h
    cases h
   cases h
  cases h
 case pick c x y=>exact TS H hC h
 case call c=>exact TV H hC h hc
 all_goals cases h
end
def s8:R2->Bool
 | .ar _ _=>true
 | .BR _ _ _=>true
 | .ext (.par _ _)=>true
 | .ext (.CD _ _)=>true
 |_=>false
theorem nC {o:jh}{A:ju}{j:Nat}:∀ {x:R2},s8 x=false->zM o A j x
 | .ar _ _,h=>by cases h
 | .BR _ _ _,h=>by cases h
 | .ext (.par _ _),h=>by cases h
 | .ext (.CD _ _),h=>by cases h
 | .ro _ _,_=>trivial
 | .row _ _ _,_=>trivial
 | .box _ _,_=>trivial
 | .wO _ _ _,_=>trivial
 | .map _ _ _,_=>trivial
 | .iter _ _ _ _ _ _,_=>trivial
 | .ext (.nest _ _ _ _ _ _),_=>trivial
 | .ext (.kP _ _ _ _ _ _),_=>trivial
 | .ext (.zJ _ _),_=>trivial
 | .ext (.HH _ _),_=>trivial
 | .ext (.HI _ _ _ _ _),_=>trivial
 | .ext (.Fi _),_=>trivial
 | .ext (.sZ _ _),_=>trivial
 | .ext (.nb _ _ _ _ _ _ _),_=>trivial
def qJ (r:Nat->Option R2)(j:Nat)(x:Option R2):Nat->Option R2:=λk=>match aK j k with
 |true=>x
 |false=>r k
def iP (r:Nat->Option R2):List (Nat×Option R2)->Nat->Option R2
 |[]=>r
 |p::l=>qJ (iP r l) p.1 p.2
def si (s:Nat->Option E2)(d:Nat)(x:Option E2):Nat->Option E2:=λk=>match aK d k with
 |true=>x
 |false=>s k
theorem jx {a b:Nat}(h:aK a b=true):a=b:=aly h
theorem TW {a b:Nat}(h:aK a b=false):a≠b:=Nat.ne_of_beq_eq_false h
theorem ku (r:Nat->Option R2)(j:Nat)(x:Option R2):qJ r j x j=x:=by unfold qJ;rw[dD]
theorem lF {r:Nat->Option R2}{j k:Nat}{x:Option R2}(h:j≠k):qJ r j x k=r k:=by
 unfold qJ;split
 .rename_i e;exact(h (jx e)).elim
 rfl
theorem mz (s:Nat->Option E2)(j:Nat)(x:Option E2):si s j x j=x:=by unfold si;rw[dD]
theorem rF {s:Nat->Option E2}{j k:Nat}{x:Option E2}(h:j≠k):si s j x k=s k:=by
 unfold si;split
 .rename_i e;exact(h (jx e)).elim
 rfl
theorem TX (A:ju)(r:Nat->Option R2)(j:Nat)(x:Option R2):iZ A (qJ r j x)=ni (iZ A r) j (x.map (R2.den A j)):=by
 funext k;unfold iZ ni
 by_cases e:k=j
 .subst e;rw[ku,ak rfl]
 rw[lF (λq=>e q.symm),ah e]
section
variable {P:az}{o:jh}{n:Nat}{A A':ju}{S:iF}{F G:Nat->Prop}{s:Nat->Option E2}{r:Nat->Option R2}{a:Act}{w w':aa}{C:List (Nat×Bool)}{b:Nat}
theorem MZ (hA:kD F A A')(hr:∀j x,r j=some x->F j/\x.all F):iZ A r=iZ A' r:=by
 funext j;unfold iZ;cases h:r j with
 |none=>rfl
 |some x=>simp only[ck];rw[R2.congr hA (hr j x h).1 (hr j x h).2]
theorem j5.agree (H:j5 o n A S F s r a w)(hA:kD F A A')(hG:∀j,F j->G j):j5 o n A' S G s r a w where
 size:=H.size
 lD:=H.lD
 env t e he:=⟨λhc=>by rw[show(⟨t,e.ch,e.sy.den A'⟩:SR).val=e.sy.den A from(Sy.congr hA (H.qW t e he hc).1).symm];exact(H.env t e he).1 hc,(H.env t e he).2⟩
 qW t e he hc:=⟨Sy.mono hG (H.qW t e he hc).1,Sy.l5 hA (H.qW t e he hc).1 (H.qW t e he hc).2⟩
 j7 j x hj:=⟨hG j (H.j7 j x hj).1,R2.mono hG (H.j7 j x hj).2.1,R2.l5 hA (H.j7 j x hj).2.1 (H.j7 j x hj).2.2⟩
 jd:=by rw[<-MZ hA λj x hj=>⟨(H.j7 j x hj).1,(H.j7 j x hj).2.1⟩];exact H.jd
 args j x hj:=(H.args j x hj).congr hA (H.j7 j x hj).1
 zN:=⟨λj h=>hG j (H.zN.1 j h),H.zN.2.trans (hA.mono H.zN.1)⟩
theorem j5.vq (H:j5 o n A S F s r a w)(j:Nat)(x:Option R2)(hj:∀y,x=some y->F j/\y.all F/\y.jW A)(hx:∀y,x=some y->zM o A j y){S':iF}(hf:nK o w' S' (ni (iZ A r) j (x.map (R2.den A j)))):j5 o n A S' F s (qJ r j x) a w' where
 size:=H.size
 lD:=H.lD
 env:=H.env
 qW:=H.qW
 j7 k y hk:=by
  by_cases e:j=k
  .subst e;rw[ku] at hk;exact hj y hk
  rw[lF e] at hk;exact H.j7 k y hk
 jd:=by rw[TX];exact hf
 args k y hk:=by
  by_cases e:j=k
  .subst e;rw[ku] at hk;exact hx _ hk
  rw[lF e] at hk;exact H.args k y hk
 zN:=H.zN
theorem j5.ro (H:j5 o n A S F s r a w){re:List (Nat×Option R2)}(hA:kD F A A')(Fm:rQ o S w A' b re):j5 o n A' S (FU F re) s (iP r re) a w:=by
 have H1:j5 o n A' S (FU F re) s r a w:=H.agree hA λj h=>.inl h;have key:∀(l:List (Nat×Option R2)) (b:Nat),rQ o S w A' b l->(∀p∈l,p∈re)->j5 o n A' S (FU F re) s (iP r l) a w:=by
  intro l
  induction l with
  |nil=>intro b _ _;exact H1
  |cons p l ih=>
   intro b hr hs;have⟨h1,⟨x,hx,nI⟩,h3⟩:=hr;have H2:=ih _ h3 λq hq=>hs q (aE _ hq);show j5 o n A' S (FU F re) s (qJ (iP r l) p.1 p.2) a w;refine H2.vq p.1 p.2 (λy hy=>⟨.inr ⟨p.2,hs p (by simp)⟩,?_⟩) (λy hy=>?_) ?_
   .rw[hx] at hy;cases hy;cases x<;>first|exact⟨tv,tv⟩|exact nI.elim|skip
    rename_i z;cases z<;>first|exact⟨tv,tv⟩|exact nI.elim
   .rw[hx] at hy;cases hy;cases x<;>first|exact nI|exact nI.elim|trivial|skip
    rename_i z;cases z<;>first|exact nI|exact nI.elim|trivial
   rw[hx];cases x with
   |ro t l=>exact H2.jd.TE p.1 nI
   |ar t l=>exact H2.jd.Fj p.1 (r:=xd) tv λ_ q=>q
   |wO k t l=>exact H2.jd.TE p.1 nI
   |BR k t l=>exact H2.jd.Fj p.1 (r:=xd) tv λ_ q=>q
   |row _ _ _=>exact nI.elim
   |box _ _=>exact nI.elim
   |map _ _ _=>exact nI.elim
   |iter _ _ _ _ _ _=>exact nI.elim
   |ext z=>
    cases z with
    |zJ t x=>exact H2.jd.TE p.1 nI
    |par t x=>exact H2.jd.Fj p.1 (r:=xd) tv λ_ q=>q
    |HH t x=>exact H2.jd.Fj p.1 (r:=ace (A'.b p.1) x) nI λ_ q=>q
    |CD t x=>exact H2.jd.Fj p.1 (r:=xd) tv λ_ q=>q
    |nest _ _ _ _ _ _=>exact nI.elim
    |kP _ _ _ _ _ _=>exact nI.elim
    |HI _ _ _ _ _=>exact nI.elim
    |Fi _=>exact nI.elim
    |sZ _ _=>exact nI.elim
    |nb _ _ _ _ _ _ _=>exact nI.elim
 exact key re b Fm λ_ h=>h
theorem j5.put (H:j5 o n A S F s r a w){d:Nat}{y:Sy}{u:af}(hd:d<n)(pR:∀t e,s t=some e->∀l∈e.ch,l.1≠d)(hCd:∀l∈C,l.1≠d)(hy:nt a C->y.all F/\y.jW A)(hu:(nt a C->u=y.den A)/\(¬nt a C->u=undef)):j5 o n A S F (si s d (some ⟨C,y⟩)) r (a.put (some d) u) w where
 size:=by simp[dM,H.size]
 lD:=H.lD
 env t e he:=by
  by_cases q:d=t
  .subst q;rw[mz] at he;cases he;have hs:(a.put (some d) u).tmps[d]?=some u:=by
    simp only[dM,akQ,if_true];rw[ak (by rw[H.size];exact hd)]
   have hC:C.all (λl=>l.1 !=d)=true:=aY.2 λl hl=>by simpa using hCd l hl
   refine⟨λhc=>?_,λhc=>?_⟩
   .show(a.put (some d) u).tmps[d]?=some (y.den A);rw[hs,hu.1 ((rJ hC).1 hc)]
   show(a.put (some d) u).tmps[d]?=some undef;rw[hs,hu.2 (λk=>hc ((rJ hC).2 k))]
  rw[rF q] at he;refine xT ?_ (H.env t e he);rw[aQ,aY];exact⟨by simpa using λk=>q k.symm,λl hl=>by simpa using pR t e he l hl⟩
 qW t e he hc:=by
  by_cases q:d=t
  .subst q;rw[mz] at he;cases he;exact hy ((rJ (aY.2 λl hl=>by simpa using hCd l hl)).1 hc)
  rw[rF q] at he;exact H.qW t e he ((rJ (aY.2 λl hl=>by simpa using pR t e he l hl)).1 hc)
 j7:=H.j7
 jd:=H.jd
 args:=H.args
 zN:=H.zN
theorem nK.freeze {f:Nat->Option Rs}(h:nK o w S f)(j:Nat){x y:Rs}(hj:f j=some x)(hn:∀b,¬y.has b)(qj:y.ok (λk=>S k\/x.has k) w):∃S',(∀k,S k->S' k)/\nK o w S' (ni f j (some y)):=by
 refine⟨λk=>S k\/x.has k,λk=>.inl,h.swap (N:=λi=>i=j) (K:=λi=>i=j) (pU.refl _ _) (λ_=>.inl) (λk hk=>?_) (λi ri hi hr=>?_) (λi ri hi hr=>?_) (λi ri b hi hr hb=>?_) (λi k ri rk b hi hk hr _ hb _=>by rw[hi,hk])⟩
 .rcases hk with hk|hk
  .exact .inl hk
  refine .inr ⟨.inl ⟨j,x,rfl,hj,hk⟩,(h.own j x k hj hk).2.1,λi ri hi hr hb=>?_⟩;subst hi;unfold ni at hr;rw[ak rfl] at hr;cases hr;exact hn k hb
 .unfold ni at hr;rw[ah hi] at hr;exact⟨hi,hr⟩
 .subst hi;unfold ni at hr;rw[ak rfl] at hr;cases hr;exact qj
 subst hi;unfold ni at hr;rw[ak rfl] at hr;cases hr;exact(hn b hb).elim
theorem Gb {T:iF}:∀ {cs:List sX} {vs:List af},vs.length=cs.length->(∀(d:Nat) x v,cs[d]?=some x->vs[d]?=some v->sY T w v x)->jO T w vs cs
 |[],[],_,_=>trivial
 |[],_::_,h,_=>by cases h
 |_::_,[],h,_=>by cases h
 |c::cs,v::vs,h,k=>⟨k 0 c v rfl rfl,Gb (by simpa using h) λd x u h1 h2=>k (d+1) x u (by simpa using h1) (by simpa using h2)⟩
theorem yx.cel {ie:ax}{v:af}{c:sX}(h:yx S w ie v c):sY (λk=>S k\/v.ownBlock=some k) w v c:=by
 cases c with
 |l t l=>exact lg.rd h
 |_=>exact h.1.up λ_=>.inl
theorem mW.rd {v:af}{f:Lit->af}{e:ax}{t:Ty}{ie:ax}{l:List (El t)}(h:mW S w v f none e t ie l):Rd (λk=>S k\/(yO v f none e t ie l).has k) w v l:=by
 have⟨xs,h1,_,h2⟩:=h.row;refine lg.rd (S:=λk=>S k\/(yO v f none e t ie l).has k) (e:=e) ⟨xs,by rw[<-kr];exact h1,by rw[h1.1,kr],λi hi=>?_⟩|>.up λk hk=>?_
 .have hlen:((xs.drop (i*Data.size (El t))).take (Data.size (El t))).length=(je t l[i]).length:=by
   have:=bK (iN t) (show i+1<=l.length from hi);rw[bZ,<-h1.1] at this;rw[lN,aX,bw,<-kr];omega
  refine CC t (Gb hlen λd x u hx hu=>?_);have hd:d<iN t:=by have:=(b7.1 hx).1;rwa[lN] at this
  rw[<-kr,bP,ak hd,b5] at hu;have OI:(ny t l)[i*iN t+d]?=some x:=by
   rw[zO hi hd,aH,aR hi];exact hx
  obtain⟨k1,k2⟩:=h2 _ x OI (by simp);rw[hu] at k1;cases k1;refine k2.cel.up λk hk=>?_;rcases hk with hk|hk
  .exact .inl hk
  refine .inr (.inr ⟨_,?_,by simp,hk⟩);have:=(b7.1 OI).1;rwa[mw] at this
 rcases hk with hk|hk
 .exact hk
 exact .inr (.inl hk)
theorem vF.at {k:Kc}{α:Type}[Data α]{b:Nat}{f:Lit->af}{ie:ax}{m:iI k (List α)}(h:vF S w b f none ie m):p9 (λc=>S c\/(TC (some b) f none ie m).has c) w b m:=by
 have⟨zs,h1,h2,h3⟩:=h.map;refine⟨zs,h1,h2,λz hz=>?_⟩;obtain⟨k1,k2⟩:=h3 z hz (by simp);refine k2.rd.up λc hc=>?_;rcases hc with hc|hc
 .exact .inl hc
 exact .inr (.inr ⟨z.1,by simp,by rw[<-k1];exact hc⟩)
def yD:R2->Option R2
 | .row _ t l=>some (.ro t l)
 | .map k t m=>some (.wO k t m)
 | .ext (.nest _ none _ t _ l)=>some (.ro t l)
 | .ext (.kP _ k none t _ m)=>some (.wO k (.list t) m)
 |_=>none
def numOf:Sc->Option Nat
 | .own j=>some j
 | .mp j=>some j
 | .pd j=>some j
 | .ptr j _=>some j
 |_=>none
theorem TY {x z:R2}(h:yD x=some z):s8 x=false:=by
 cases x<;>first|rfl|(cases h;done)|skip
 rename_i y;cases y<;>first|rfl|(cases h;done)
theorem HO {x z:R2}(h:yD x=some z):(∃t l,z= .ro t l)\/∃k t m,z= .wO k t m:=by
 cases x with
 |row e t l=>cases h;exact .inl ⟨_,_,rfl⟩
 |map k t m=>cases h;exact .inr ⟨_,_,_,rfl⟩
 |ext y=>
  cases y with
  |nest q hh e t ie l=>
   cases hh with
   |none=>cases h;exact .inl ⟨_,_,rfl⟩
   |some _=>cases h
  |kP q k hh t ie m=>
   cases hh with
   |none=>cases h;exact .inr ⟨_,_,_,rfl⟩
   |some _=>cases h
  |_=>cases h
 |_=>cases h
theorem M0 {x z:R2}{A:ju}{S:iF}{w:aa}{j:Nat}(h:yD x=some z)(hx:(x.den A j).ok S w):(∀b,¬(z.den A j).has b)/\(z.den A j).ok (λk=>S k\/(x.den A j).has k) w:=by
 cases x with
 |row e t l=>cases h;exact⟨λb q=>(by cases q),lg.rd hx⟩
 |map k t m=>
  cases h;have⟨b,hb,hm⟩:=hx;exact⟨λb q=>(by cases q),HG ⟨some b,by rw[<-hb],.inr hb,hm.up λ_=>.inl⟩⟩
 |ext y=>
  cases y with
  |nest q hh e t ie l=>
   cases hh with
   |none=>cases h;exact⟨λb q=>(by cases q),mW.rd hx⟩
   |some _=>cases h
  |kP q k hh t ie m=>
   cases hh with
   |none=>
    cases h;have⟨b,hb,hm⟩:=hx;refine⟨λb q=>(by cases q),HG ⟨some b,by rw[<-hb],.inr (.inl hb),?_⟩⟩;have:=hm.at
    rw[<-hb] at this;exact this
   |some _=>cases h
  |_=>cases h
 |_=>cases h
def TZ:List Sc->(List (Nat×Option R2)->Tr Out)->Tr Out
 |[],k=>k []
 |c::l,k=>match numOf c with
  |some j=>.res j λx=>match yD x with
   |some z=>TZ l λre=>k ((j,some z)::re)
   |none=>match s8 x with
    |true=>.fail
    |false=>TZ l k
  |none=>TZ l k
def Frz (r:Nat->Option R2)(re:List (Nat×Option R2)):Prop:=∀p∈re,∃y z,r p.1=some y/\yD y=some z/\p.2=some z
def afO (r:Nat->Option R2)(re:List (Nat×Option R2))(l:List Sc):Prop:=∀c∈l,∀j,numOf c=some j->∀y,r j=some y->s8 y=false/\∀z,yD y=some z->(j,some z)∈re
theorem ud:∀(l:List Sc) (k:List (Nat×Option R2)->Tr Out) {out:Out},(TZ l k).run s r=some out->∃re,Frz r re/\afO r re l/\(k re).run s r=some out
 |[],k,out,h=>⟨[],λ_ q=>(by cases q),λ_ q=>(by cases q),h⟩
 |c::l,k,out,h=>by
  simp only[TZ] at h;split at h
  .rename_i j hc;simp only[Tr.run] at h;split at h
   .rename_i x hx;split at h
    .rename_i z hz;obtain⟨re,h1,h3,h2⟩:=ud l _ h;refine⟨_,λp hp=>?_,λc' yy i hi y hy=>?_,h2⟩
     .rcases aC.1 hp with rfl|hp
      .exact⟨x,z,hx,hz,rfl⟩
      exact h1 p hp
     rcases aC.1 yy with rfl|yy
     .rw[hc] at hi;cases hi;rw[hx] at hy;cases hy;refine⟨TY hz,λz' xj=>?_⟩;rw[hz] at xj;cases xj;exact aA
     exact⟨(h3 c' yy i hi y hy).1,λz' xj=>aE _ ((h3 c' yy i hi y hy).2 z' xj)⟩
    rename_i hz;split at h
    .cases h
    rename_i ha;obtain⟨re,h1,h3,h2⟩:=ud l _ h;refine⟨re,h1,λc' yy i hi y hy=>?_,h2⟩;rcases aC.1 yy with rfl|yy
    .rw[hc] at hi;cases hi;rw[hx] at hy;cases hy;exact⟨ha,λz' xj=>by rw[hz] at xj;cases xj⟩
    exact h3 c' yy i hi y hy
   cases h
  rename_i hc;obtain⟨re,h1,h3,h2⟩:=ud l _ h;refine⟨re,h1,λc' yy i hi y hy=>?_,h2⟩;rcases aC.1 yy with rfl|yy
  .rw[hc] at hi;cases hi
  exact h3 c' yy i hi y hy
theorem T0:∀ {re:List (Nat×Option R2)},Frz r re->∀ {j:Nat} {y:R2},r j=some y->iP r re j=some y\/∃z,yD y=some z/\iP r re j=some z
 |[],_,j,y,h=>.inl h
 |p::re,hf,j,y,h=>by
  by_cases e:p.1=j
  .have e2:iP r (p::re) j=p.2:=by rw[<-e];exact ku _ _ _
   obtain⟨y',z,h1,h2,h3⟩:=hf p (by simp);rw[e,h] at h1;cases h1;exact .inr ⟨z,h2,by rw[e2,h3]⟩
  have e2:iP r (p::re) j=iP r re j:=lF e;rw[e2];exact T0 (λq hq=>hf q (aE _ hq)) h
theorem Zf {re:List (Nat×Option R2)}(h:Frz r re){j:Nat}{z:R2}(hm:(j,some z)∈re):iP r re j=some z:=by
 induction re with
 |nil=>cases hm
 |cons p re ih=>
  by_cases q:p.1=j
  .have e:iP r (p::re) j=p.2:=by rw[<-q];exact ku _ _ _
   rw[e];obtain⟨y1,z1,h1,h2,h3⟩:=h p (by simp);obtain⟨y2,z2,h4,h5,h6⟩:=h _ hm;have h4:r j=some y2:=h4;rw[q,h4] at h1;cases h1;rw[h2] at h5;cases h5;cases h6;exact h3
  have e:iP r (p::re) j=iP r re j:=lF q;rw[e];refine ih (λz hz=>h z (aE _ hz)) ?_;rcases aC.1 hm with k|k
  .rw[<-k] at q;exact(q rfl).elim
  exact k
theorem j5.freeze (H:j5 o n A S F s r a w):∀ {re:List (Nat×Option R2)},Frz r re->∃S',(∀k,S k->S' k)/\j5 o n A S' F s (iP r re) a w
 |[],_=>⟨S,λ_ h=>h,H⟩
 |p::re,h=>by
  obtain⟨S1,h1,H1⟩:=j5.freeze H (re:=re) λq hq=>h q (aE _ hq);obtain⟨y,z,hr,hz,hp⟩:=h p (by simp);have fin:∀x,iP r re p.1=some x->(∃S',(∀k,S1 k->S' k)/\nK o w S' (ni (iZ A (iP r re)) p.1 (some (z.den A p.1))))->∃S',(∀k,S k->S' k)/\j5 o n A S' F s (iP r (p::re)) a w:=λx hx ⟨S2,k2,hf⟩=>by
   refine⟨S2,λk q=>k2 k (h1 k q),H1.vq p.1 p.2 (λy hy=>?_) (λy hy=>?_) (by rw[hp];exact hf)⟩
   .rw[hp] at hy;cases hy;rcases HO hz with⟨_,_,rfl⟩|⟨_,_,_,rfl⟩<;>exact⟨(H1.j7 p.1 x hx).1,tv,tv⟩
   rw[hp] at hy;cases hy;rcases HO hz with⟨_,_,rfl⟩|⟨_,_,_,rfl⟩<;>trivial
  rcases T0 (λq hq=>h q (aE _ hq)) hr with hx|⟨z',xj,hx⟩
  .have hm:iZ A (iP r re) p.1=some (y.den A p.1):=by simp[iZ,hx]
   obtain⟨k1,k2⟩:=M0 hz (H1.jd.ok p.1 _ hm);exact fin _ hx (H1.jd.freeze p.1 hm k1 k2)
  rw[hz] at xj;cases xj;have hm:iZ A (iP r re) p.1=some (z.den A p.1):=by simp[iZ,hx]
  refine fin _ hx ⟨S1,λ_ q=>q,H1.jd.Fj p.1 (H1.jd.ok p.1 _ hm) λb q=>?_⟩;rcases HO hz with⟨_,_,rfl⟩|⟨_,_,_,rfl⟩<;>cases q
end
section
variable {P:az}{o:jh}{n:Nat}{A A':ju}{S T:iF}{F G:Nat->Prop}{s:Nat->Option E2}{r:Nat->Option R2}{a:Act}{w w':aa}{C:List (Nat×Bool)}{b:Nat}
structure HP (T:iF)(w:aa)(A:ju)(j:Nat)(x:R2):Prop where
 l:∀t l,ach x=some ⟨t,l⟩->Rd T w (A.v j) (l:List (El t))
 m:∀k t m,MU x=some ⟨k,t,m⟩->Rd T w (.map (A.m j)) (m:iI k (El t))
 p:∀t y,J8 x=some ⟨t,y⟩->Rd T w (.pointer (A.p j)) (y:tU (El t))
 s:∀t y,TI x=some ⟨t,y⟩->oz T w (A.b j) (y:El t)
def Reads (T:iF)(w:aa)(A:ju)(r:Nat->Option R2):Prop:=∀j x,r j=some x->HP T w A j x
def s9 (T:iF)(w:aa)(A:ju)(r:Nat->Option R2)(cs:List Sc):Prop:=∀c∈cs,∀j,numOf c=some j->∀x,r j=some x->HP T w A j x
theorem tc {α:Type 1}:∀(t:Ty) (l:List Sc) (k:El t->List Sc->Tr α) {out:α},s9 T w A r l->(MV t l k).run s r=some out->∃(x:El t) (u rest:List Sc),l=u++rest/\Data.rd T w (u.map (Sc.den A)) x/\(k x rest).run s r=some out
 | .int,l,k,out,hR,h=>by
  have h:(adr l k).run s r=some out:=h;unfold adr at h;split at h
  .exact⟨_,[_],_,rfl,rfl,h⟩
  cases h
 | .bool,l,k,out,hR,h=>by
  have h:(TL l k).run s r=some out:=h;unfold TL at h;split at h
  .exact⟨_,[_],_,rfl,rfl,h⟩
  cases h
 | .unit,l,k,out,hR,h=>⟨(),[],l,rfl,rfl,h⟩
 | .str,l,k,out,hR,h=>by
  have h:(ads l k).run s r=some out:=h;unfold ads at h;split at h
  .exact⟨_,[_],_,rfl,rfl,h⟩
  cases h
 | .list t,l,k,out,hR,h=>by
  have h:(TM t l k).run s r=some out:=h;unfold TM at h;split at h
  .obtain⟨x,hx,h⟩:=iQ h;split at h
   .rename_i t' y hy;split at h
    .rename_i z hz;obtain⟨e,rfl⟩:=lZ hz;cases e;exact⟨y,[_],_,rfl,⟨_,rfl,jZ ((hR _ aA _ rfl x hx).l t y hy)⟩,h⟩
    cases h
   cases h
  .exact⟨[],[_],_,rfl,⟨_,rfl,jZ ML⟩,h⟩
  cases h
 | .map q t,l,k,out,hR,h=>by
  have h:(adt q t l k).run s r=some out:=h;unfold adt at h;split at h
  .obtain⟨x,hx,h⟩:=iQ h;split at h
   .rename_i k' t' y hy;split at h
    .rename_i z hz;obtain⟨e,rfl⟩:=lZ hz;cases e;exact⟨y,[_],_,rfl,⟨_,rfl,yN ((hR _ aA _ rfl x hx).m q t y hy)⟩,h⟩
    cases h
   cases h
  .exact⟨([]:List (jw q×El t)),[_],_,rfl,⟨_,rfl,none,rfl,rfl⟩,h⟩
  cases h
 | .ptr t,l,k,out,hR,h=>by
  have h:(adu t l k).run s r=some out:=h;unfold adu at h;split at h
  .obtain⟨x,hx,h⟩:=iQ h;split at h
   .rename_i t' y hy;split at h
    .rename_i z hz;obtain⟨e,rfl⟩:=lZ hz;cases e;exact⟨y,[_],_,rfl,⟨_,rfl,vE ((hR _ aA _ rfl x hx).p t y hy)⟩,h⟩
    cases h
   cases h
  .split at h
   .obtain⟨x,hx,h⟩:=iQ h;split at h
    .rename_i t' y hy;split at h
     .rename_i z hz;obtain⟨e,rfl⟩:=lZ hz;cases e;obtain⟨cur,t0,fz,cs,p1,p2,p3,p4⟩:=(hR _ aA _ rfl x hx).s t y hy;exact⟨(some y:Option (El t)),[_],_,rfl,⟨_,rfl,_,cur,t0,fz,cs,rfl,p1,p2,p3,p4⟩,h⟩
     cases h
    cases h
   cases h
  .exact⟨(none:Option (El t)),[_],_,rfl,⟨_,rfl,rfl⟩,h⟩
  cases h
 | .pair p q,l,k,out,hR,h=>by
  simp only[MV] at h;obtain⟨x,u,rest,rfl,h1,h⟩:=tc p l _ hR h;obtain⟨y,u2,afP,rfl,h2,h⟩:=tc q _ _ (λc hc=>hR c (bl _ hc)) h;exact⟨(x,y),u++u2,afP,by rw[bC],⟨_,_,by rw[List.map_append],h1,h2⟩,h⟩
def iJ:Sy->List Sc
 | .one c=>[c]
 | .agg cs=>cs
 | .tQ _=>[]
theorem oA {α:Type 1}{t:Ty}{y:Sy}{k:El t->Tr α}{out:α}(hR:s9 T w A r (iJ y))(h:(qu t y k).run s r=some out):∃x:El t,Rd T w (y.den A) x/\(k x).run s r=some out:=by
 unfold qu at h;split at h
 .rename_i c hp;obtain⟨x,u,rest,hu,h1,h⟩:=tc t _ _ hR h;split at h
  .rw[bq] at hu;subst hu;refine⟨x,⟨_,h1,?_⟩,h⟩;rw[Dn,hp];rfl
  cases h
 .rename_i cs hp;obtain⟨x,u,rest,hu,h1,h⟩:=tc t _ _ hR h;split at h
  .rw[bq] at hu;subst hu;refine⟨x,⟨_,h1,?_⟩,h⟩;rw[Dn,hp];rfl
  cases h
 cases h
theorem oz.keep {α:Type}[Data α]{T:iF}{w w':aa}{b:Nat}{y:α}(h:oz T w b y)(hk:kN T w w'):oz T w' b y:=let⟨cur,t,fz,cs,h1,h2,h3,h4⟩:=h;⟨cur,t,fz,cs,h1,(hk b h1).trans h2,Data.keep hk h3,h4⟩
theorem oz.up {α:Type}[Data α]{T T':iF}{w:aa}{b:Nat}{y:α}(h:oz T w b y)(hs:∀k,T k->T' k):oz T' w b y:=let⟨cur,t,fz,cs,h1,h2,h3,h4⟩:=h;⟨cur,t,fz,cs,hs b h1,h2,Data.up hs h3,h4⟩
theorem xm (H:j5 o n A S F s r a w){j:Nat}{x:R2}(hj:r j=some x)(ha:s8 x=false):HP (λk=>S k\/(x.den A j).has k) w A j x:=by
 have qj:(x.den A j).ok S w:=H.jd.ok j _ (show iZ A r j=some _ by simp[iZ,hj]);cases x with
 |ro t' l'=>exact⟨(λt l q=>by cases q;exact Rd.up (λ_=>.inl) qj),(λ_ _ _ q=>by cases q),(λ_ _ q=>by cases q),(λ_ _ q=>by cases q)⟩
 |ar _ _=>cases ha
 |row e t' l'=>exact⟨(λt l q=>by cases q;exact lg.rd qj),(λ_ _ _ q=>by cases q),(λ_ _ q=>by cases q),(λ_ _ q=>by cases q)⟩
 |box _ _=>exact⟨(λ_ _ q=>by cases q),(λ_ _ _ q=>by cases q),(λ_ _ q=>by cases q),(λ_ _ q=>by cases q)⟩
 |wO k' t' l'=>exact⟨(λ_ _ q=>by cases q),(λk t m q=>by cases q;exact Rd.up (λ_=>.inl) qj),(λ_ _ q=>by cases q),(λ_ _ q=>by cases q)⟩
 |BR _ _ _=>cases ha
 |map k' t' l'=>
  refine⟨(λ_ _ q=>by cases q),(λk t m q=>?_),(λ_ _ q=>by cases q),(λ_ _ q=>by cases q)⟩;cases q;exact(M0 (x:=.map k' t' l') rfl qj).2
 |iter _ _ _ _ _ _=>exact⟨(λ_ _ q=>by cases q),(λ_ _ _ q=>by cases q),(λ_ _ q=>by cases q),(λ_ _ q=>by cases q)⟩
 |ext y=>
  cases y with
  |nest q hh e t' ie l'=>
   cases hh with
   |none=>exact⟨(λt l q=>by cases q;exact mW.rd qj),(λ_ _ _ q=>by cases q),(λ_ _ q=>by cases q),(λ_ _ q=>by cases q)⟩
   |some _=>exact⟨(λ_ _ q=>by cases q),(λ_ _ _ q=>by cases q),(λ_ _ q=>by cases q),(λ_ _ q=>by cases q)⟩
  |kP q k' hh t' ie m'=>
   cases hh with
   |none=>
    refine⟨(λ_ _ q=>by cases q),(λk t m q=>?_),(λ_ _ q=>by cases q),(λ_ _ q=>by cases q)⟩;cases q;exact(M0 (x:=.ext (.kP _ k' none t' ie m')) rfl qj).2
   |some _=>exact⟨(λ_ _ q=>by cases q),(λ_ _ _ q=>by cases q),(λ_ _ q=>by cases q),(λ_ _ q=>by cases q)⟩
  |zJ t' x'=>exact⟨(λ_ _ q=>by cases q),(λ_ _ _ q=>by cases q),(λt y q=>by cases q;exact Rd.up (λ_=>.inl) qj),(λ_ _ q=>by cases q)⟩
  |par _ _=>cases ha
  |HH t' x'=>exact⟨(λ_ _ q=>by cases q),(λ_ _ _ q=>by cases q),(λ_ _ q=>by cases q),(λt y q=>by cases q;exact oz.up (show oz S w (A.b j) x' from qj) λk hk=>.inl hk)⟩
  |CD _ _=>cases ha
  |HI _ _ _ _ _=>exact⟨(λ_ _ q=>by cases q),(λ_ _ _ q=>by cases q),(λ_ _ q=>by cases q),(λ_ _ q=>by cases q)⟩
  |Fi _=>exact⟨(λ_ _ q=>by cases q),(λ_ _ _ q=>by cases q),(λ_ _ q=>by cases q),(λ_ _ q=>by cases q)⟩
  |sZ _ _=>exact⟨(λ_ _ q=>by cases q),(λ_ _ _ q=>by cases q),(λ_ _ q=>by cases q),(λ_ _ q=>by cases q)⟩
  |nb _ _ _ _ _ _ _=>exact⟨(λ_ _ q=>by cases q),(λ_ _ _ q=>by cases q),(λ_ _ q=>by cases q),(λ_ _ q=>by cases q)⟩
theorem HP.up {T T':iF}{j:Nat}{x:R2}(h:HP T w A j x)(hs:∀k,T k->T' k):HP T' w A j x:=⟨λt l q=>(h.l t l q).up hs,λk t m q=>(h.m k t m q).up hs,λt y q=>(h.p t y q).up hs,λt y q=>(h.s t y q).up hs⟩
theorem Zg (H:j5 o n A S F s r a w){j:Nat}{x:R2}(hj:r j=some x)(ha:s8 x=true):HP o.old w A j x:=by
 have hk:=H.args j x hj;cases x with
 |ar t' l'=>exact⟨(λt l q=>by cases q;exact Rd.keep H.jd.old hk),(λ_ _ _ q=>by cases q),(λ_ _ q=>by cases q),(λ_ _ q=>by cases q)⟩
 |BR k' t' l'=>exact⟨(λ_ _ q=>by cases q),(λk t m q=>by cases q;exact Rd.keep H.jd.old hk),(λ_ _ q=>by cases q),(λ_ _ q=>by cases q)⟩
 |ext y=>
  cases y with
  |par t' x'=>exact⟨(λ_ _ q=>by cases q),(λ_ _ _ q=>by cases q),(λt y q=>by cases q;exact Rd.keep H.jd.old hk),(λ_ _ q=>by cases q)⟩
  |CD t' x'=>exact⟨(λ_ _ q=>by cases q),(λ_ _ _ q=>by cases q),(λ_ _ q=>by cases q),(λt y q=>by cases q;exact oz.keep hk H.jd.old)⟩
  |_=>cases ha
 |_=>cases ha
theorem AZ (H:j5 o n A S F s r a w):Reads (· <w.heap.size) w A r:=λj x hj=>by
 cases ha:s8 x with
 |false=>exact(xm H hj ha).up λk hk=>hk.elim (H.jd.nO k) λq=>(H.jd.own j _ k (show iZ A r j=some _ by simp[iZ,hj]) q).2.1
 |true=>exact(Zg H hj ha).up λk hk=>bf hk.1 H.jd.sw.size
theorem T3 (H:j5 o n A S F s r a w){j:Nat}{z:R2}(hj:r j=some z)(hz:∃y,yD y=some z):HP S w A j z:=by
 have⟨y,hy⟩:=hz;rcases HO hy with⟨t,l,rfl⟩|⟨k,t,m,rfl⟩
 .exact(xm H hj rfl).up λk hk=>hk.elim id λq=>by cases q
 exact(xm H hj rfl).up λk hk=>hk.elim id λq=>by cases q
theorem ue (H:j5 o n A S F s r a w){cs:List Sc}(hc:∀c∈cs,∀j,numOf c=some j->∀y,r j=some y->s8 y=false):s9 (HK o w) w A r cs:=λc wq j hcj x hj=>by
 refine(xm H hj (hc c wq j hcj x hj)).up λk hk=>?_;rcases hk with hk|hk
 .rcases H.jd.src k hk with h3|h3
  .exact .inl h3
  exact .inr ⟨h3,H.jd.nO k hk⟩
 obtain⟨h1,h2,_⟩:=H.jd.own j _ k (show iZ A r j=some _ by simp[iZ,hj]) hk;exact .inr ⟨h1,h2⟩
end
def oh:List Ty->Type
 |[]=>Unit
 |t::ts=>El t×oh ts
def pW:List (Bool×Ty)->Type
 |[]=>Unit
 |p::ts=>El p.2×pW ts
def BW (S T:iF)(w:aa):(kR:List (Bool×Ty))->List af->pW kR->Prop
 |[],[],_=>True
 |(k,t)::kR,v::vs,x=>(match k with
  |true=>Rd S w v (x.1:El t)
  |false=>Rd T w v (x.1:El t))/\BW S T w kR vs x.2
 |_,_,_=>False
def A4 (S:iF)(w:aa):(ts:List Ty)->List af->oh ts->Prop
 |[],[],_=>True
 |t::ts,v::vs,x=>Rd S w v x.1/\A4 S w ts vs x.2
 |_,_,_=>False
def pz (S:iF)(w:aa):(ts:List Ty)->af->oh ts->Prop
 |[t],v,x=>Rd S w v x.1
 |ts,v,x=> ∃vs:List af,v= .tuple vs.toArray/\A4 S w ts vs x
def jg (P:az)(f:bB)(kR:List (Bool×Ty))(rs:List Ty)(wA:pW kR->Prop)(fn:pW kR->oh rs):Prop:=
 ∀(o:Orig) (vs:List af) (x:pW kR),BW o.S (· <o.w.heap.size) o.w kR vs x->wA x->Calls P f vs.toArray o.w (FW o λS v w'=>pz S w' rs v (fn x))
def l9:(ts:List Ty)->oh ts->Nat->List (Bool×List Sc)×List (Nat×Option R2)
 |[],_,_=>([],[])
 |t::ts,y,b=>let c:=ji true b (je t y.1);let r:=l9 ts y.2 (b+c.2.length);((kI t,c.1)::r.1,c.2++r.2)
def pE (rs:List Ty)(y:oh rs)(b:Nat):Sy×List (Nat×Option R2):=
 match l9 rs y b with
 |([(true,cs)],re)=>(.agg cs,re)
 |([(false,[c])],re)=>(.one c,re)
 |(ps,re)=>(.tQ ps,re)
section
variable {P:az}{o:jh}{n:Nat}{A A':ju}{S T:iF}{F G:Nat->Prop}{s:Nat->Option E2}{r:Nat->Option R2}{a:Act}{w w':aa}{C:List (Nat×Bool)}{b:Nat}
theorem nQ {k:Bool}:∀(cs:List sX) (b:Nat),∀p∈(ji k b cs).2,b<=p.1/\p.1<b+(ji k b cs).2.length
 |[],_,_,h=>by cases h
 | .i _::r,b,p,h=>nQ r b p h
 | .b _::r,b,p,h=>nQ r b p h
 | .s _::r,b,p,h=>nQ r b p h
 | .l t l::r,b,p,h=>by
  obtain⟨x,h⟩:∃x,p∈(b,x)::(ji k (b+1) r).2:=⟨_,h⟩;show b<=p.1/\p.1<b+((ji k (b+1) r).2.length+1);rcases aC.1 h with rfl|h
  .simp
  have:=nQ r (b+1) p h;omega
 | .p t l::r,b,p,h=>by
  obtain⟨x,h⟩:∃x,p∈(b,x)::(ji k (b+1) r).2:=⟨_,h⟩;show b<=p.1/\p.1<b+((ji k (b+1) r).2.length+1);rcases aC.1 h with rfl|h
  .simp
  have:=nQ r (b+1) p h;omega
 | .m q t l::r,b,p,h=>by
  obtain⟨x,h⟩:∃x,p∈(b,x)::(ji k (b+1) r).2:=⟨_,h⟩;show b<=p.1/\p.1<b+((ji k (b+1) r).2.length+1);rcases aC.1 h with rfl|h
  .simp
  have:=nQ r (b+1) p h;omega
theorem rQ.agree (hA:kD F A A'):∀ {re:List (Nat×Option R2)} {b:Nat},(∀p∈re,F p.1)->rQ o S w A b re->rQ o S w A' b re
 |[],_,_,_=>trivial
 |p::re,b,hk,h=>by
  have⟨h1,⟨x,hx,hr⟩,h3⟩:=h;have e:=hA p.1 (hk p (by simp));refine⟨h1,⟨x,hx,?_⟩,rQ.agree hA (λq hq=>hk q (aE _ hq)) h3⟩;have hF:=hk p (by simp);cases x<;>first|(show Rd _ _ _ _;rw[<-e.1];exact hr)|(show Rd _ _ _ _;rw[<-e.2.2.2];exact hr)|exact hr|skip
  rename_i z;cases z<;>first|exact hr|(show Rd _ _ _ _;rw[<-hA.p hF];exact hr)|(show oz _ _ _ _;rw[<-e.2.1];exact hr)
theorem rQ.append:∀ {re re':List (Nat×Option R2)} {b b':Nat},rQ o S w A b re->(∀p∈re,p.1<b')->b<=b'->rQ o S w A b' re'->rQ o S w A b (re++re')
 |[],_,_,_,_,_,hb,k=>k.aiG hb
 |p::re,re',b,b',h,hl,hb,k=>⟨h.1,h.2.1,rQ.append h.2.2 (λq hq=>hl q (aE _ hq)) (by have:=hl p (by simp);omega) k⟩
theorem rR {t:Ty}{v:af}{x:El t}(h:Rd S w v x):∃vs,jO S w vs (je t x)/\v=(if kI t then .agg vs.toArray else vs.headD undef):=by
 have⟨cs,h1,h2⟩:=h;exact⟨cs,pT t h1,by rw[<-Dn];exact h2⟩
theorem yP {B:Nat}:∀(ts:List Ty) (y:oh ts) (vs:List af) (b:Nat) (A:ju) (F:Nat->Prop),A4 S w ts vs y->(∀j,b<=j->j<B->¬F j)->(∀p∈(l9 ts y b).2,p.1<B)->
  ∃A',kD F A A'/\(l9 ts y b).1.map (m6 A')=vs/\rQ o S w A' b (l9 ts y b).2/\∀p∈(l9 ts y b).1,∀c∈p.2,c.all (FU F (l9 ts y b).2)/\c.jW A'
 |[],_,[],b,A,F,_,_,_=>⟨A,kD.refl _ _,rfl,tv,λ_ h=>by cases h⟩
 |[],_,_::_,_,_,_,h,_,_=>h.elim
 |_::_,_,[],_,_,_,h,_,_=>h.elim
 |t::ts,y,v::vs,b,A,F,h,hF,hB=>by
  obtain⟨cs,j4,hv⟩:=rR h.1;obtain⟨A1,h1,h2,h3,h4⟩:=nA (o:=o) (S:=S) (w:=w) (k:=true) _ cs b A F j4 hF λp hp=>hB p (aS _ hp);have wB:=nQ (k:=true) (je t y.1) b;obtain⟨A2,k1,k2,k3,k4⟩:=yP ts y.2 vs (b+(ji true b (je t y.1)).2.length) A1 (FU F (ji true b (je t y.1)).2) h.2 (λj hj hjB hn=>by
   rcases hn with hn|⟨x,hx⟩
   .exact hF j (by omega) hjB hn
   have:=wB _ hx;omega) λp hp=>hB p (bl _ hp)
  have mC:∀c∈(ji true b (je t y.1)).1,c.all (FU F (ji true b (je t y.1)).2):=λc hc=>(h4 c hc).1;have Zh:∀j,FU F (ji true b (je t y.1)).2 j->FU F (l9 (t::ts) y b).2 j:=λj hj=>by
   rcases hj with hj|⟨x,hx⟩
   .exact .inl hj
   exact .inr ⟨x,aS _ hx⟩
  refine⟨A2,h1.trans (k1.mono λj hj=>.inl hj),?_,?_,λp hp c hc=>?_⟩
  .show m6 A2 (kI t,(ji true b (je t y.1)).1)::(l9 ts y.2 _).1.map (m6 A2)=_;rw[k2]
   congr 1
   unfold m6;rw[<-qT k1 mC,h2,hv]
  .exact rQ.append (rQ.agree k1 (λp hp=>.inr ⟨p.2,hp⟩) h3) (λp hp=>(wB p hp).2) (by omega) k3
  have hp:p=(kI t,(ji true b (je t y.1)).1)\/p∈(l9 ts y.2 (b+(ji true b (je t y.1)).2.length)).1:=aC.1 hp;rcases hp with rfl|hp
  .exact⟨Sc.mono Zh (mC c hc),Sc.l5 k1 (mC c hc) (h4 c hc).2⟩
  refine⟨Sc.mono (λj hj=>?_) (k4 p hp c hc).1,(k4 p hp c hc).2⟩;rcases hj with hj|⟨x,hx⟩
  .exact Zh j hj
  exact .inr ⟨x,bl _ hx⟩
theorem BX:∀(ts:List Ty) (y:oh ts) (b:Nat),(l9 ts y b).1.length=ts.length
 |[],_,_=>rfl
 |t::ts,y,b=>by
  show(l9 ts y.2 _).1.length+1=ts.length+1;rw[BX ts y.2]
theorem Ke (rs:List Ty)(y:oh rs)(b:Nat):(pE rs y b).2=(l9 rs y b).2:=by
 unfold pE;split<;>(rename_i q;rw[q])
theorem T4 {B:Nat}{rs:List Ty}{y:oh rs}{v:af}(h:pz S w rs v y)(hF:∀j,b<=j->j<B->¬F j)(hB:∀p∈(pE rs y b).2,p.1<B):
  ∃A',kD F A A'/\(pE rs y b).1.den A'=v/\rQ o S w A' b (pE rs y b).2/\(pE rs y b).1.all (FU F (pE rs y b).2)/\(pE rs y b).1.jW A':=by
 have many:∀vs:List af,(∀x,rs≠[x])->v= .tuple vs.toArray->A4 S w rs vs y->∃A',kD F A A'/\(pE rs y b).1.den A'=v/\rQ o S w A' b (pE rs y b).2/\(pE rs y b).1.all (FU F (pE rs y b).2)/\(pE rs y b).1.jW A':=by
  intro vs mc hv hr;obtain⟨A',h1,h2,h3,h4⟩:=yP rs y vs b A F hr hF (by rw[<-Ke];exact hB);have hl:∀q,(l9 rs y b).1≠[q]:=by
   intro q hq;have hl:=BX rs y b;rw[hq] at hl
   match rs,hl,mc with
   |[t],_,mc=>exact mc t rfl
  have e:pE rs y b=(.tQ (l9 rs y b).1,(l9 rs y b).2):=by
   unfold pE;split
   .rename_i q;exact(hl _ (by rw[q])).elim
   .rename_i q;exact(hl _ (by rw[q])).elim
   rename_i q;rw[q]
  rw[e];exact⟨A',h1,by simp only[Sy.den,h2,hv],h3,λp hp c hc=>(h4 p hp c hc).1,λp hp c hc=>(h4 p hp c hc).2⟩
 match rs,y,h with
 |[],y,h=>have⟨vs,h1,h2⟩:=h;exact many vs (λ_ q=>by cases q) h1 h2
 |t::u::ts,y,h=>have⟨vs,h1,h2⟩:=h;exact many vs (λ_ q=>by cases q) h1 h2
 |[t],y,h=>
  have h:Rd S w v y.1:=h;obtain⟨A',h1,h2,h3,h4⟩:=yP [t] y [v] b A F ⟨h,tv⟩ hF (by rw[<-Ke];exact hB);obtain⟨cs,j4,hv⟩:=rR h;have hlen:∀c∈(l9 [t] y b).1,c.1=false->∃q,c.2=[q]:=by
   intro c hc Fp;have hc:c=(kI t,(ji true b (je t y.1)).1):=by simpa[l9] using hc
   subst hc;have Fp:kI t=false:=Fp;cases t<;>first|exact⟨_,rfl⟩|cases Fp
  have OJ:(∃cs re,l9 [t] y b=([(true,cs)],re))\/∃c re,l9 [t] y b=([(false,[c])],re):=by
   cases hp:kI t with
   |true=>exact .inl ⟨_,_,by show([(kI t,_)],_)=_;rw[hp]⟩
   |false=>
    obtain⟨q,hq⟩:=hlen (kI t,(ji true b (je t y.1)).1) (by simp[l9]) hp;have hq:(ji true b (je t y.1)).1=[q]:=hq;exact .inr ⟨q,_,by show([(kI t,(ji true b (je t y.1)).1)],_)=_;rw[hp,hq]⟩
  rcases OJ with⟨AK,re,hq⟩|⟨c,re,hq⟩
  .have e:pE [t] y b=(.agg AK,re):=by unfold pE;rw[hq]
   rw[hq] at h2 h3 h4;rw[e];exact⟨A',h1,(dW h2).1,h3,λc hc=>(h4 (true,AK) (av.2 rfl) c hc).1,λc hc=>(h4 (true,AK) (av.2 rfl) c hc).2⟩
  have e:pE [t] y b=(.one c,re):=by unfold pE;rw[hq]
  rw[hq] at h2 h3 h4;rw[e];exact⟨A',h1,(dW h2).1,h3,(h4 (false,[c]) (av.2 rfl) c (av.2 rfl)).1,(h4 (false,[c]) (av.2 rfl) c (av.2 rfl)).2⟩
end
def T5:(kR:List (Bool×Ty))->List Sy->(pW kR->Tr Out)->Tr Out
 |[],[],k=>k ()
 |p::kR,y::ys,k=>qu p.2 y λx=>T5 kR ys λxs=>k (x,xs)
 |_,_,_=>.fail
def HQ:List (Bool×Ty)->List Sy->List Sc
 |(true,_)::kR,y::ys=>iJ y++HQ kR ys
 |(false,_)::kR,_::ys=>HQ kR ys
 |_,_=>[]
def T6 {kR:List (Bool×Ty)}{rs:List Ty}(wA:pW kR->Prop)(fn:pW kR->oh rs)(b:Nat)(jL:List (Nat×Nat))(ys:List Sy):Tr Out:=
 match jL with
 |[]=>TZ (HQ kR ys) λre=>T5 kR ys λx=>.ret ⟨[wA x],[],(pE rs (fn x) b).1,(pE rs (fn x) b).2++re⟩
 |_=>.fail
section
variable {P:az}{o:jh}{n:Nat}
def mO (o:jh)(n:Nat)(F:Nat->Prop)(s:Nat->Option E2)(r:Nat->Option R2)(a:Act)(out:Out)(v:af)(w':aa):Prop:=
 ∃A' S',j5 o n A' S' (FU F out.re) s (iP r out.re) a w'/\v=out.sy.den A'/\out.sy.all (FU F out.re)/\out.sy.jW A'
end
def xo (P:az)(f:bB)(tr:Nat->List (Nat×Nat)->List Sy->Tr Out):Prop:=
 ∀(o:jh) (n:Nat) (A:ju) (S:iF) (F:Nat->Prop) (s:Nat->Option E2) (r:Nat->Option R2) (a:Act) (w:aa) (b B:Nat) (jL:List (Nat×Nat)) (ys:List Sy) (out:Out),
  j5 o n A S F s r a w->(∀j,b<=j->j<B->¬F j)->(∀y∈ys,y.all F/\y.jW A)->(∀c∈jL,F c.1)->(tr b jL ys).run s r=some out->(∀p∈out.cs,p)->(∀h∈out.hs,∀A w,h.lhs A w=h.rhs A w)->(∀p∈out.re,p.1<B)->
  Calls P f (ys.map (Sy.den A)++jL.map (λc=>cC (some ⟨A.b c.1,c.2,none⟩))).toArray w (λe w'=> ∃v,e= .returned v/\mO o n F s r a out v w')
structure kG (P:az) where
 f:bB
 tr:Nat->List (Nat×Nat)->List Sy->Tr Out
 ok:xo P f tr
def T7 (P:az)(t:ax)(y:Sy)(cs:List Sc):Hid:=
 ⟨λA w=>(Instr.box t (y.den A)).run P w,λA w=>.ok (.pointer (some ⟨w.heap.size,0,none⟩)) (w.alloc (.cells (cs.map (Sc.den A)).toArray t))⟩
def Kf (P:az)(t:ax)(cs:List Sc):Hid:=
 ⟨λ_ w=>(Instr.alloc t true (.tuple #[])).run P w,λA w=>.ok (.pointer (some ⟨w.heap.size,0,none⟩)) (w.alloc (.cells (cs.map (Sc.den A)).toArray t))⟩
def DB (P:az)(t len:Nat)(e:ax)(ys:List (Nat×Sy))(cs:List Sc):Hid:=
 ⟨λA w=>(anV t len (ys.map λy=>(y.1,y.2.den A)).toArray).run P w,λA w=>.ok (.slice (some ⟨w.heap.size,0,none⟩) len len) (w.alloc (.cells (cs.map (Sc.den A)).toArray e))⟩
def Kg (P:az)(t:ax)(ys:List (Nat×Sy))(cs:List Sc):Hid:=
 ⟨λA w=>(al3 t (ys.map λy=>(y.1,y.2.den A)).toArray).run P w,λA w=>.ok (.agg (cs.map (Sc.den A)).toArray) w⟩
def codeOf (P:az):Nat->ax->Option Ty
 |0,_=>none
 |k+1,t=>match P.underlying t with
  |some (.int .i64)=>some .int
  |some .bool=>some .bool
  |some .string=>some .str
  |some (.slice e)=>(codeOf P k e).map .list
  |some (.map q e)=>match P.underlying q with
   |some (.int .i64)=>(codeOf P k e).map (.map .int)
   |some .string=>(codeOf P k e).map (.map .str)
   |_=>none
  |some (.struct fs)=>acj (fs.toList.map λf=>codeOf P k f.type)
  |_=>none
where acj:List (Option Ty)->Option Ty
 |[some t]=>some t
 |some t::r=>(acj r).map (.pair t)
 |[]=>some .unit
 |_=>none
def oU (P:az)(t e:ax)(sz:Nat):Bool:=
 match P.underlying t,P.info? e with
 |some (.slice e'),some i=>match i.zero with
  |some z=>aK e' e && aK i.size sz && aK z.cells.size sz && bp 0 sz && akZ i.bytes 1000
  |none=>false
 |_,_=>false
theorem xp {P:az}{t e:ax}{sz:Nat}(h:oU P t e sz=true):∃bytes,bytes<=1000/\Fe P t e sz bytes:=by
 unfold oU at h;split at h
 .rename_i e' i hu hi;split at h
  .rename_i z hz;simp only[aQ] at h;obtain⟨⟨⟨⟨h1,h2⟩,h3⟩,h4⟩,h5⟩:=h;have h1:=jx h1;have h2:=jx h2;have h3:=jx h3;subst h1;exact⟨i.bytes,by simpa using Nat.le_of_ble_eq_true h5,hu,⟨i,z,hi,hz,h2,rfl,h3⟩,by simpa using bW▸h4⟩
  cases h
 cases h
def CF (t:Ty):List Sy->(List (El t)->Tr Out)->Tr Out
 |[],k=>k []
 |y::ys,k=>qu t y λx=>CF t ys λxs=>k (x::xs)
def M1:Nat->List Nat->Bool
 |_,[]=>true
 |k,i::l=>aK i k && M1 (k+1) l
def adv (P:az)(b t len:Nat)(is:List Nat)(ys:List Sy):Tr Out:=
 match codeOf P 9 (P.elem t) with
 |some ty=>iX (M1 0 is && (aK is.length len && aK ys.length len && oU P t (P.elem t) (OE ty)) && akZ len 1000)
  (TZ (ys.flatMap iJ) λre=>CF ty ys λl=>.ret ⟨[],[DB P t len (P.elem t) (is.zip ys) (ys.flatMap iJ)],.one (.own b),[(b,some (.row (P.elem t) ty l))]++re⟩)
 |none=>.fail
def HR (fs:Array Field):List (Nat×Sy)->List Sc->Option (List Sc)
 |[],cs=>some cs
 |(i,y)::l,cs=>match fs[i]? with
  |some fd=>HR fs l (cs.take fd.offset++iJ y++cs.drop (fd.offset+(iJ y).length))
  |none=>none
def T8 (P:az)(t:ax)(ys:List (Nat×Sy)):Tr Out:=
 match P.info? t,P.underlying t with
 |some i,some (.struct fs)=>match i.zero with
  |some z=>match HR fs ys (z.cells.toList.map tV) with
   |some cs=>.ret ⟨[],[Kg P t ys cs],.agg cs,[]⟩
   |none=>.fail
  |none=>.fail
 |_,_=>.fail
def Gc:Sc->Bool
 | .v x=>x.oneCell'
 | .hd _ _ _=>false
 |_=>true
def storeT (P:az)(t:ax):Sy->Sy->Tr Out
 | .one (.ptr j off),y=>.res j λx=>match x with
  | .box bt cs=>iX (akZ (off+(iJ y).length) cs.length && aK (P.cellsOf t) (iJ y).length && (P.info? t).isSome && (iJ y).all Gc && (match y with| .tQ _=>false|_=>true))
   (.ret ⟨[],[],.one (.v undef),[(j,some (.box bt (cs.take off++iJ y++cs.drop (off+(iJ y).length))))]⟩)
  |_=>.fail
 |_,_=>.fail
def DC (P:az)(b:Nat)(t:ax):Tr Out:=
 match P.underlying t,codeOf P 9 t with
 |some (.map kt _),some (.map k ty)=>iX (uc P kt k) (.ret ⟨[],[],.one (.mp b),[(b,some (.map k ty ([]:List (jw k×El ty))))]⟩)
 |_,_=>.fail
def Fj (P:az)(t:ax)(p q y:Sy):Tr Out:=
 match P.underlying t,p with
 |some (.map kt et),.one (.mp j)=>.res j λr=>match r with
  | .map k ty m=>match BT k q with
   |some x=>iX (uc P kt k) (TZ (iJ y) λre=>iX (re.all λp=>!Nat.beq p.1 j) (qu ty y λv=>.ret ⟨[lY k x,(show List (jw k×El ty) from m).length<=2147483647],[],.one (.v undef),(j,some (.map k ty (mj m x v)))::re⟩))
   |none=>.fail
  |_=>.fail
 |_,_=>.fail
def T9 (P:az)(t JA:ax)(p q:Sy):Tr Out:=
 match P.underlying t,p with
 |some (.map kt et),.one (.mp j)=>.res j λr=>match r with
  | .map k ty m=>match BT k q with
   |some x=>iX (uc P kt k && aK kt JA) (.ret ⟨[lY k x],[],.tQ [],[(j,some (.map k ty (ox m x)))]⟩)
   |none=>.fail
  |_=>.fail
 |_,_=>.fail
def Ua (P:az)(t:ax)(p:Sy):Tr Out:=
 match P.underlying t,p with
 |some (.map kt et),.one (.mp j)=>.res j λr=>match J7 r with
  |some ⟨k,t',m⟩=>iX (uc P kt k) (one (num ((show List (jw k×El t') from m).length:Int)))
  |none=>.fail
 |_,_=>.fail
def adw (P:az)(t:Option ax):Bool:=match t.bind P.underlying with
 |some (.map _ _)=>true
 |_=>false
section
variable {P:az}{o:jh}{n:Nat}{A A':ju}{S S' T:iF}{F G:Nat->Prop}{s:Nat->Option E2}{r:Nat->Option R2}{a:Act}{w w':aa}{C:List (Nat×Bool)}{b:Nat}
theorem lS (r:Nat->Option R2):∀x y:List (Nat×Option R2),iP r (x++y)=iP (iP r y) x
 |[],_=>rfl
 |p::x,y=>by show qJ (iP r (x++y)) p.1 p.2=_;rw[lS r x y];rfl
theorem xq {α:Type 1}(H:j5 o n A S F s r a w)(hC:nt a C):∀ {l:List aL} {k:List Sy->Tr α} {out:α},(QN C l k).run s r=some out->∃ys:List Sy,l.map a.eval=ys.map (Sy.den A)/\(∀y∈ys,y.all F/\y.jW A)/\(k ys).run s r=some out
 |[],k,out,h=>⟨[],rfl,λ_ q=>(by cases q),h⟩
 |x::l,k,out,h=>by
  obtain⟨y,e1,e2,e3,h⟩:=iR H hC h;obtain⟨ys,f1,f2,h⟩:=xq H hC h;refine⟨y::ys,by rw[bn,bn,e1,f1],λz hz=>?_,h⟩;rcases aC.1 hz with rfl|hz
  .exact⟨e2,e3⟩
  exact f2 z hz
theorem uL (H:j5 o n A S F s r a w){re:List (Nat×Option R2)}(hz:Frz r re)(hS:∀k,S k->S' k)(H':j5 o n A S' F s (iP r re) a w){l:List Sc}(hl:afO r re l):s9 S' w A r l:=by
 intro c hc j hcj x hx;obtain⟨ha,hf⟩:=hl c hc j hcj x hx;cases xj:yD x with
 |some z=>
  have h1:=T3 H' (Zf hz (hf z xj)) ⟨x,xj⟩;cases x with
  |row e t l=>cases xj;exact⟨(λt l q=>by cases q;exact h1.l _ _ rfl),(λ_ _ _ q=>by cases q),(λ_ _ q=>by cases q),(λ_ _ q=>by cases q)⟩
  |map k t m=>cases xj;exact⟨(λ_ _ q=>by cases q),(λk t m q=>by cases q;exact h1.m _ _ _ rfl),(λ_ _ q=>by cases q),(λ_ _ q=>by cases q)⟩
  |ext y=>
   cases y with
   |nest q hh e t ie l=>
    cases hh with
    |none=>cases xj;exact⟨(λt l q=>by cases q;exact h1.l _ _ rfl),(λ_ _ _ q=>by cases q),(λ_ _ q=>by cases q),(λ_ _ q=>by cases q)⟩
    |some _=>cases xj
   |kP q k hh t ie m=>
    cases hh with
    |none=>cases xj;exact⟨(λ_ _ q=>by cases q),(λk t m q=>by cases q;exact h1.m _ _ _ rfl),(λ_ _ q=>by cases q),(λ_ _ q=>by cases q)⟩
    |some _=>cases xj
   |_=>cases xj
  |_=>cases xj
 |none=>
  have h1:=xm H hx ha;have low:(∀k,(x.den A j).has k->S' k)->HP S' w A j x:=λq=>h1.up λk hk=>hk.elim (hS k) (q k);cases x with
  |ro t' l'=>exact low λk q=>by cases q
  |wO k' t' l'=>exact low λk q=>by cases q
  |box _ _=>exact⟨(λ_ _ q=>by cases q),(λ_ _ _ q=>by cases q),(λ_ _ q=>by cases q),(λ_ _ q=>by cases q)⟩
  |ar _ _=>cases ha
  |BR _ _ _=>cases ha
  |row _ _ _=>cases xj
  |map _ _ _=>cases xj
  |iter _ _ _ _ _ _=>exact⟨(λ_ _ q=>by cases q),(λ_ _ _ q=>by cases q),(λ_ _ q=>by cases q),(λ_ _ q=>by cases q)⟩
  |ext y=>
   cases y with
   |nest q hh e t ie l=>
    cases hh with
    |none=>cases xj
    |some _=>exact⟨(λ_ _ q=>by cases q),(λ_ _ _ q=>by cases q),(λ_ _ q=>by cases q),(λ_ _ q=>by cases q)⟩
   |kP q k hh t ie m=>
    cases hh with
    |none=>cases xj
    |some _=>exact⟨(λ_ _ q=>by cases q),(λ_ _ _ q=>by cases q),(λ_ _ q=>by cases q),(λ_ _ q=>by cases q)⟩
   |zJ t x=>exact low λk q=>by cases q
   |HH t x=>exact low λk q=>q.elim
   |par _ _=>cases ha
   |CD _ _=>cases ha
   |HI _ _ _ _ _=>exact⟨(λ_ _ q=>by cases q),(λ_ _ _ q=>by cases q),(λ_ _ q=>by cases q),(λ_ _ q=>by cases q)⟩
   |Fi _=>exact⟨(λ_ _ q=>by cases q),(λ_ _ _ q=>by cases q),(λ_ _ q=>by cases q),(λ_ _ q=>by cases q)⟩
   |sZ _ _=>exact⟨(λ_ _ q=>by cases q),(λ_ _ _ q=>by cases q),(λ_ _ q=>by cases q),(λ_ _ q=>by cases q)⟩
   |nb _ _ _ _ _ _ _=>exact⟨(λ_ _ q=>by cases q),(λ_ _ _ q=>by cases q),(λ_ _ q=>by cases q),(λ_ _ q=>by cases q)⟩
theorem A5 (hr:Reads T w A r):∀ {kR:List (Bool×Ty)} {ys:List Sy} {k:pW kR->Tr Out} {out:Out},s9 S' w A r (HQ kR ys)->(T5 kR ys k).run s r=some out->∃x:pW kR,BW S' T w kR (ys.map (Sy.den A)) x/\(k x).run s r=some out
 |[],[],k,out,_,h=>⟨(),tv,h⟩
 |[],_::_,_,_,_,h=>by cases h
 |_::_,[],_,_,_,h=>by cases h
 |(true,t)::kR,y::ys,k,out,hk,h=>by
  obtain⟨x,h1,h⟩:=oA (T:=S') (λc hc=>hk c (aS _ hc)) h;obtain⟨xs,h2,h⟩:=A5 hr (λc hc=>hk c (bl _ hc)) h;exact⟨(x,xs),⟨h1,h2⟩,h⟩
 |(false,t)::kR,y::ys,k,out,hk,h=>by
  obtain⟨x,h1,h⟩:=oA (T:=T) (λc _ j _=>hr j) h;obtain⟨xs,h2,h⟩:=A5 (kR:=kR) (ys:=ys) hr hk h;exact⟨(x,xs),⟨h1,h2⟩,h⟩
theorem jE {op:aD}{v:af}{K:Act->aa->Prop}{Q:Exit->Act->aa->Prop}(e:(execOp a.eval op).run P w= .ok (.value v) w')(k:K (a.put op.dst v) w'):op.wp P a w K Q:=by
 unfold Oper.wp;rw[e];exact k
theorem j5.new (H:j5 o n A S F s r a w)(hF:¬F b){p:Option bJ}{m c:Nat}{x:Obj}{y:R2}(qj:(y.den (A.set b p m c w.heap.size) b).ok S (w.alloc x))(hb:∀k,(y.den (A.set b p m c w.heap.size) b).has k->k=w.heap.size)(mC:y.all (FU F [(b,some y)]))(mc:s8 y=false)(hg:y.jW (A.set b p m c w.heap.size)):
  j5 o n (A.set b p m c w.heap.size) S (FU F [(b,some y)]) s (iP r [(b,some y)]) a (w.alloc x):=by
 have H1:=H.agree (kD.set (A:=A) hF p m c w.heap.size) (G:=FU F [(b,some y)]) λj h=>.inl h;refine j5.vq H1 b (some y) (λz hz=>?_) (λz e=>by cases e;exact nC mc) (H1.jd.TF b x _ qj hb);cases hz;exact⟨.inr ⟨_,av.2 rfl⟩,mC,hg⟩
theorem QW {f:bB}{kR:List (Bool×Ty)}{rs:List Ty}{wA:pW kR->Prop}{fn:pW kR->oh rs}(ok:jg P f kR rs wA fn):xo P f (T6 wA fn):=by
 intro o n A S F s r a w b B jL ys out H hF QX _ h j4 _ hB0;unfold T6 at h;cases jL with
 |cons _ _=>cases h
 |nil=>
  obtain⟨re,hz,hl,h⟩:=ud _ _ h;obtain⟨S',hS,H'⟩:=H.freeze hz;obtain⟨xs,YG,h⟩:=A5 (T:=(· <w.heap.size)) (S':=S') (AZ H) (uL H hz hS H' hl) h;have e:=iW h;subst e;have HS:wA xs:=j4 _ (av.2 rfl);have YH:=ok H'.jd.at (ys.map (Sy.den A)) xs YG HS;rw[b9,bq];refine YH.mono λe w' ⟨v,he,hR,hB⟩=>⟨v,he,?_⟩;obtain⟨A',k1,k2,k3,k4,k5⟩:=T4 (o:=o) (S:=wX H'.jd.at w') (w:=w') (b:=b) (A:=A) (F:=F) hR hF λp hp=>hB0 p (aS _ hp);have H2:j5 o n A (wX H'.jd.at w') F s (iP r re) a w':=⟨H'.size,H'.lD,H'.env,H'.qW,H'.j7,H'.jd.call hB,H'.args,H'.zN⟩;have H3:=H2.ro k1 k3;rw[<-lS] at H3;refine⟨A',_,⟨H3.size,H3.lD,H3.env,λt e he hc=>⟨Sy.mono ?_ (H3.qW t e he hc).1,(H3.qW t e he hc).2⟩,λj x hj=>⟨?_,R2.mono ?_ (H3.j7 j x hj).2.1,(H3.j7 j x hj).2.2⟩,H3.jd,H3.args,⟨λj hj=>(H3.zN.1 j hj).imp id λ⟨z,hz⟩=>⟨z,aS _ hz⟩,H3.zN.2⟩⟩,k2.symm,Sy.mono ?_ k4,k5⟩
  all_goals first
   |(intro j hj;rcases hj with hj|⟨z,hz⟩;exact .inl hj;exact .inr ⟨z,aS _ hz⟩)
   |(rcases(H3.j7 j x hj).1 with hj|⟨z,hz⟩;exact .inl hj;exact .inr ⟨z,aS _ hz⟩)
theorem M3 {B:Nat}{T:List (kG P)}(H:j5 o n A S F s r a w)(hF:∀j,b<=j->j<B->¬F j){op:aD}{c:Call}{x:aL}{f:bB}{jL:List (Nat×Nat)}{con:kG P}{out:Out}(ho:op.op= .call c)(qw:c.callee= .value x)(hx:a.eval x=(Sc.r9 f jL).den A)(hf:con.f=f)
  (wY:((P.funcs[f]?).map (λfn=>((fn.name== "runtime.NumGoroutine")||fn.body.isNone)))=some false) {ys:List Sy} (lC:c.args.toList.map a.eval=ys.map (Sy.den A)) (QX:∀y∈ys,y.all F/\y.jW A) (wC:∀c∈jL,F c.1) (h:(con.tr b jL ys).run s r=some out) (j4:∀p∈out.cs,p) (td:∀h∈out.hs,∀A w,h.lhs A w=h.rhs A w) (hB0:∀p∈out.re,p.1<B)
  {K:Act->aa->Prop} {Q:Exit->Act->aa->Prop} (k:∀v w',mO o n F s r a out v w'->K (a.put op.dst v) w'):op.wp P a w K Q:=by
 have YH:=con.ok o n A S F s r a w b B jL ys out H hF QX wC h j4 td hB0;obtain⟨fn,Zi,hb⟩:=aZ.1 wY;simp only[anR] at hb;have Ti:fn.name≠ "runtime.NumGoroutine" :=by simpa using hb.1
 have qh:fn.body≠none:=by intro e;rw[e] at hb;cases hb.2
 have hx:a.eval x= .func (.func f) #[] (jL.map λc=>.pointer (some ⟨A.b c.1,c.2,none⟩)).toArray:=hx;have M4:c.args.map a.eval=(ys.map (Sy.den A)).toArray:=by rw[<-lC];apply cr;rw[akP]
 have e:(execOp a.eval op).run P w= .ok (.enter f (ys.map (Sy.den A)++jL.map (λc=>cC (some ⟨A.b c.1,c.2,none⟩))).toArray) w:=by
  simp[execOp,ho,resolve,qw,M4,hx,amQ,invoke,callFunc,program,cw,Zi,Ti,qh]
 unfold Oper.wp;rw[e];rw[hf] at YH;refine YH.mono λe w' ⟨v,he,hR⟩=>?_;subst he;exact k v w' hR
end
theorem nV {P:az}{kt:ax}{k:Kc}(h:uc P kt k=true):P.underlying kt=some (pq k):=by
 unfold uc at h;split at h
 .split at h
  .assumption
  cases h
 split at h
 .assumption
 cases h
theorem uM {A:ju}{k:Kc}{q:Sy}{x:jw k}(h:BT k q=some x):q.den A=nJ k x:=by
 unfold BT at h;split at h
 .cases h;rfl
 .cases h;rfl
 cases h
theorem DD (v:af):numOf (tV v)=none:=by unfold tV;split<;>rfl
theorem DE {P:az}{t:ax}{z:Sy}(h:Dr P t=some z):∀c∈iJ z,numOf c=none:=by
 unfold Dr at h;split at h
 .rename_i i _;obtain⟨v,_,rfl⟩:=aZ.1 h;intro c hc;unfold Fk at hc;split at hc
  .obtain⟨u,_,rfl⟩:=aN.1 hc;exact DD u
  have:=av.1 hc;subst this;exact DD _
 cases h
section
variable {P:az}{o:jh}{n:Nat}{A A':ju}{S S':iF}{F G:Nat->Prop}{s:Nat->Option E2}{r:Nat->Option R2}{a:Act}{w w':aa}{C:List (Nat×Bool)}{b:Nat}
theorem QY {B:Nat}(H:j5 o n A S F s r a w)(hF:∀j,b<=j->j<B->¬F j){op:aD}{t:ax}{m x:aL}{ok:Bool}{p q:Sy}{out:Out}(ho:op.op= .lookup t m x ok)(hm:a.eval m=p.den A)(hx:a.eval x=q.den A)
  (h:(F3 P b t ok p q).run s r=some out) (j4:∀p∈out.cs,p) (td:∀h∈out.hs,∀A w,h.lhs A w=h.rhs A w) (hB:∀p∈out.re,p.1<B)
  {K:Act->aa->Prop} {Q:Exit->Act->aa->Prop} (k:∀v w',mO o n F s r a out v w'->K (a.put op.dst v) w'):op.wp P a w K Q:=by
 unfold F3 at h;split at h
 .rename_i kt et hu;split at h
  .rename_i j;obtain⟨R,hR,h⟩:=iQ h;split at h
   .rename_i qf kc tn ie mm;split at h
    .rename_i kx Ub;obtain⟨hk,h⟩:=iD h;have hk:=nV hk;have hq:q.den A=nJ kc kx:=uM Ub;have hm:a.eval m= .map (A.m j):=hm;obtain⟨BV,F9,_⟩:=H.j7 j _ hR;have F9:F qf:=F9;obtain⟨lV,Uc,N⟩:∃lV,A.m j=some lV/\vF S w lV (A.f qf) none ie mm:=H.jd.ok j _ (show iZ A r j=some _ by simp[iZ,hR];rfl);have⟨zs,n1,n2,n3⟩:=N.map;have e1:iB (zs.map λq=>(q.1,q.2.1)) kx=(iB zs kx).map (·.1):=nv (λy:af×List (El tn)=>y.1) zs kx;have e2:iB mm kx=(iB zs kx).map (·.2):=by rw[n2];exact nv (λy:af×List (El tn)=>y.2) zs kx
     have e3:(iB (zs.map λq=>(q.1,q.2.1)) kx).isSome=(iB mm kx).isSome:=by rw[e1,e2];cases iB zs kx<;>rfl
     have e4:(iB (zs.map λq=>(q.1,q.2.1)) kx).getD (.slice none 0 0)=A.f qf (kY kc kx):=by
      rw[e1];cases hl:iB zs kx with
      |none=>rw[N.non kx (by rw[e2,hl];rfl) (by simp)];rfl
      |some y=>exact(n3 _ (oK hl) (by simp)).1
     have main:(qv P et (.one (.v (.slice none 0 0)))).lhs A w=(qv P et (.one (.v (.slice none 0 0)))).rhs A w->lY kc kx->(execOp a.eval op).run P w= .ok (.value (if ok then .tuple #[A.f qf (kY kc kx),.bool (iB mm kx).isSome] else A.f qf (kY kc kx))) w:=by
      intro hz hw;have hz:(zeroValue et).run P w= .ok (.slice none 0 0) w:=hz;have jU:(dR t (.map (A.m j)) (nJ kc kx) ok).run P w= .ok (if ok then .tuple #[A.f qf (kY kc kx),.bool (iB mm kx).isSome] else A.f qf (kY kc kx)) w:=by
       rw[Uc];cases ok
       .rw[n1.look hu hk hz hw,e4];rfl
       rw[n1.F3 hu hk hz hw,e3,e4];rfl
      simp only[execOp,ho,aM,hm,hx,hq,jU];rfl
     cases ok with
     |true=>
      have e:=iW h;subst e;refine jE (main (td _ (av.2 rfl) A w) (j4 _ (av.2 rfl))) (k _ _ ⟨A,S,H.agree (kD.refl _ _) λ_ q=>.inl q,rfl,λp hp c hc=>?_,λp hp c hc=>?_⟩)
      .rcases aC.1 hp with rfl|hp
       .have:=av.1 hc;subst this;exact⟨.inl BV,.inl F9⟩
       have:=av.1 hp;subst this;have:=av.1 hc;subst this;trivial
      rcases aC.1 hp with rfl|hp
      .have:=av.1 hc;subst this;trivial
      have:=av.1 hp;subst this;have:=av.1 hc;subst this;trivial
     |false=>
      have e:=iW h;subst e;exact jE (main (td _ (av.2 rfl) A w) (j4 _ (av.2 rfl))) (k _ _ ⟨A,S,H.agree (kD.refl _ _) λ_ q=>.inl q,rfl,⟨.inl BV,.inl F9⟩,tv⟩)
    cases h
   split at h
   .rename_i kc ty mm Dh;split at h
    .rename_i kx z Ub hz;obtain⟨hk,h⟩:=iD h;have hk:=nV hk;have hq:q.den A=nJ kc kx:=uM Ub;have hm:a.eval m= .map (A.m j):=hm;have hzc:=DE hz;obtain⟨x0,QZ,h⟩:∃x0:El ty,(match od R with|true=>Rd S w (z.den A) x0|false=>Rd o.old o.w (z.den A) x0)/\_:=by
      cases od R with
      |true=>exact oA (T:=S) (w:=w) (λc hc j hj=>by rw[hzc c hc] at hj;cases hj) h
      |false=>exact oA (T:=o.old) (w:=o.w) (λc hc j hj=>by rw[hzc c hc] at hj;cases hj) h
     have main:(qv P et z).lhs A w=(qv P et z).rhs A w->lY kc kx->∃v,(dR t (.map (A.m j)) (nJ kc kx) ok).run P w= .ok (if ok then .tuple #[v,.bool (iB mm kx).isSome] else v) w/\
       (match od R with|true=>Rd S w v ((iB mm kx).getD x0)|false=>Rd o.old o.w v ((iB mm kx).getD x0)):=by
      intro hz hw;have hz:(zeroValue et).run P w= .ok (z.den A) w:=hz;rcases Ka H hR Dh with⟨h1,h2⟩|⟨lV,zs,h1,h2,h3,h4⟩
      .subst h2;refine⟨z.den A,?_,?_⟩
       .rw[h1,Maps.look_nil ok (vB hk) hu hz (vC hk hw)];rfl
       exact QZ
      have e1:iB (zs.map λq=>(q.1,q.2.1)) kx=(iB zs kx).map (·.1):=nv (λy:af×El ty=>y.1) zs kx;have e2:iB mm kx=(iB zs kx).map (·.2):=by rw[h3];exact nv (λy:af×El ty=>y.2) zs kx
      have e3:(iB (zs.map λq=>(q.1,q.2.1)) kx).isSome=(iB mm kx).isSome:=by rw[e1,e2];cases iB zs kx<;>rfl
      refine⟨(iB (zs.map λq=>(q.1,q.2.1)) kx).getD (z.den A),?_,?_⟩
      .rw[h1];cases ok
       .exact h2.look hu hk hz hw
       rw[h2.F3 hu hk hz hw,e3];rfl
      rw[e1,e2];cases hl:iB zs kx with
      |none=>exact QZ
      |some y=>exact h4 _ (oK hl)
     have fin:∀(sy:Sy),(∀v (A':ju),v=(if kI ty then .agg ((ji (od R) b (je ty ((iB mm kx).getD x0))).1.map (Sc.den A')).toArray else((ji (od R) b (je ty ((iB mm kx).getD x0))).1.map (Sc.den A')).headD undef)->(if ok then akH #[v,.bool (iB mm kx).isSome] else v)=sy.den A')->
       (∀(G:Nat->Prop) (A':ju),(∀c∈(ji (od R) b (je ty ((iB mm kx).getD x0))).1,c.all G/\c.jW A')->sy.all G/\sy.jW A')->
       out=⟨[lY kc kx],[qv P et z],sy,(ji (od R) b (je ty ((iB mm kx).getD x0))).2⟩->op.wp P a w K Q:=by
      intro sy zG mC e;subst e;obtain⟨v,jU,nI⟩:=main (td _ (av.2 rfl) A w) (j4 _ (av.2 rfl));obtain⟨vs,MH,hv⟩:∃vs,CE o S w (od R) vs (je ty ((iB mm kx).getD x0))/\v=(if kI ty then .agg vs.toArray else vs.headD undef):=by
       cases Zj:od R with
       |true=>rw[Zj] at nI;exact rR nI
       |false=>rw[Zj] at nI;exact rR nI
      obtain⟨A',k1,k2,k3,k4⟩:=nA _ vs b A F MH hF hB;have e2:(execOp a.eval op).run P w= .ok (.value (if ok then .tuple #[v,.bool (iB mm kx).isSome] else v)) w:=by
       simp only[execOp,ho,aM,hm,hx,hq,jU];rfl
      refine jE e2 (k _ _ ⟨A',S,H.ro k1 k3,zG v A' ?_,(mC _ _ k4).1,(mC _ _ k4).2⟩);rw[k2];exact hv
     cases ok with
     |true=>
      have e:=iW h;refine fin (.tQ [(kI ty,(ji (od R) b (je ty ((iB mm kx).getD x0))).1),(false,[.b (.raw (iB mm kx).isSome)])]) (λv A' hv=>?_) (λG A' hc=>⟨λp hp c wq=>?_,λp hp c wq=>?_⟩) e
      .show akH #[v,_]= .tuple #[m6 A' (kI ty,_),_];rw[hv];rfl
      .rcases aC.1 hp with rfl|hp
       .exact(hc c wq).1
       have:=av.1 hp;subst this;have:=av.1 wq;subst this;trivial
      rcases aC.1 hp with rfl|hp
      .exact(hc c wq).2
      have:=av.1 hp;subst this;have:=av.1 wq;subst this;trivial
     |false=>
      dsimp only at h;split at h
      .rename_i cs hp;have e:=iW h;refine fin (.agg (ji (od R) b (je ty ((iB mm kx).getD x0))).1) (λv A' hv=>?_) (λG A' hc=>⟨λc wq=>(hc c wq).1,λc wq=>(hc c wq).2⟩) e;show v=_;rw[hv,ak hp];rfl
      .rename_i c hp DF;have e:=iW h;refine fin (.one c) (λv A' hv=>?_) (λG A' hc=>hc c (by rw[DF];exact av.2 rfl)) e;show v=_;rw[hv,ah (by rw[hp];decide),DF];rfl
      cases h
    cases h
   cases h
  cases h
 cases h
theorem Q0 (H:j5 o n A S F s r a w){op:aD}{c:Call}{t:ax}{x:aL}{p:Sy}{out:Out}(ho:op.op= .call c)(qw:c.callee= .builtin .len)(lC:c.args.toList=[x])(C7:c.argTypes.toList=[t])(hx:a.eval x=p.den A)
  (h:(Ua P t p).run s r=some out) {K:Act->aa->Prop} {Q:Exit->Act->aa->Prop} (k:∀v w',mO o n F s r a out v w'->K (a.put op.dst v) w'):op.wp P a w K Q:=by
 have ha:c.args= #[x]:=by apply cr;exact lC
 have hb:c.argTypes= #[t]:=by apply cr;exact C7
 unfold Ua at h;split at h
 .rename_i kt et j hu;obtain⟨R,hR,h⟩:=iQ h;split at h
  .rename_i kc ty mm Dh;obtain⟨hk,h⟩:=iD h;have hk:=nV hk;have e:=jv h;subst e;have hx:a.eval x= .map (A.m j):=hx;have jU:(alp #[t] op.type #[.map (A.m j)]).run P w= .ok (.int .i64 ((show List (jw kc×El ty) from mm).length:Int)) w:=by
    rcases Ka H hR Dh with⟨h1,h2⟩|⟨lV,zs,h1,h2,h3,h4⟩
    .subst h2;rw[h1];exact Maps.len_nil hu op.type
    have:=h2.len hu hk op.type;rw[h1,this,h3];simp only[aV]
   have e2:(execOp a.eval op).run P w= .ok (.value (.int .i64 ((show List (jw kc×El ty) from mm).length:Int))) w:=by
    unfold execOp;simp only[ho,resolve,qw,ha,hb,invoke,builtin,aM,bF,bY,alv,bn,b9,hx,jU]
   exact jE e2 (k _ _ ⟨A,S,H.agree (kD.refl _ _) λ_ q=>.inl q,rfl,tv,tv⟩)
  cases h
 cases h
theorem j5.adx (H:j5 o n A S F s r a w)(hF:¬F b){kc:Kc}{ty:Ty}{kt:ax}(hk:P.underlying kt=some (pq kc)):
  j5 o n (A.iP b (some w.heap.size)) S (FU F [(b,some (.map kc ty ([]:List (jw kc×El ty))))]) s (iP r [(b,some (.map kc ty ([]:List (jw kc×El ty))))]) a (w.alloc (.map #[] 0)):=by
 have H1:=H.agree (kD.iP (A:=A) hF (some w.heap.size)) (G:=FU F [(b,some (.map kc ty ([]:List (jw kc×El ty))))]) λj h=>.inl h;refine j5.vq H1 b _ (λz hz=>?_) (λz e=>by cases e;trivial) (H1.jd.TF b _ _ ⟨w.heap.size,by rw[ju.Dp],[],lE.new w hk,rfl,λ_ q=>by cases q⟩ λq hq=>?_)
 .cases hz;exact⟨.inr ⟨_,av.2 rfl⟩,tv,tv⟩
 have hq:(A.iP b (some w.heap.size)).m b=some q:=hq;rw[ju.Dp] at hq;cases hq;rfl
theorem M5 {B:Nat}(H:j5 o n A S F s r a w)(hF:∀j,b<=j->j<B->¬F j){op:aD}{t:ax}{x:Option aL}{out:Out}(ho:op.op= .makeMap t x)(hx:∀y,x=some y->∃k m,a.eval y= .int k m)
  (h:(DC P b t).run s r=some out) (hB:∀p∈out.re,p.1<B) {K:Act->aa->Prop} {Q:Exit->Act->aa->Prop} (k:∀v w',mO o n F s r a out v w'->K (a.put op.dst v) w'):op.wp P a w K Q:=by
 unfold DC at h;split at h
 .rename_i kt et kc ty hu hc;obtain⟨hk,h⟩:=iD h;have hk:=nV hk;have e:=iW h;subst e;have e2:(execOp a.eval op).run P w= .ok (.value (.map (some w.heap.size))) (w.alloc (.map #[] 0)):=by
   cases x with
   |none=>
    simp only[execOp,ho,aM,dz,run_makeMap];rfl
   |some y=>
    obtain⟨ik,m,hy⟩:=hx y rfl;simp[execOp,ho,aM,ck,hy,Instr.makeMap,run_underlying hu,asInt,asIntOf,newObj,bR,cw,bF]
  have H2:=H.adx (hF b (ay _) (hB _ (av.2 rfl))) (ty:=ty) hk;refine jE e2 (k _ _ ⟨_,S,H2,?_,.inr ⟨_,av.2 rfl⟩,tv⟩);show _=Value.map ((A.iP b (some w.heap.size)).m b);rw[ju.Dp]
 cases h
theorem j5.ack (H:j5 o n A S F s r a w){j:Nat}{kc:Kc}{ty:Ty}{m m':iI kc (El ty)}(hj:r j=some (.map kc ty m)){lV:Nat}(hb:A.m j=some lV)(hG:w.grownBy w' (some lV))(hm:p9 S w' lV m'):
  j5 o n A S F s (qJ r j (some (.map kc ty m'))) a w':=by
 have oL:iZ A r j=some (yC (A.m j) m):=by show(r j).map _=_;rw[hj];rfl
 have hg:pU w w' (yC (A.m j) m).has:=⟨hG.os,hG.tape,hG.output,hG.size,λk hk hn=>hG.block k hk λe=>hn (by show A.m j=some k;rw[hb,<-e])⟩;have hf1:=H.jd.mut j oL hg;have ko:=H.jd.own j _ lV oL hb;have hf2:=hf1.put j (yC (A.m j) m') ⟨lV,hb,hm⟩ (λb' qh=>by
  have qh:A.m j=some b':=qh;rw[hb] at qh;cases qh;refine⟨ko.1,bf ko.2.1 hG.size,ko.2.2,λi ri hi Ol e=>?_⟩;unfold ni at Ol;rw[ah hi] at Ol;exact hi (H.jd.apart i j ri _ lV Ol oL e hb))
 have Kh:ni (ni (iZ A r) j none) j (some (yC (A.m j) m'))=ni (iZ A r) j (some (yC (A.m j) m')):=by
  funext i;unfold ni;split<;>rfl
 rw[Kh] at hf2;exact j5.vq H j (some (.map kc ty m')) (λz xj=>by cases xj;exact⟨(H.j7 j _ hj).1,tv,tv⟩) (λz e=>by cases e;trivial) hf2
theorem Q1 (H:j5 o n A S F s r a w){op:aD}{t:ax}{m x y:aL}{p q z:Sy}{out:Out}(ho:op.op= .mapUpdate t m x y\/op.op= .insert t m x y)(nU:True)(hm:a.eval m=p.den A)(hx:a.eval x=q.den A)(hy:a.eval y=z.den A)
  (h:(Fj P t p q z).run s r=some out) (j4:∀p∈out.cs,p) {K:Act->aa->Prop} {Q:Exit->Act->aa->Prop} (k:∀v w',mO o n F s r a out v w'->K (a.put op.dst v) w'):op.wp P a w K Q:=by
 unfold Fj at h;split at h
 .rename_i kt et j hu;obtain⟨R,hR,h⟩:=iQ h;split at h
  .rename_i kc ty mm;split at h
   .rename_i kx Ub;obtain⟨hk,h⟩:=iD h;have hk:=nV hk;obtain⟨re,hz,hl,h⟩:=ud _ _ h;obtain⟨S',hS,H'⟩:=H.freeze hz;obtain⟨Fl,h⟩:=iD h;obtain⟨d,hd,h⟩:=oA (uL H hz hS H' hl) h;have e:=iW h;subst e;have hq:q.den A=nJ kc kx:=uM Ub;have hm:a.eval m= .map (A.m j):=hm;have hw:lY kc kx:=j4 _ aA;have hlen:(show List (jw kc×El ty) from mm).length<=2147483647:=j4 _ (aE _ aA);have Y7:iP r re j=some (.map kc ty mm):=by
     have key:∀l:List (Nat×Option R2),(l.all λp=>!Nat.beq p.1 j)=true->iP r l j=r j:=by
      intro l
      induction l with
      |nil=>intro _;rfl
      |cons p l ih=>
       intro hl;rw[List.all_cons,aQ] at hl;have mc:p.1≠j:=λe=>by have:=hl.1;rw[e,dD] at this;cases this
       show qJ (iP r l) p.1 p.2 j=_;rw[lF mc];exact ih hl.2
     rw[key re Fl];exact hR
    have oL:iZ A (iP r re) j=some (yC (A.m j) mm):=by show(iP r re j).map _=_;rw[Y7];rfl
    obtain⟨lV,hb,zs,h2,h3,h4⟩:=H'.jd.ok j _ oL;obtain⟨w',jU,Jz,hG,_⟩:=h2.put hu hk (by rw[aV];rw[h3] at hlen;simpa using hlen) hw (z.den A);have DG:(execOp a.eval op).run P w= .ok .skip w':=by
     rcases ho with ho|ho<;>(simp only[execOp,ho,aM,hm,hx,hy,hq,hb,jU];rfl)
    unfold Oper.wp;rw[DG];refine k undef _ ?_;have wo:kN S' w w':=λq hq=>hG.block q (H'.jd.nO q hq) λe=>by cases e;exact(H'.jd.own j _ lV oL hb).2.2 hq
    have H2:=H'.ack Y7 hb hG (m':=mj mm kx d) ⟨mj zs kx (z.den A,d),by rw[rN (λy:af×El ty=>y.1)];exact Jz,by rw[rN (λy:af×El ty=>y.2),h3],λy hy=>by
     rcases wZ.1 hy with rfl|⟨hy,_⟩
     .exact hd.keep wo
     exact(h4 y hy).keep wo⟩
    exact⟨A,S',H2.agree (kD.refl _ _) λ_ q=>.inl q,rfl,tv,tv⟩
   cases h
  cases h
 cases h
theorem M6 (H:j5 o n A S F s r a w){op:aD}{c:Call}{t JA:ax}{x y:aL}{p q:Sy}{out:Out}(ho:op.op= .call c)(qw:c.callee= .builtin .delete)(lC:c.args.toList=[x,y])(C7:c.argTypes.toList=[t,JA])
  (hx:a.eval x=p.den A) (hy:a.eval y=q.den A) (h:(T9 P t JA p q).run s r=some out) (j4:∀p∈out.cs,p) {K:Act->aa->Prop} {Q:Exit->Act->aa->Prop} (k:∀v w',mO o n F s r a out v w'->K (a.put op.dst v) w'):op.wp P a w K Q:=by
 have ha:c.args= #[x,y]:=by apply cr;exact lC
 have hb0:c.argTypes= #[t,JA]:=by apply cr;exact C7
 unfold T9 at h;split at h
 .rename_i kt et j hu;obtain⟨R,hR,h⟩:=iQ h;split at h
  .rename_i kc ty mm;split at h
   .rename_i kx Ub;obtain⟨hg,h2⟩:=iD h;clear h;rw[aQ] at hg;have hk:=nV hg.1;have hkt:=jx hg.2;subst hkt;have e:=iW h2;subst e;have hq:q.den A=nJ kc kx:=uM Ub;have hx:a.eval x= .map (A.m j):=hx;have hw:lY kc kx:=j4 _ aA;have oL:iZ A r j=some (yC (A.m j) mm):=by show(r j).map _=_;rw[hR];rfl
    obtain⟨lV,hb,zs,h6,h3,h4⟩:=H.jd.ok j _ oL;obtain⟨w',jU,Jz,hG⟩:=h6.drop hu hk hw op.type;have e2:(execOp a.eval op).run P w= .ok (.value (.tuple #[])) w':=by
     unfold execOp;simp only[ho,resolve,qw,ha,hb0,invoke,builtin,aM,bF,bY,alv,bn,b9,hx,hy,hq,hb,jU]
    have wo:kN S w w':=λq hq=>hG.block q (H.jd.nO q hq) λe=>by cases e;exact(H.jd.own j _ lV oL hb).2.2 hq
    have H2:=H.ack hR hb hG (m':=ox mm kx) ⟨ox zs kx,by rw[Dj (λy:af×El ty=>y.1)];exact Jz,by rw[Dj (λy:af×El ty=>y.2),h3],λy hy=>(h4 y (cB.1 hy).1).keep wo⟩;exact jE e2 (k _ _ ⟨A,S,H2.agree (kD.refl _ _) λ_ q=>.inl q,rfl,(λ_ q=>by cases q),(λ_ q=>by cases q)⟩)
   cases h
  cases h
 cases h
end
end Go.Proofs.YtnfdimfepbbbpaaGreatDoor
