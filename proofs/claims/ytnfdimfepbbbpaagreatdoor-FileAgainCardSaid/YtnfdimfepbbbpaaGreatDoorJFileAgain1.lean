/- Texts joined by program: lemmas. -/
import Derived.WalkKit
import Derived.WalkSpells
import Derived.WalkLawsBesides
import Derived.Lib.Hide
import Derived.Lib.OthersKept
import Derived.Deep.Quiet
import Derived.KernelRfl
import Derived.Test.YtnfdimfepbbbpaaGreatDoorRows
import Derived.ProofKit
import Derived.OrdersHeld
import Derived.Deep.Slices
import Derived.Carry
import Derived.Maps.Own
import Derived.Maps.OwnSet
import Derived.Maps.Views
import Derived.Lib.SlKeysI
import Derived.Maps.RangeWalk
import Derived.Laws.StructEq
import Derived.ChangeKeysEq
import Derived.Deep.AppendSrc
import Derived.Laws.MakeOwn
import Derived.Laws.Slices
set_option linter.unusedSimpArgs false
set_option linter.unusedVariables false
set_option maxRecDepth 100000
set_option maxHeartbeats 8000000
open Array renaming ext'->cJ,getD_eq_getD_getElem?->cP,getElem?_eq_getElem->anO,getElem?_eq_some_iff->di,getElem?_setIfInBounds->anP,getElem?_toList->anV,length_toList->cU,size_append->aqs,toList_append->an9,toList_map->dZ,toList_modify->apm
open Bool renaming true->aC,false->aD,and_eq_true->bB,eq_false_iff->aqM,false_eq_true->aom,or_eq_false_iff->apg
open Classical renaming byContradiction->dg
open Decidable renaming decide->aE
open Go renaming execOp->aG,run_underlying->aH,Calls->aI,bodyPost->aJ,cell_of_row->aK,undef->aL,World->aN,Value->aO,TypeId->aV,Program->aY,Operand->bu,Oper->bf,Addr->ck,IntKind->dX,Ending->bY,FuncId->bI
open Go.Act renaming eval->dH,put->eu
open Go.Addr renaming add_lit->anW
open Go.Builtin renaming append_->anz,len_->aol,max_->ao9,min_->apa,zeroCells->aqZ
open Go.ChangeMaps renaming setBlock->dF
open Go.DataW renaming TrodAll->aqJ,held->anQ,insert->apO
open Go.DataW.held renaming injEq->apl
open Go.DataW.map renaming inj->ar0
open Go.Deferred renaming ofValue->aoK
open Go.Instr renaming build->ao8,buildSlice->aqI,entry->aoN,entryStore->aqT,field->aqB,loadAt->aoj,lookup->eR,mapEntry->apR,mapUpdate->anS,next->aoP,range->aoO,slice->aoo,sliceAt->cX,sliceBound->apM,sliceBounds->aop,storeAt->api,sureAddr->aoI
open Go.IntKind renaming bits->aqw,i64->aqV,max->ao7,min->apN,signed->aqv
open Go.Lib renaming iterAt_other->aqu,iterAt_size->aqt
open Go.Lit renaming int->aoM,string->aqL
open Go.Lit.string renaming inj->arZ
open Go.MapEntry renaming born->ar1
open Go.MapKept renaming run_getObj_map->anU,run_setObj_map->aor
open Go.Maps renaming has->aqQ,size->dO
open Go.Op renaming eqFields->apW,equal->aoi,intBits->aqU,maxDepth->anX
open Go.Oper renaming quietUpon->dM,upon_value->aob
open Go.Program renaming cellsOf->aoH
open Go.Proofs.Tryz renaming prog->aR
open Go.Region renaming wanted->dh
open Go.Result renaming andThen->cy,andThen_ok->cG
open Go.Sem renaming run->cM,run_bind->bw,run_pure->bZ
open Go.Utf8 renaming decode->bn
open Go.Value renaming bool->anT,int->cj,ownBlock->aoa,pointer->cO,tuple->anD
open Go.World renaming ownsRow_nil->ao5
open List renaming length->aM,Nodup->apI,all_eq_true->bG,append_assoc->cx,append_nil->bW,cons_append->eC,drop_drop->apf,drop_of_length_le->an8,drop_take->apT,drop_zero->aoh,eq_nil_of_length_eq_zero->cH,ext_getElem?->aow,filter_map->aqN,find?_cons->apk,find?_map->aqP,find?_some->apb,getD_eq_getElem?_getD->bD,getElem?_drop->cI,getElem?_eq_getElem->bN,getElem?_eq_some_iff->cF,getElem?_map->cY,getElem?_take->cE,getElem?_toArray->anA,getElem_mem->dY,getElem_of_mem->anL,getElem_set->ao6,length_append->bA,length_drop->b9,length_filter_le->apj,length_map->bH,length_replicate->anY,length_set->cq,length_take->bJ,mapM_cons->aqy,map_congr_left->dm,map_cons->bO,map_drop->aov,map_nil->cC,map_take->aoR,map_toArray->aoq,mem_append->bE,mem_append_left->bU,mem_append_right->bV,mem_cons->bg,mem_cons_of_mem->bl,mem_cons_self->aZ,mem_filter->bX,mem_iff_getElem?->anw,mem_map->bz,mem_of_find?_eq_some->aqC,mem_of_getElem?->cn,mem_of_mem_drop->anB,mem_of_mem_eraseIdx->aqG,mem_of_mem_take->dQ,mem_singleton->aU,nil_append->dK,pairwise_filterMap->aqq,pairwise_iff_getElem->anx,size_toArray->dL,take_append_drop->eW,take_left->apJ,take_length->cg,take_take->apU
open List.Perm renaming refl->aqS,swap->aqH
open List.cons renaming inj->eZ
open Nat renaming add_assoc->dz,add_mul->cB,add_zero->eH,beq->bp,beq_refl->dR,ble->eL,blt->bP,blt_eq->cw,eq_of_beq_eq_true->aou,le_refl->aW,le_trans->bC,lt_irrefl->anN,lt_of_lt_of_le->bR,min_eq_left->eX,mul_le_mul_right->cm,sub_mul->apn,succ_mul->cL,zero_add->cZ,zero_le->bQ,zero_mul->dG
open Option renaming some->az,none->aA,bind_eq_bind->aqz,bind_eq_some_iff->aok,getD_some->eV,isSome_iff_exists->bS,map->aqR,map_eq_none_iff->aoJ,map_eq_some_iff->bF,map_none->dN,map_some->cN,not_isNone->aqW,pure_def->aqA
open Option.some renaming inj->b5,injEq->cr
open Prod.mk renaming injEq->cW
open _root_ renaming List->aa,Int->af,Nat->ah,Option->ai,ByteArray->aj,Bool->ak,Array->aq,True->av
open Go.Proofs.Tryz
namespace Go.Proofs
theorem aQ.{u}{c:Prop}{d:Decidable c}(h:c){α:Sort u}{t e:α}:ite c t e=t:=if_pos h
theorem aP.{u}{c:Prop}{d:Decidable c}(h:¬c){α:Sort u}{t e:α}:ite c t e=e:=if_neg h
theorem bq{p:Prop}[d:Decidable p](h:decide p=true):p:=of_decide_eq_true h
theorem bL{p:Prop}[d:Decidable p](h:decide p=false):¬p:=of_decide_eq_false h
theorem cT{p:Prop}[d:Decidable p](h:p):decide p=true:=decide_eq_true h
theorem cV{p:Prop}[d:Decidable p](h:¬p):decide p=false:=decide_eq_false h
theorem bh.{u,v}{α:Sort u}{β:Sort v}{a b:α}(f:α->β)(h:a=b):f a=f b:=congrArg f h
abbrev fe:ByteArray×Int×Int×Int:=(⟨#[]⟩,(0,(0,0)))
abbrev ff:ByteArray:=⟨#[32]⟩
abbrev fh:ByteArray:=⟨#[114,101,103,105,111,110]⟩
abbrev fk:ByteArray:=⟨#[97,114,111,117,110,100]⟩
abbrev fm:ByteArray:=⟨#[104,111,108,100]⟩
abbrev fo:ByteArray:=⟨#[102,105,114,115,116]⟩
abbrev fq:ByteArray:=⟨#[115,101,99,111,110,100]⟩
abbrev ar8:ByteArray:=⟨#[118,101,114,116,101,120]⟩
abbrev fu:ByteArray:=⟨#[10]⟩
abbrev ar9:ByteArray:=⟨#[101,100,103,101]⟩
abbrev asa:ByteArray:=⟨#[99,97,115,101,10,118,101,114,116,101,120,32,97,10]⟩
abbrev fy:ByteArray:=⟨#[45]⟩
abbrev asb:ByteArray:=⟨#[112,97,105,114]⟩
abbrev asd:ByteArray:=⟨#[99,97,115,101]⟩
abbrev fB:ByteArray:=⟨#[43]⟩
abbrev ase:ByteArray:=⟨#[43,45]⟩
end Go.Proofs
namespace Go.Proofs.YtnfdimfepbbbpaaGreatDoor
open Go.RowKit
abbrev iv (x : af) : aO := .int .i64 x
abbrev pv (b : ah) : aO := .pointer (az ⟨b, 0, aA⟩)
abbrev TT : Prop := av
theorem tv : av := trivial
abbrev jv:=ah->Prop
def nC (S:jv)(w w':aN):Prop:=∀k,S k->w'.heap[k]?=w.heap[k]?
theorem nC.refl (S:jv)(w:aN):nC S w w:=λ_ _=>rfl
class Data (α:Type) where
 size:ah
 isAgg:ak
 rd:jv->aN->aa aO->α->Prop
 len:∀ {S w cs a},rd S w cs a->cs.length=size
 up:∀ {S S':jv} {w cs a},(∀k,S k->S' k)->rd S w cs a->rd S' w cs a
 keep:∀ {S w w' cs a},nC S w w'->rd S w cs a->rd S w' cs a
 one:∀ {S w cs a},rd S w cs a->∀u∈cs,u.oneCell'=aC
instance:Data af where
 size:=1
 isAgg:=aD
 rd _ _ cs n:=cs=[.int .i64 n]
 len h:=by rw[h];rfl
 up _ h:=h
 keep _ h:=h
 one h u hu:=by rw[h] at hu;simp at hu;subst hu;rfl
instance:Data ak where
 size:=1
 isAgg:=aD
 rd _ _ cs b:=cs=[.bool b]
 len h:=by rw[h];rfl
 up _ h:=h
 keep _ h:=h
 one h u hu:=by rw[h] at hu;simp at hu;subst hu;rfl
instance:Data aj where
 size:=1
 isAgg:=aD
 rd _ _ cs s:=cs=[.string s]
 len h:=by rw[h];rfl
 up _ h:=h
 keep _ h:=h
 one h u hu:=by rw[h] at hu;simp at hu;subst hu;rfl
instance {α β:Type} [Data α] [Data β]:Data (α×β) where
 size:=Data.size α+Data.size β
 isAgg:=aC
 rd S w cs x:=∃c1 c2,cs=c1++c2/\Data.rd S w c1 x.1/\Data.rd S w c2 x.2
 len:=by rintro S w cs a ⟨c1,c2,rfl,h1,h2⟩;rw[bA,Data.len h1,Data.len h2]
 up:=by rintro S S' w cs a hs ⟨c1,c2,rfl,h1,h2⟩;exact⟨c1,c2,rfl,Data.up hs h1,Data.up hs h2⟩
 keep:=by rintro S w w' cs a hk ⟨c1,c2,rfl,h1,h2⟩;exact⟨c1,c2,rfl,Data.keep hk h1,Data.keep hk h2⟩
 one:=by
  rintro S w cs a ⟨c1,c2,rfl,h1,h2⟩ u hu;rcases bE.1 hu with hu|hu
  .exact Data.one h1 u hu
  exact Data.one h2 u hu
def xx {α:Type}[Data α](S:jv)(w:aN)(cur:aq aO)(off:ah)(l:aa α):Prop:=
 ∀i (h:i<l.length),∃cs,Data.rd S w cs l[i]/\∀j,j<Data.size α->cur[off+i*Data.size α+j]?=cs[j]?
def ux {α:Type}[Data α](S:jv)(w:aN)(v:aO)(l:aa α):Prop:=
 ∃p c,v= .slice p l.length c/\l.length<=c/\c<=maxLen/\
  (l=[]\/∃g off cur t fz,p=az ⟨g,off,aA⟩/\S g/\w.heap[g]?=az (.cells cur t fz)/\xx S w cur off l)
theorem xx.up {α:Type}[Data α]{S S':jv}{w:aN}{cur:aq aO}{off:ah}{l:aa α}(hs:∀k,S k->S' k)(h:xx S w cur off l):xx S' w cur off l:=
 λi hi=>let⟨cs,h1,h2⟩:=h i hi;⟨cs,Data.up hs h1,h2⟩
theorem xx.keep {α:Type}[Data α]{S:jv}{w w':aN}{cur:aq aO}{off:ah}{l:aa α}(hk:nC S w w')(h:xx S w cur off l):xx S w' cur off l:=
 λi hi=>let⟨cs,h1,h2⟩:=h i hi;⟨cs,Data.keep hk h1,h2⟩
instance {α:Type} [Data α]:Data (aa α) where
 size:=1
 isAgg:=aD
 rd S w cs l:=∃v,cs=[v]/\ux S w v l
 len:=by rintro S w cs l ⟨v,rfl,_⟩;rfl
 up:=by
  rintro S S' w cs l hs ⟨v,rfl,p,c,rfl,h1,h2,h3⟩;refine⟨_,rfl,p,c,rfl,h1,h2,?_⟩;rcases h3 with h3|⟨g,off,cur,t,fz,rfl,hg,hw,hc⟩
  .exact .inl h3
  exact .inr ⟨g,off,cur,t,fz,rfl,hs _ hg,hw,hc.up hs⟩
 keep:=by
  rintro S w w' cs l hk ⟨v,rfl,p,c,rfl,h1,h2,h3⟩;refine⟨_,rfl,p,c,rfl,h1,h2,?_⟩;rcases h3 with h3|⟨g,off,cur,t,fz,rfl,hg,hw,hc⟩
  .exact .inl h3
  exact .inr ⟨g,off,cur,t,fz,rfl,hg,(hk g hg).trans hw,hc.keep hk⟩
 one:=by
  rintro S w cs l ⟨v,rfl,p,c,rfl,_⟩ u hu;simp at hu;subst hu;rfl
def Rd {α:Type}[Data α](S:jv)(w:aN)(v:aO)(a:α):Prop:=∃cs,Data.rd S w cs a/\v=if Data.isAgg α then .agg cs.toArray else cs.headD aL
theorem Rd.up {α:Type}[Data α]{S S':jv}{w:aN}{v:aO}{a:α}(hs:∀k,S k->S' k)(h:Rd S w v a):Rd S' w v a:=let⟨cs,h1,h2⟩:=h;⟨cs,Data.up hs h1,h2⟩
theorem Rd.keep {α:Type}[Data α]{S:jv}{w w':aN}{v:aO}{a:α}(hk:nC S w w')(h:Rd S w v a):Rd S w' v a:=let⟨cs,h1,h2⟩:=h;⟨cs,Data.keep hk h1,h2⟩
theorem lz {α:Type}[Data α]{S:jv}{w:aN}{v:aO}{l:aa α}(h:Rd S w v l):ux S w v l:=by
 obtain⟨cs,⟨v',rfl,hs⟩,rfl⟩:=h;exact hs
theorem tF {α:Type}[Data α]{S:jv}{w:aN}{v:aO}{l:aa α}(h:ux S w v l):Rd S w v l:=⟨[v],⟨v,rfl,h⟩,rfl⟩
theorem qA {α:Type}[Data α]{S:jv}{w:aN}{v:aO}{l:aa α}(h:ux S w v l):∃p c,v= .slice p l.length c/\l.length<=c/\c<=maxLen:=
 let⟨p,c,h1,h2,h3,_⟩:=h;⟨p,c,h1,h2,h3⟩
def kR {α:Type}[Data α](S:jv)(w:aN)(xs:aa aO)(l:aa α):Prop:=
 xs.length=l.length*Data.size α/\∀i (h:i<l.length),Data.rd S w ((xs.drop (i*Data.size α)).take (Data.size α)) l[i]
theorem kR.nil {α:Type}[Data α](S:jv)(w:aN):kR S w [] ([]:aa α):=⟨by simp,λi h=>by simp at h⟩
theorem kR.up {α:Type}[Data α]{S S':jv}{w:aN}{xs:aa aO}{l:aa α}(hs:∀k,S k->S' k)(h:kR S w xs l):kR S' w xs l:=
 ⟨h.1,λi hi=>Data.up hs (h.2 i hi)⟩
theorem kR.keep {α:Type}[Data α]{S:jv}{w w':aN}{xs:aa aO}{l:aa α}(hk:nC S w w')(h:kR S w xs l):kR S w' xs l:=
 ⟨h.1,λi hi=>Data.keep hk (h.2 i hi)⟩
theorem kR.append {α:Type}[Data α]{S:jv}{w:aN}{xs ys:aa aO}{l m:aa α}(h:kR S w xs l)(k:kR S w ys m):kR S w (xs++ys) (l++m):=by
 refine⟨by rw[bA,bA,h.1,k.1,cB],λi hi=>?_⟩
 by_cases hl:i<l.length
 .rw[List.getElem_append_left hl];have h1:i*Data.size α+Data.size α<=xs.length:=by rw[h.1,<-cL];exact cm _ hl
  rw[List.drop_append_of_le_length (by omega),List.take_append_of_le_length (by rw[b9];omega)];exact h.2 i hl
 rw[bA] at hi;rw[List.getElem_append_right (by omega)];have e:i*Data.size α=xs.length+(i-l.length)*Data.size α:=by rw[h.1,<-cB];congr 1;omega
 rw[e,List.drop_append];rw[an8 (by omega),dK];rw[show xs.length+(i-l.length)*Data.size α-xs.length=(i-l.length)*Data.size α by omega];exact k.2 (i-l.length) (by omega)
theorem kR.single {α:Type}[Data α]{S:jv}{w:aN}{cs:aa aO}{a:α}(h:Data.rd S w cs a):kR S w cs [a]:=by
 refine⟨by rw[Data.len h];simp,λi hi=>?_⟩;have:i=0:=by simp at hi;exact hi
 subst this;have e:(cs.drop (0*Data.size α)).take (Data.size α)=cs:=by rw[dG,aoh,<-Data.len h];exact cg
 rw[e];exact h
theorem kR.one {α:Type}[Data α]{S:jv}{w:aN}{xs:aa aO}{l:aa α}(h:kR S w xs l):∀u∈xs,u.oneCell'=aC:=by
 intro u hu
 by_cases hz:Data.size α=0
 .have:xs=[]:=cH (by rw[h.1,hz];simp);subst this;simp at hu
 obtain⟨j,hj,rfl⟩:=anL hu;have abA:0<Data.size α:=by omega
 have hi:j/Data.size α<l.length:=by rw[Nat.div_lt_iff_lt_mul abA,<-h.1];exact hj
 refine Data.one (h.2 _ hi) _ ?_;have hm:=Nat.mod_lt j abA;have hd:=Nat.div_add_mod j (Data.size α);rw[Nat.mul_comm] at hd;refine anw.2 ⟨j%Data.size α,?_⟩;rw[cE,aQ hm,cI,hd,bN hj]
def Own {α:Type}[Data α](S:jv)(w:aN)(e:aV)(v:aO)(l:aa α):Prop:=
 ∃xs,w.ownsRow 0 e (Data.size α) v l.length xs/\kR S w xs l
inductive sD:Type 1 where
 |iter (b:ah) (s:aj) (pos:ah)
 |row {α:Type} [Data α] (e:aV) (v:aO) (l:aa α)
 |box (b:ah) (t:aV) (vs:aa aO)
 |ro {α:Type} [Data α] (v:aO) (a:α)
 |obj {α:Type} [Data α] (b:ah) (I:Obj->Prop) (JD:aa (aO×α))
def sD.block:sD->ai ah
 | .iter b _ _=>az b
 | @sD.row _ _ _ v _=>v.ownBlock
 | .box b _ _=>az b
 | @sD.ro _ _ _ _=>aA
 | @sD.obj _ _ b _ _=>az b
def sD.ok (S:jv)(w:aN):sD->Prop
 | .iter b s pos=>w.heap[b]?=az (.stringIter s pos)
 | @sD.row _ _ e v l=>Own S w e v l
 | .box b t vs=>w.heap[b]?=az (.cells vs.toArray t (0,0))
 | @sD.ro _ _ v a=>Rd S w v a
 | @sD.obj _ _ b I JD=>(∃x,w.heap[b]?=az x/\I x)/\∀q∈JD,Rd S w q.1 q.2
structure Orig where
 w:aN
 S:jv
 ok:∀k,S k->k<w.heap.size
abbrev wh (w:aN):Orig:=⟨w,λ_=>False,λ_ h=>h.elim⟩
abbrev yA (o:Orig)(w':aN):jv:=λk=>o.S k\/(o.w.heap.size<=k/\k<w'.heap.size)
structure Fr (w0:Orig)(w:aN)(S:jv)(rs:aa sD):Prop where
 below:Below w0.w.heap.size w0.w w
 src:∀k,S k->w0.S k\/w0.w.heap.size<=k
 pT:∀k,S k->k<w.heap.size
 ok:∀r∈rs,r.ok S w
 own:∀r∈rs,∀b,r.block=az b->w0.w.heap.size<=b/\b<w.heap.size/\¬S b
 nodup:(rs.filterMap sD.block).Nodup
theorem Fr.start (o:Orig):Fr o o.w o.S []:=
 ⟨Below.refl _ _,λ_ h=>.inl h,o.ok,λ_ h=>by simp at h,λ_ h=>by simp at h,by simp⟩
abbrev Fr.at {w0:Orig}{w:aN}{S:jv}{rs:aa sD}(h:Fr w0 w S rs):Orig:=⟨w,S,h.pT⟩
theorem sD.JE {S:jv}{w w':aN}{r:sD}(h:r.ok S w)(hk:nC S w w')(hb:∀b,r.block=az b->w'.heap[b]?=w.heap[b]?):r.ok S w':=by
 cases r with
 |iter b s pos=>exact(hb b rfl).trans h
 |row e v l=>
  have⟨xs,⟨h1,h2⟩,h3⟩:=h;refine⟨xs,⟨h1,?_⟩,h3.keep hk⟩;rcases h2 with h2|⟨g,cap,cur,rfl,hg,hh,rest⟩
  .exact .inl h2
  exact .inr ⟨g,cap,cur,rfl,hg,(hb g rfl).trans hh,rest⟩
 |box b t vs=>exact(hb b rfl).trans h
 |ro v a=>exact Rd.keep hk h
 |obj b I JD=>exact⟨let⟨x,h1,h2⟩:=h.1;⟨x,(hb b rfl).trans h1,h2⟩,λq hq=>(h.2 q hq).keep hk⟩
theorem sD.aiG {S S':jv}{w:aN}{r:sD}(h:r.ok S w)(hs:∀k,S k->S' k):r.ok S' w:=by
 cases r with
 |iter b s pos=>exact h
 |row e v l=>have⟨xs,h1,h2⟩:=h;exact⟨xs,h1,h2.up hs⟩
 |box b t vs=>exact h
 |ro v a=>exact Rd.up hs h
 |obj b I JD=>exact⟨h.1,λq hq=>(h.2 q hq).up hs⟩
theorem Fr.on {w0:Orig}{w w':aN}{S:jv}{rs:aa sD}(h:Fr w0 w S rs)(hb:Below w.heap.size w w'):Fr w0 w' S rs where
 below:=h.below.trans (hb.mono h.below.size)
 src:=h.src
 pT k hk:=bR (h.pT k hk) hb.size
 ok r hr:=sD.JE (h.ok r hr) (λk hk=>hb.block k (h.pT k hk)) (λb rN=>hb.block b (h.own r hr b rN).2.1)
 own r hr b rN:=let⟨a,c,d⟩:=h.own r hr b rN;⟨a,bR c hb.size,d⟩
 nodup:=h.nodup
theorem Fr.put {w0:Orig}{w:aN}{S:jv}{rs:aa sD}(h:Fr w0 w S rs)(r:sD)(hr:r.ok S w)
  (hb:∀b,r.block=az b->w0.w.heap.size<=b/\b<w.heap.size/\¬S b/\∀r'∈rs,r'.block≠az b):Fr w0 w S (r::rs) where
 below:=h.below
 src:=h.src
 pT:=h.pT
 ok r' OO:=by
  rcases bg.1 OO with rfl|OO
  .exact hr
  exact h.ok r' OO
 own r' OO b rN:=by
  rcases bg.1 OO with rfl|OO
  .obtain⟨x,y,z,_⟩:=hb b rN;exact⟨x,y,z⟩
  exact h.own r' OO b rN
 nodup:=by
  rw[List.filterMap_cons];split
  .exact h.nodup
  rename_i b rN;refine List.nodup_cons.2 ⟨λhm=>?_,h.nodup⟩;obtain⟨r',OO,e⟩:=List.mem_filterMap.1 hm;exact(hb b rN).2.2.2 r' OO e
theorem Fr.fresh {w0:Orig}{w:aN}{S:jv}{rs:aa sD}(h:Fr w0 w S rs):w0.w.heap.size<=w.heap.size/\¬S w.heap.size/\∀r∈rs,r.block≠az w.heap.size:=
 ⟨h.below.size,λhs=>anN _ (h.pT _ hs),λr hr e=>anN _ (h.own r hr _ e).2.1⟩
theorem qC (w:aN)(o:Obj):Below w.heap.size w (w.alloc o):=(Below.refl _ _).alloc (aW _) _
theorem Fr.alloc {w0:Orig}{w:aN}{S:jv}{rs:aa sD}(h:Fr w0 w S rs)(o:Obj):Fr w0 (w.alloc o) S rs:=h.on (qC w o)
theorem Fr.afU {w0:Orig}{w:aN}{S:jv}{rs:aa sD}(h:Fr w0 w S rs)(vs:aa aO)(t:aV):Fr w0 (w.alloc (.cells vs.toArray t)) S (.box w.heap.size t vs::rs):=
 (h.alloc _).put _ (heap_alloc_new w _) (λb hb=>by
  cases hb;have hf:=h.fresh;exact⟨hf.1,by simp,hf.2.1,hf.2.2⟩)
theorem Fr.abB {w0:Orig}{w:aN}{S:jv}{rs:aa sD}(h:Fr w0 w S rs)(s:aj):Fr w0 (w.iter s 0) S (.iter w.heap.size s 0::rs):=
 (h.alloc _).put _ (heap_alloc_new w _) (λb hb=>by
  cases hb;have hf:=h.fresh;exact⟨hf.1,by simp,hf.2.1,hf.2.2⟩)
theorem Fr.newRow {α:Type}[Data α]{w0:Orig}{w:aN}{S:jv}{rs:aa sD}(h:Fr w0 w S rs)(e:aV):Fr w0 w S (.row e (.slice aA 0 0) ([]:aa α)::rs):=
 h.put _ ⟨[],ao5 _ _ _ _,kR.nil _ _⟩ (λb hb=>by cases hb)
theorem Fr.set {w0:Orig}{w w':aN}{S:jv}{rs:aa sD}(h:Fr w0 w S rs)(i:ah){r:sD}(hi:rs[i]?=az r)(r':sD)(p9:r'.ok S w')
  (hg:w.grownBy w' r.block) (hb:∀b,r'.block=az b->r.block=az b\/(w.heap.size<=b/\b<w'.heap.size)):Fr w0 w' S (rs.set i r'):=by
 have hS:∀k,S k->az k≠r.block:=λk hk e=>(h.own r (cn hi) k e.symm).2.2 hk;have x8:nC S w w':=λk hk=>hg.block k (h.pT k hk) (hS k hk);have TR:i<rs.length:=(cF.1 hi).1;have QZ:rs[i]=r:=(cF.1 hi).2;have V3:∀j (hj:j<rs.length),j≠i->∀b,rs[j].block=az b->az b≠r.block:=by
  intro j hj qD b rN e;have hn:=h.nodup;rw[apI,aqq] at hn;rw[anx] at hn;rcases Nat.lt_or_gt_of_ne qD with rG|hgt
  .exact hn j i hj TR rG b rN b (by rw[QZ];exact e.symm) rfl
  exact hn i j TR hj hgt b (by rw[QZ];exact e.symm) b rN rfl
 have hO:∀k,k<w0.w.heap.size->az k≠r.block:=λk hk e=>by have:=(h.own r (cn hi) k e.symm).1;omega
 refine⟨?_,h.src,λk hk=>bR (h.pT k hk) hg.size,?_,?_,?_⟩
 .refine h.below.trans ⟨hg.os,hg.tape,hg.output,hg.size,λk hk=>?_⟩;exact hg.block k (bR hk h.below.size) (hO k hk)
 .intro x hx;obtain⟨j,hj,rfl⟩:=anL hx;rw[cq] at hj;rw[ao6];split
  .exact p9
  rename_i qD;refine sD.JE (h.ok _ (dY hj)) x8 λb rN=>?_;exact hg.block b (h.own _ (dY hj) b rN).2.1 (V3 j hj (λe=>qD e.symm) b rN)
 .intro x hx b rN;obtain⟨j,hj,rfl⟩:=anL hx;rw[cq] at hj;rw[ao6] at rN;split at rN
  .rcases hb b rN with e|⟨e1,e2⟩
   .obtain⟨a,c,d⟩:=h.own r (cn hi) b e;exact⟨a,bR c hg.size,d⟩
   exact⟨bC h.below.size e1,e2,λhs=>by have:=h.pT b hs;omega⟩
  obtain⟨a,c,d⟩:=h.own _ (dY hj) b rN;exact⟨a,bR c hg.size,d⟩
 have hn:=h.nodup;rw[apI,aqq,anx] at hn ⊢;intro j k hj hk hjk;rw[cq] at hj hk;rw[ao6,ao6];intro b LY b' G3 e;subst e;split at LY
 .rename_i e1;rw[aP (by omega)] at G3;rcases hb b LY with e|⟨e2,e3⟩
  .exact V3 k hk (by omega) b G3 e.symm
  have:=(h.own _ (dY hk) b G3).2.1;omega
 split at G3
 .rcases hb b G3 with e|⟨e2,e3⟩
  .exact V3 j hj (by omega) b LY e.symm
  have:=(h.own _ (dY hj) b LY).2.1;omega
 exact hn j k hj hk hjk b LY b G3 rfl
structure G8 (P:aY)(t e:aV)(size bytes:ah):Prop where
 under:P.underlying t=az (.slice e)
 info:∃i z,P.info? e=az i/\i.zero=az z/\i.size=size/\i.bytes=bytes/\z.cells.size=size
 pos:0<size
theorem abC {P:aY}{t e:aV}{z:aO}{size bytes:ah}(hu:P.underlying t=az (.slice e))(h:(P.info? e).map (λi=>(i.zero,i.size,i.bytes))=az (az z,size,bytes))(hz:z.cells.size=size)(hp:0<size):G8 P t e size bytes:=by
 obtain⟨i,h1,h2,h3,h4⟩:=info_parts h;exact⟨hu,⟨i,z,h1,h2,h3,h4,hz⟩,hp⟩
theorem V4 {P:aY}{t ty e:aV}{size bytes:ah}(E:G8 P t e size bytes)(w:aN)(v:aO)(n:ah)(xs:aa aO)(lU:w.ownsRow 0 e size v n xs)
  (a:ck) (m c:ah) (news:aa aO) (hl:news.length=m*size) (LZ:∀j u,news[j]?=az u->w.cell? (a.add j)=az u) (h1:∀u∈news,u.oneCell'=aC)
  (VI:n+m<=maxLen) (AB:(n+m)*bytes<=140737488355328):
  ∃v' w',(anz #[t,t] ty #[v,.slice (az a) m c]).run P w= .ok v' w'/\w'.ownsRow 0 e size v' (n+m) (xs++news)/\w.grownBy w' v.ownBlock/\
   (∀b,v'.ownBlock=az b->v.ownBlock=az b\/(w.heap.size<=b/\b<w'.heap.size)):=by
 have⟨i,z,hi,hz,tG,G4,hzs⟩:=E.info
 by_cases yp:v= .slice aA 0 0\/¬(∃g cap,v= .slice (az ⟨g,0,aA⟩) n cap/\n+m<=cap)
 ·
  have wq:∃base,base=w.heap.size/\av:=⟨_,rfl,tv⟩;rcases lU.2 with⟨rfl,rfl⟩|⟨g,cap,cur,rfl,hbg,hg,O0,vR,kO,rW⟩
  .have hx:xs=[]:=cH (by simpa using lU.1);subst hx;obtain⟨v',w',hr,h2,h3,h4⟩:=run_append_own (P:=P) w w.heap.size t ty e i z size bytes E.under hi hz tG G4 hzs E.pos (.slice aA 0 0) 0 [] (ao5 _ _ _ _) a m c news hl LZ h1 VI AB (aW _);refine⟨v',w',hr,⟨h2.1,?_⟩,h3,λb hb=>.inr (h2.lt b hb)⟩;rcases h2.2 with h|⟨g,cap,cur,e1,e2,e3⟩
   .exact .inl h
   exact .inr ⟨g,cap,cur,e1,bQ _,e3⟩
  have Bh:¬n+m<=cap:=by
   rcases yp with h|h
   .cases h
   intro hh;exact h ⟨g,cap,rfl,hh⟩
  have holds:∀j u,xs[j]?=az u->w.cell? ((⟨g,0,aA⟩:ck).add j)=az u:=lU.cells (g:=g) rfl;have alq:n+m<=9223372036854775807:=by simp only[maxLen] at VI;omega
  have hr:=run_append_grow (P:=P) w t ty e i z E.under hi hz ⟨g,0,aA⟩ n cap xs (by rw[tG];exact lU.1) holds a m c news (by rw[tG];exact hl) LZ (by omega) (by omega) (by rw[G4];exact growslice_fits (by omega) AB);have hge:=grownCap_ge w (n+m) cap e;have alr:grownCap w (n+m) cap e<=maxLen:=grownCap_le_maxLen w (n+m) cap e VI;refine⟨_,_,hr,⟨by rw[bA,lU.1,hl,cB],.inr ⟨w.heap.size,_,_,rfl,bQ _,heap_alloc_new w.drew _,hge,alr,?_,?_⟩⟩,⟨rfl,rfl,rfl,by simp,λk hk _=>heap_alloc_old w.drew _ hk⟩,?_⟩
  .simp only[aqs,dL,size_zeroCells,hzs,lU.1,hl,<-cB]
   congr 1
   omega
  .simp only[an9,cx];rw[<-cx,cB,<-lU.1,<-hl,<-bA];exact apJ
  intro b hb;simp[aoa] at hb;subst hb;exact .inr ⟨aW _,by simp⟩
 have hv:∃g cap,v= .slice (az ⟨g,0,aA⟩) n cap/\n+m<=cap:=dg λh=>yp (.inr h);obtain⟨g,cap,rfl,Bh⟩:=hv;rcases lU.2 with⟨h,_⟩|⟨g',als,cur,V5,hbg,hg,O0,vR,kO,rW⟩
 .cases h
 cases V5;have V6:n*i.size+news.length<=cur.size:=by rw[hl,kO,tG,<-cB];exact cm _ Bh
 have hr:=run_append_room (P:=P) w t ty e i E.under hi g n cap cur hg a m c news (by rw[tG];exact hl) LZ h1 Bh V6;refine⟨_,_,hr,⟨by rw[bA,lU.1,hl,cB],.inr ⟨g,cap,_,rfl,bQ _,setRow_heap w g cur _ e _ hg,Bh,vR,?_,?_⟩⟩,⟨rfl,rfl,rfl,by simp,λk _ hk=>setRow_other w g k _ (λe=>hk (by simp[aoa,e]))⟩,λb hb=>.inl hb⟩
 .simp only[dL,bA,bJ,b9,cU];omega
 rw[tG,rW,cB,<-lU.1,<-hl,<-bA];exact apJ
theorem Fr.push {P:aY}{t ty e:aV}{α:Type}[Data α]{bytes:ah}(E:G8 P t e (Data.size α) bytes){w0:Orig}{w:aN}{S:jv}{rs:aa sD}(h:Fr w0 w S rs)(i:ah){v:aO}{l:aa α}(hi:rs[i]?=az (.row e v l))
  (a:ck) (c:ah) (m:aa α) (news:aa aO) (pg:kR S w news m) (LZ:∀j u,news[j]?=az u->w.cell? (a.add j)=az u)
  (VI:l.length+m.length<=maxLen) (AB:(l.length+m.length)*bytes<=140737488355328):
  ∃v' w',(anz #[t,t] ty #[v,.slice (az a) m.length c]).run P w= .ok v' w'/\Fr w0 w' S (rs.set i (.row e v' (l++m)))/\w.grownBy w' v.ownBlock:=by
 obtain⟨xs,h1,h2⟩:=h.ok _ (cn hi);obtain⟨v',w',hr,k1,k2,k3⟩:=V4 E w v l.length xs h1 a m.length c news pg.1 LZ pg.one VI AB;have hS:nC S w w':=λk hk=>k2.block k (h.pT k hk) (λe=>(h.own _ (cn hi) k e.symm).2.2 hk);refine⟨v',w',hr,h.set i hi _ ⟨xs++news,by rw[bA];exact k1,(h2.keep hS).append (pg.keep hS)⟩ k2 k3,k2⟩
theorem Fr.next {w0:Orig}{w:aN}{S:jv}{rs:aa sD}(h:Fr w0 w S rs)(i:ah){b:ah}{s:aj}{pos:ah}(hi:rs[i]?=az (.iter b s pos))(pos':ah):Fr w0 (w.iterAt b s pos') S (rs.set i (.iter b s pos')):=by
 have p9:=h.ok _ (cn hi);refine h.set i hi _ (Lib.iterAt_heap w b s pos pos' p9) ⟨rfl,rfl,rfl,by rw[aqt];exact aW _,λk hk qD=>aqu w b k s pos' (λe=>qD (by rw[e];rfl))⟩ (λb' rN=>.inl rN)
theorem Fr.Q0 {w0:Orig}{w:aN}{S:jv}{rs:aa sD}(h:Fr w0 w S rs)(i:ah){b:ah}{s:aj}{pos:ah}(hi:rs[i]?=az (.iter b s pos)):w.heap[b]?=az (.stringIter s pos):=
 h.ok _ (cn hi)
theorem Fr.afV {α:Type}[Data α]{w0:Orig}{w:aN}{S:jv}{rs:aa sD}(h:Fr w0 w S rs)(i:ah){e:aV}{v:aO}{l:aa α}(hi:rs[i]?=az (.row e v l)):Rd (yA w0 w) w v l:=by
 obtain⟨xs,h1,h2⟩:=h.ok _ (cn hi);have hS:∀k,S k->yA w0 w k:=λk hk=>(h.src k hk).elim .inl λq=>.inr ⟨q,h.pT k hk⟩;refine tF ?_;rcases h1.2 with⟨rfl,hn⟩|⟨g,cap,cur,rfl,_,hg,O0,vR,kO,rW⟩
 .have:l=[]:=cH hn;subst this;exact⟨aA,0,rfl,by simp,by simp[maxLen],.inl rfl⟩
 obtain⟨Q1,hg2,_⟩:=h.own _ (cn hi) g rfl;refine⟨_,cap,rfl,O0,vR,.inr ⟨g,0,cur,e,(0,0),rfl,.inr ⟨Q1,hg2⟩,hg,λj hj=>?_⟩⟩;refine⟨_,Data.up hS (h2.2 j hj),λq hq=>?_⟩;rw[cE,aQ hq,cI,<-rW,cE,aQ ?_]
 .simp
 have:=cm (Data.size α) (show j+1<=l.length from hj);rw[cL] at this;omega
def jX:dX->af->Prop
 | .i64,n=> -9223372036854775808<=n/\n<=9223372036854775807
 | .i32,n=> -2147483648<=n/\n<=2147483647
 | .u8,n=>0<=n/\n<=255
 | .u32,n=>0<=n/\n<=4294967295
 | .u64,n=>0<=n/\n<=18446744073709551615
 |_,_=>False
theorem jX.wrap {k:dX}{n:af}(h:jX k n):k.wrap n=n:=by
 cases k<;>simp only[jX] at h<;>first|exact h.elim|skip
 all_goals simp only[IntKind.wrap,aqv,aqw]
 all_goals simp
 all_goals first|omega|(split<;>omega)
def OP:aO->ah
 | .slice (az a) _ _=>a.block
 | .pointer (az a)=>a.block
 |_=>0
def OQ:aO->ah
 | .slice (az a) _ _=>a.off
 | .pointer (az a)=>a.off
 |_=>0
def L0 (v:aO)(n:af):Prop:=∃p m c,v= .slice p m c/\n=(m:af)
def L3 (v:aO)(i:af):Prop:=∃b o n c,v= .slice (az ⟨b,o,aA⟩) n c/\0<=i/\i<n
def xy (C:aN->Prop)(b o:ah)(u:aO):Prop:=∀w,C w->w.cell? ⟨b,o,aA⟩=az u
def L4 (C:aN->Prop)(b o n:ah)(us:aq aO):Prop:=us.size=n/\∀w,C w->∀j,j<n->w.cell? ⟨b,o+j,aA⟩=us[j]?
def uN (P:aY) (f:bI):Prop:=∃fn,P.funcs[f]?=az fn/\(fn.name== "runtime.NumGoroutine")=aD/\fn.body.isNone=aD
def AD (P:aY)(C:aN->Prop)(f:bI)(args:aq aO)(v:aO):Prop:=∀w,C w->aI P f args w (λe w'=>e= .returned v/\C w')
def pE (s:aj)(i:af):af:=((s.data.getD i.toNat 0).toNat:af)
def aiH (P:aY)(t:aV)(x y:aO)(r:ak):Prop:=∀w,(aoi t x y).run P w= .ok r w
def qL (P:aY)(op:BinOp)(t:aV)(x y:aO)(n9:ai aO):ai (aO×Prop):=
 match x,y with
 | .int k a,.int k' b=>
  match op,n9 with
  | .shr,az (.int _ u)=>az (.int k u,0<=b/\a.fdiv (2 ^ (min b.toNat k.bits))=u)
  |_,_=>if k=k' then
   match op with
   | .add=>az (.int k (a+b),jX k (a+b))
   | .sub=>az (.int k (a-b),jX k (a-b))
   | .mul=>az (.int k (a*b),jX k (a*b))
   | .quo=>az (.int k (a/b),0<=a/\0<b/\jX k a)
   | .rem=>az (.int k (a%b),0<=a/\0<b)
   | .eql=>az (.bool (aE (a=b)),av)
   | .neq=>az (.bool (!decide (a=b)),av)
   | .lss=>az (.bool (aE (a<b)),av)
   | .leq=>az (.bool (aE (a<=b)),av)
   | .gtr=>az (.bool (aE (b<a)),av)
   | .geq=>az (.bool (aE (b<=a)),av)
   |_=>aA
  else aA
 | .string a,.string b=>
  match op with
  | .add=>az (.string (a++b),a.size+b.size<=9223372036854775807)
  | .eql=>az (.bool (a.toList==b.toList),av)
  | .neq=>az (.bool (!(a.toList==b.toList)),av)
  |_=>aA
 | .bool a,.bool b=>
  match op with
  | .eql=>az (.bool (a==b),P.underlying t=az .bool)
  | .neq=>az (.bool (!(a==b)),P.underlying t=az .bool)
  |_=>aA
 | .agg a,.agg b=>
  match op,n9 with
  | .eql,az (.bool r)=>az (.bool r,aiH P t (.agg a) (.agg b) r/\P.eqGuardType P.depth t=aD)
  | .neq,az (.bool r)=>az (.bool (!r),aiH P t (.agg a) (.agg b) r/\P.eqGuardType P.depth t=aD)
  |_,_=>aA
 |_,_=>aA
section
variable {P:aY}
theorem afW {k:dX}{a b:af}(h:jX k a)(h0:0<=a)(hb:0<b):jX k (a/b):=by
 have h1:0<=a/b:=Int.ediv_nonneg h0 (by omega);have h2:a/b<=a:=Int.ediv_le_self b h0;cases k<;>simp only[jX] at h ⊢ <;>omega
theorem V7 {op:BinOp}{t:aV}{x y:bu}{a b v:aO}{p:Prop}{n9:ai aO}(h:qL P op t a b n9=az (v,p))(hp:p)(w:aN):
  (do eqGuard op t x y a b;binOp op t a b:Sem aO).run P w= .ok v w:=by
 unfold qL at h;split at h
 .rename_i k a k' b;split at h
  .rename_i u;simp only[cr,cW] at h;obtain⟨rfl,rfl⟩:=h;have hg:(eqGuard .shr t x y (.int k a) (.int k' b)).run P w= .ok () w:=by
    unfold eqGuard;split<;>rfl
   rw[bw,hg];simp only[cy,binOp,Op.shift];rw[aP (by omega),hp.2];rfl
  split at h
  .rename_i hk;subst hk;have hg:(eqGuard op t x y (.int k a) (.int k b)).run P w= .ok () w:=by
    unfold eqGuard;split<;>rfl
   rw[bw,hg];simp only[cy];cases op<;>simp only[cr,cW,reduceCtorEq] at h
   all_goals (obtain⟨rfl,rfl⟩:=h)
   all_goals simp only[binOp,ne_eq,not_true_eq_false,if_false,Op.intArith,Op.intDiv,Op.intCmp]
   case add=>rw[hp.wrap];rfl
   case sub=>rw[hp.wrap];rfl
   case mul=>rw[hp.wrap];rfl
   case quo=>
    have⟨h0,h1,h2⟩:=hp;rw[aP (by omega),Int.tdiv_eq_ediv_of_nonneg h0,(afW h2 h0 h1).wrap];rfl
   case rem=>
    have⟨h0,h1⟩:=hp;rw[aP (by omega),Int.tmod_eq_emod_of_nonneg h0];rfl
   case eql=>simp[pure];rfl
   case neq=>simp[pure];rfl
   all_goals rfl
  cases h
 .rename_i a b;have hg:(eqGuard op t x y (.string a) (.string b)).run P w= .ok () w:=by
   unfold eqGuard;split<;>rfl
  rw[bw,hg];simp only[cy];cases op<;>simp only[cr,cW,reduceCtorEq] at h
  all_goals (obtain⟨rfl,rfl⟩:=h)
  all_goals simp only[binOp,Op.stringOp]
  case add=>
   rw[aP (by
    have:ao7 .i64=9223372036854775807:=by decide
    omega)]
   rfl
  all_goals rfl
 .rename_i a b;have hg:(eqGuard op t x y (.bool a) (.bool b)).run P w= .ok () w:=by
   unfold eqGuard;split<;>rfl
  rw[bw,hg];simp only[cy];cases op<;>simp only[cr,cW,reduceCtorEq] at h
  all_goals (obtain⟨rfl,rfl⟩:=h)
  all_goals
   simp only[binOp,bw];rw[show(aoi t (.bool a) (.bool b)).run P w= .ok (a==b) w from run_equal_bool w t a b hp];rfl
 .rename_i a b;have hg:P.eqGuardType P.depth t=aD->(eqGuard op t x y (.agg a) (.agg b)).run P w= .ok () w:=by
   intro he;cases op<;>simp[eqGuard,program,cM,he,cy]
  split at h
  .simp only[cr,cW] at h;obtain⟨rfl,rfl⟩:=h;rw[bw,hg hp.2];simp only[cy,binOp,bw,hp.1 w];rfl
  .simp only[cr,cW] at h;obtain⟨rfl,rfl⟩:=h;rw[bw,hg hp.2];simp only[cy,binOp,bw,hp.1 w];rfl
  cases h
 cases h
def l7 (P:aY)(C:aN->Prop)(g:bu->ai aO)(op:Op)(n9:ai aO):ai (aO×Prop):=
 match op with
 | .move x=>(g x).map λv=>(v,av)
 | .assign x=>(g x).map λv=>(v,av)
 | .unOp .not _ x=>match g x with|some (.bool b)=>az (.bool (!b),av)|_=>aA
 | .extract x i=>match g x with|some (.tuple vs)=>(vs[i]?).map λv=>(v,av)|_=>aA
 | .nilCheck x=>match g x with|some (.pointer (az a))=>az (.pointer (az a),av)|_=>aA
 | .binOp o t x y _=>match g x,g y with|some a,az b=>qL P o t a b n9|_,_=>aA
 | .convert s d x=>match P.underlying s,P.underlying d with
  |some (.int _),az (.int k)=>match g x with|some (.int _ n)=>az (.int k n,jX k n)|_=>aA
  |some (.slice _),az .string=>match g x,n9 with|some v,az u=>az (u,∀w,C w->(convert s d v).run P w= .ok u w)|_,_=>aA
  |_,_=>aA
 | .index t x i=>match P.underlying t,g x,g i with|some .string,az (.string s),az (.int _ n)=>az (.int .u8 (pE s n),0<=n/\n<(s.size:af))|_,_,_=>aA
 | .indexAddr t x i=>match P.underlying t,g x,g i with|some (.slice e),az v,az (.int _ n)=>az (.pointer (az ⟨OP v,OQ v+n.toNat*P.cellsOf e,aA⟩),(P.info? e).isSome=aC/\L3 v n)|_,_,_=>aA
 | .fieldAddr t x f=>match P.underlying t,g x with
  |some (.struct fs),az (.pointer (az ⟨b,o,aA⟩))=>match fs[f]? with
   |some fd=>az (.pointer (az ⟨b,o+fd.offset,aA⟩),0<P.cellsOf fd.type)
   |none=>aA
  |_,_=>aA
 | .load t x=>match P.underlying t,g x,n9 with
  |some (.struct _),az (.pointer (az ⟨b,o,aA⟩)),az (.agg us)=>az (.agg us,(P.info? t).isSome=aC/\L4 C b o (P.cellsOf t) us)
  |some (.struct _),_,_=>aA
  |some (.array _ _),_,_=>aA
  |some _,az (.pointer (az ⟨b,o,aA⟩)),az u=>az (u,xy C b o u)
  |_,_,_=>aA
 | .field t x f=>match P.underlying t,g x with
  |some (.struct fs),az (.agg cs)=>match fs[f]? with
   |some fd=>match P.underlying fd.type with
    |some (.struct _)=>az (.agg (cs.extract fd.offset (fd.offset+P.cellsOf fd.type)),(P.info? fd.type).isSome=aC)
    |some (.array _ _)=>aA
    |some _=>(cs[fd.offset]?).map λv=>(v,av)
    |none=>aA
   |none=>aA
  |_,_=>aA
 | .build t ps=>match ps.toList.mapM (λx=>(g x.2).map λv=>(x.1,v)),n9 with
  |some vs,az v=>az (v,∀w,(ao8 t vs.toArray).run P w= .ok v w)
  |_,_=>aA
 | .slice t x lo hi aA=>match g x,lo.map g,hi.map g,n9 with
  |some v,az (az l),az (az h),az u=>az (u,∀w,(cX t v (az l) (az h) aA).run P w= .ok u w)
  |some v,az (az l),aA,az u=>az (u,∀w,(cX t v (az l) aA aA).run P w= .ok u w)
  |some v,aA,az (az h),az u=>az (u,∀w,(cX t v aA (az h) aA).run P w= .ok u w)
  |some v,aA,aA,az u=>az (u,∀w,(cX t v aA aA aA).run P w= .ok u w)
  |_,_,_,_=>aA
 | .lookup t m k ok=>match g m,g k,n9 with
  |some vm,az vk,az u=>az (u,∀w,C w->(eR t vm vk ok).run P w= .ok u w)
  |_,_,_=>aA
 | .call c=>match c.callee,c.args.toList.map g with
  | .builtin .max,vs=>match vs.mapM id,n9 with|some us,az v=>az (v,∀ty w,(ao9 c.argTypes ty us.toArray).run P w= .ok v w)|_,_=>aA
  | .builtin .min,vs=>match vs.mapM id,n9 with|some us,az v=>az (v,∀ty w,(apa c.argTypes ty us.toArray).run P w= .ok v w)|_,_=>aA
  | .builtin .len,[az v]=>match(c.argTypes[0]?).bind P.underlying with
   |some .string=>match v with| .string s=>az (.int .i64 s.size,av)|_=>aA
   |some (.slice _)=>match n9 with|some (.int .i64 n)=>az (.int .i64 n,L0 v n)|_=>aA
   |_=>aA
  | .value x,vs=>match g x,vs.mapM id,n9 with|some (.func (.func f) first cap),az us,az v=>az (v,uN P f/\AD P C f (first++us.toArray++cap) v)|_,_,_=>aA
  |_,_=>aA
 |_=>aA
theorem EN {fd:Field}{b f:ah}(w:aN)(h0:0<P.cellsOf fd.type):(fieldPlace ⟨b,f,aA⟩ fd).run P w= .ok (⟨b,f+fd.offset,aA⟩:ck) w:=by
 have hi:∃i,P.info? fd.type=az i:=by
  cases hh:P.info? fd.type with
  |none=>simp[aoH,hh] at h0
  |some i=>exact⟨i,rfl⟩
 have⟨i,hi⟩:=hi;have hs:i.size≠0:=by simp[aoH,hi] at h0;omega
 have JF:(⟨b,f,aA⟩:ck).add fd.offset=⟨b,f+fd.offset,aA⟩:=by unfold Addr.add;split<;>simp_all
 simp[fieldPlace,sizeOf,typeInfo,program,cM,hi,hs,JF]
theorem run_loadCellsFrom (w:aN)(b o:ah)(us:aq aO)(n:ah)(hn:us.size=n)(h:∀j,j<n->w.cell? ⟨b,o+j,aA⟩=us[j]?):
  ∀k i (acc:aq aO),i+k=n->acc=us.extract 0 i->(loadCellsFrom ⟨b,o,aA⟩ i k acc).run P w= .ok us w:=by
 intro k
 induction k with
 |zero=>
  intro i acc hi afX;subst afX;have:i=us.size:=by omega
  subst this;simp[loadCellsFrom]
 |succ k ih=>
  intro i acc hi afX;have hc:=h i (by omega);have JF:(⟨b,o,aA⟩:ck).add i=⟨b,o+i,aA⟩:=by unfold Addr.add;split<;>simp_all
  have rG:i<us.size:=by omega
  rw[anO rG] at hc;simp only[loadCellsFrom,load,bw,JF];rw[show(Sem.load .plain ⟨b,o+i,aA⟩ Sem.pure:Sem aO).run P w= .ok us[i] w from by simp[cM,hc]];simp only[cy];refine ih (i+1) _ (by omega) ?_;subst afX;simp
theorem L5 {C:aN->Prop}{t:aV}{b o:ah}{us:aq aO}{d:TypeDesc}(w:aN)(hw:C w)(hu:P.underlying t=az d)(hd:∃fs,d= .struct fs)(hi:(P.info? t).isSome=aC)(hr:L4 C b o (P.cellsOf t) us):
  (aoj t (.pointer (az ⟨b,o,aA⟩))).run P w= .ok (.agg us) w:=by
 obtain⟨fs,rfl⟩:=hd;obtain⟨i,hi⟩:=bS.1 hi;have:=run_loadCellsFrom (P:=P) w b o us (P.cellsOf t) hr.1 (hr.2 w hw) (P.cellsOf t) 0 #[] (by omega) (by simp);simp[aoj,aoI,loadVar,isAgg,aH hu,run_sizeOf w hi,loadCells,this]
theorem L6 {t:aV}{b o:ah}{d:TypeDesc}{u:aO}(w:aN)(hu:P.underlying t=az d)(hd1:∀fs,d= .struct fs->False)(hd2:∀n e,d= .array n e->False)(hc:w.cell? ⟨b,o,aA⟩=az u):
  (aoj t (.pointer (az ⟨b,o,aA⟩))).run P w= .ok u w:=by
 cases d<;>first|exact(hd1 _ rfl).elim|exact(hd2 _ _ rfl).elim|simp[aoj,aoI,loadVar,isAgg,aH hu,load,cM,hc]
theorem k9 {C:aN->Prop}{v:aO}{w:aN}{s:Sem aO}(h:s.run P w= .ok v w):dM P C w v ((do pure (.value (<-s)):Sem Next).run P w):=by
 rw[bw,h];exact⟨rfl,rfl⟩
theorem uy {C:aN->Prop}{v:aO}{w:aN}{s:Sem aO}(h:s.run P w= .ok v w):dM P C w v ((s.run P w).andThen λa w'=>.ok (.value a) w'):=by
 rw[h];exact⟨rfl,rfl⟩
theorem Q2 {g:bu->ai aO}{ρ:bu->aO}(hg:∀x u,g x=az u->ρ x=u):∀(l:aa bu) (us:aa aO),(l.map g).mapM id=az us->l.map ρ=us
 |[],us,h=>by simp at h;simp[h]
 |x::l,us,h=>by
  simp only[bO,aqy,id_eq,aqz,aok,aqA,cr] at h;obtain⟨u,hu,vs,O1,rfl⟩:=h;rw[bO,hg x u hu,Q2 hg l vs O1]
theorem EO {g:bu->ai aO}{ρ:bu->aO}(hg:∀x u,g x=az u->ρ x=u):∀(l:aa (ah×bu)) (us:aa (ah×aO)),l.mapM (λx=>(g x.2).map λv=>(x.1,v))=az us->l.map (λx=>(x.1,ρ x.2))=us
 |[],us,h=>by simp at h;simp[h]
 |x::l,us,h=>by
  simp only[aqy,aqz,aok,aqA,cr,bF] at h;obtain⟨_,⟨u,hu,rfl⟩,vs,O1,rfl⟩:=h;rw[bO,hg x.2 u hu,EO hg l vs O1]
theorem wu {g:bu->ai aO}{ρ:bu->aO}(hg:∀x u,g x=az u->ρ x=u)(a:aq bu)(us:aa aO)(h:(a.toList.map g).mapM id=az us):a.map ρ=us.toArray:=by
 have:=Q2 hg a.toList us h;rw[<-this];apply cJ;rw[dZ]
theorem JG {C:aN->Prop}{g:bu->ai aO}{ρ:bu->aO}{o:bf}{n9:ai aO}{v:aO}{p:Prop}(hg:∀x u,g x=az u->ρ x=u)
  (h:l7 P C g o.op n9=az (v,p)) (hp:p) (w:aN) (hw:C w):dM P C w v ((aG ρ o).run P w):=by
 cases nN:o.op<;>rw[nN] at h
 all_goals first|(cases h;done)|skip
 case move x=>
  simp only[l7] at h;simp only[aG,nN];obtain⟨u,hu,e⟩:=bF.1 h;cases e;rw[hg x _ hu];exact⟨rfl,rfl⟩
 case assign x=>
  simp only[l7] at h;simp only[aG,nN];obtain⟨u,hu,e⟩:=bF.1 h;cases e;rw[hg x _ hu];exact⟨rfl,rfl⟩
 case unOp uo t x=>
  cases uo
  all_goals first|(cases h;done)|skip
  simp only[l7] at h;split at h
  .rename_i b hb;cases h;simp only[aG,nN,hg x _ hb];exact⟨rfl,rfl⟩
  cases h
 case extract x i=>
  simp only[l7] at h;split at h
  .rename_i vs hb;obtain⟨u,hu,e⟩:=bF.1 h;cases e;simp only[aG,nN,hg x _ hb];exact k9 (by simp[Instr.extract,hu])
  cases h
 case nilCheck x=>
  simp only[l7] at h;split at h
  .rename_i a hb;cases h;simp only[aG,nN,hg x _ hb];exact⟨rfl,rfl⟩
  cases h
 case binOp bo t x y t'=>
  simp only[l7] at h;split at h
  .rename_i a b ha hb;simp only[aG,nN,hg x _ ha,hg y _ hb];exact k9 (V7 h hp w)
  cases h
 case convert sT dT x=>
  simp only[l7] at h;split at h
  .rename_i k1 k h1 h2;split at h
   .rename_i k2 n h3;cases h;simp only[aG,nN,hg x _ h3];refine k9 ?_;have:k.wrap n=n:=hp.wrap;simp[convert,aH h1,aH h2,Conv.intToInt,this]
   cases h
  .split at h
   .rename_i u' h3;cases h;simp only[aG,nN,hg x _ h3];exact k9 (hp w hw)
   cases h
  cases h
 case index t x i=>
  simp only[l7] at h;split at h
  .rename_i s k n h1 h2 h3;cases h;simp only[aG,nN,hg x _ h2,hg i _ h3];refine k9 ?_;have⟨h0,h4⟩:=hp;have rG:n.toNat<s.size:=by omega
   have DY:s[n.toNat]?=az (s[n.toNat]'rG):=by simp[rG]
   have G9:pE s n=((s[n.toNat]'rG).toNat:af):=by
    unfold pE
    congr 2
    rw[cP,anO rG];rfl
   simp[Instr.index,asIntOf,aH h1,h0,DY,G9]
  cases h
 case indexAddr t x i=>
  simp only[l7] at h;split at h
  .rename_i e v' k n h1 h2 h3;cases h;simp only[aG,nN,hg x _ h2,hg i _ h3];refine k9 ?_;obtain⟨hi,b,f,m,c,rfl,h0,h4⟩:=hp;obtain⟨i,hi⟩:=bS.1 hi;have JF:∀q,(⟨b,f,aA⟩:ck).add q=⟨b,f+q,aA⟩:=by intro q;unfold Addr.add;split<;>simp_all
   simp[Instr.indexAt,asIntOf,aH h1,h0,h4,run_sizeOf w hi,JF,OP,OQ]
  cases h
 case fieldAddr t x f=>
  simp only[l7] at h;split at h
  .rename_i fs b q h1 h2;split at h
   .rename_i fd hfd;cases h;simp only[aG,nN,hg x _ h2];refine k9 ?_;simp[Instr.fieldAt,aH h1,hfd,aoI,EN w hp]
   cases h
  cases h
 case load t x=>
  simp only[l7] at h;split at h
  .rename_i fs b q us h1 h2;cases h;simp only[aG,nN,hg x _ h2];exact k9 (L5 w hw h1 ⟨_,rfl⟩ hp.1 hp.2)
  .cases h
  .cases h
  .rename_i d b q u JH JI h1 h2;cases h;simp only[aG,nN,hg x _ h2];exact k9 (L6 w h1 JH JI (hp w hw))
  cases h
 case field t x f=>
  simp only[l7] at h;split at h
  .rename_i fs cs h1 h2;split at h
   .rename_i fd hfd;split at h
    .rename_i fs' h3;cases h;simp only[aG,nN,hg x _ h2];refine k9 ?_;obtain⟨i,hi⟩:=bS.1 hp;simp[aqB,aH h1,hfd,asAgg,part,isAgg,aH h3,run_sizeOf w hi]
    .cases h
    .rename_i d JH JI h3;obtain⟨u,hu,e⟩:=bF.1 h;cases e;simp only[aG,nN,hg x _ h2];refine k9 ?_;have Dt:(isAgg fd.type).run P w= .ok aD w:=by
      cases d<;>first|exact(JH _ rfl).elim|exact(JI _ _ rfl).elim|simp[isAgg,aH h3]
     simp[aqB,aH h1,hfd,asAgg,part,Dt,hu]
    cases h
   cases h
  cases h
 case build t ps=>
  simp only[l7] at h;split at h
  .rename_i vs v' O1;cases h;have e:ps.map (λx=>(x.1,ρ x.2))=vs.toArray:=by
    have:=EO hg ps.toList vs O1;rw[<-this];apply cJ;rw[dZ]
   simp only[aG,nN];refine k9 ?_;have:=hp w;rw[<-e] at this;exact this
  cases h
 case slice t x lo hi mx=>
  cases mx with
  |some m=>simp only[l7] at h;cases h
  |none=>
   simp only[l7] at h;simp only[aG,nN];split at h
   .rename_i v' l hh u h1 h2 h3;cases h;obtain⟨lx,rfl,g2⟩:=bF.1 h2;obtain⟨hx,rfl,g3⟩:=bF.1 h3;refine k9 ?_;simp only[cN,dN,hg _ _ h1,hg _ _ g2,hg _ _ g3];exact hp w
   .rename_i v' l u h1 h2 h3;cases h;obtain⟨lx,rfl,g2⟩:=bF.1 h2;cases aoJ.1 h3;refine k9 ?_;simp only[cN,dN,hg _ _ h1,hg _ _ g2];exact hp w
   .rename_i v' hh u h1 h2 h3;cases h;obtain⟨hx,rfl,g3⟩:=bF.1 h3;cases aoJ.1 h2;refine k9 ?_;simp only[cN,dN,hg _ _ h1,hg _ _ g3];exact hp w
   .rename_i v' u h1 h2 h3;cases h;cases aoJ.1 h2;cases aoJ.1 h3;refine k9 ?_;simp only[cN,dN,hg _ _ h1];exact hp w
   cases h
 case lookup t m k ok=>
  simp only[l7] at h;split at h
  .rename_i vm vk u h1 h2;cases h;simp only[aG,nN,hg _ _ h1,hg _ _ h2];exact k9 (hp w hw)
  cases h
 case call c=>
  simp only[l7] at h;split at h
  .rename_i vs hc;split at h
   .rename_i us v' TS;cases h;have ha:=wu hg c.args us TS;simp only[aG,nN,resolve,hc,bw,bZ,cG,ha,invoke,builtin];exact uy (hp _ w)
   cases h
  .rename_i vs hc;split at h
   .rename_i us v' TS;cases h;have ha:=wu hg c.args us TS;simp only[aG,nN,resolve,hc,bw,bZ,cG,ha,invoke,builtin];exact uy (hp _ w)
   cases h
  .rename_i v' hc hl;split at h
   .rename_i hu;split at h
    .rename_i s;cases h;obtain⟨t,ht0,ht1⟩:=aok.1 hu;have ha:=wu hg c.args [.string s] (by rw[hl];rfl);simp only[aG,nN,resolve,hc,bw,bZ,cG,ha,invoke,builtin];refine uy (s:=aol c.argTypes o.type #[.string s]) ?_;simp[aol,ht0,aH ht1,goInt]
    cases h
   .rename_i e hu;split at h
    .rename_i n;cases h;obtain⟨t,ht0,ht1⟩:=aok.1 hu;obtain⟨q,m,cp,rfl,rfl⟩:=hp;have ha:=wu hg c.args [.slice q m cp] (by rw[hl];rfl);simp only[aG,nN,resolve,hc,bw,bZ,cG,ha,invoke,builtin];refine uy (s:=aol c.argTypes o.type #[.slice q m cp]) ?_;simp[aol,ht0,aH ht1,goInt]
    cases h
   cases h
  .rename_i x vs hc;split at h
   .rename_i f first cap us v' hx TS;cases h;obtain⟨⟨fn,hf,hn,hb⟩,uO⟩:=hp;have ha:=wu hg c.args us TS;have e:(aG ρ o).run P w= .ok (.enter f (first++us.toArray++cap)) w:=by
     have O3:fn.name≠ "runtime.NumGoroutine" :=by simpa using hn
     have rN:fn.body≠aA:=by intro e;rw[e] at hb;cases hb
     simp[aG,nN,resolve,hc,ha,hg _ _ hx,aoK,invoke,callFunc,program,cM,hf,O3,rN]
    rw[e];exact⟨rfl,uO w hw⟩
   cases h
  cases h
end
structure VJ where
 slot:ah
 ch:aa (ah×ak)
 val:aO
abbrev Env:=aa VJ
def HQ (a:Act)(l:ah×ak):Prop:=a.tmps[l.1]?=az (.bool l.2)
def oK (a:Act)(C:aa (ah×ak)):Prop:=∀l∈C,HQ a l
def HR (a:Act)(e:VJ):Prop:=(oK a e.ch->a.tmps[e.slot]?=az e.val)/\(¬oK a e.ch->a.tmps[e.slot]?=az aL)
def kP (n:ah)(a:Act)(env:Env):Prop:=a.tmps.size=n/\a.defers=[]/\∀e∈env,HR a e
def look (env:Env)(t:ah):ai VJ:=env.find? (λe=>e.slot==t)
def getOp (env:Env)(C:aa (ah×ak)):bu->ai aO
 | .tmp t=>match look env t with
  |some e=>if e.ch.isPrefixOf C then az e.val else aA
  |none=>aA
 | .const v=>az v
 | .func f=>az (.func (.func f) #[] #[])
 | .global g=>az (.pointer (az ⟨g,0,aA⟩))
theorem look_ok {env:Env}{t:ah}{e:VJ}(h:look env t=az e):e∈env/\e.slot=t:=
 ⟨aqC h,by have:=apb h;simpa using this⟩
theorem tH {a:Act}{C D:aa (ah×ak)}(h:C.isPrefixOf D=aC)(hd:oK a D):oK a C:=by
 obtain⟨t,rfl⟩:=List.isPrefixOf_iff_prefix.1 h;exact λl hl=>hd l (bU _ hl)
theorem nQ {n:ah}{a:Act}{env:Env}{C:aa (ah×ak)}(ha:kP n a env)(hC:oK a C)(x:bu)(u:aO)(h:getOp env C x=az u):a.eval x=u:=by
 cases x with
 |tmp t=>
  simp only[getOp] at h;split at h
  .rename_i e he;split at h
   .rename_i hp;cases h;obtain⟨h1,rfl⟩:=look_ok he;have:=(ha.2.2 e h1).1 (tH hp hC);simp only[dH,cP,this,eV]
   cases h
  cases h
 |const v=>cases h;rfl
 |func f=>cases h;rfl
 |global g=>cases h;rfl
def Ee (ops:aq bf)(env:Env)(o:bf):ai (aa (ah×ak)):=
 match o.guard with
 |none=>az []
 |some (i,b)=>match(ops[i]?).bind (·.dst) with
  |some j=>(look env j).map λe=>e.ch++[(j,b)]
  |none=>aA
def impl (env:Env):aa (ah×ak)->Prop->Prop
 |[],p=>p
 |(j,b)::r,p=>match look env j with
  |some ⟨_,_,.bool c⟩=>c=b->impl env r p
  |_=>impl env r p
def O4 (env:Env)(C:aa (ah×ak))(c x y:bu):ai aO:=
 match c,getOp env C c with
 | .tmp t,az (.bool cb)=>match getOp env (C++[(t,aC)]) x,getOp env (C++[(t,aD)]) y with
  |some (.bool p),az (.bool q)=>match x,y with
   | .const (.bool aC),_=>az (.bool (cb||q))
   |_,.const (.bool aD)=>az (.bool (cb && p))
   |_,_=>az (.bool (bif cb then p else q))
  |_,_=>aA
 |_,_=>aA
def EP (P:aY)(W:aN->Prop)(n:ah)(ops:aq bf)(env:Env)(n9:aa (ah×aO))(o:bf):ai (Env×Prop):=
 match Ee ops env o,o.dst with
 |some C,az d=>
  if d<n/\C.all (λl=>l.1 !=d)=aC then
   match(match o.op with
    | .pick c x y=>(O4 env C c x y).map λv=>(v,av)
    |op=>l7 P W (getOp env C) op (n9.lookup d)) with
   |some (v,p)=>az (⟨d,C,v⟩::env.filter (λe=>e.slot !=d && e.ch.all (λl=>l.1 !=d)),impl env C p)
   |none=>aA
  else aA
 |_,_=>aA
def alu:BinOp->ak
 | .eql=>aC
 | .neq=>aC
 | .lss=>aC
 | .leq=>aC
 | .gtr=>aC
 | .geq=>aC
 |_=>aD
def alv:BinOp->ak
 | .eql=>aC
 | .neq=>aC
 |_=>aD
def V8 (o:BinOp):ai aO->ai aO->ak
 |some (.int _ _),az (.int _ _)=>alu o
 |some (.string _),az (.string _)=>alv o
 |_,_=>aD
def aeB (g:bu->ai aO):Op->ak
 | .move _=>aC
 | .assign _=>aC
 | .unOp .not _ _=>aC
 | .pick _ _ _=>aC
 | .binOp o _ x y _=>V8 o (g x) (g y)
 |_=>aD
def V9 (ops:aq bf)(env:Env)(o:bf):ak:=match Ee ops env o with
 |some C=>aeB (getOp env C) o.op
 |none=>aD
theorem Wa {P:aY}{W:aN->Prop}{g:bu->ai aO}{op:Op}{n9:ai aO}{v:aO}{p:Prop}(ht:aeB g op=aC)(h:l7 P W g op n9=az (v,p)):p:=by
 cases op
 all_goals first|(cases ht;done)|skip
 case move x=>obtain⟨u,_,e⟩:=bF.1 h;cases e;trivial
 case assign x=>obtain⟨u,_,e⟩:=bF.1 h;cases e;trivial
 case unOp u t x=>
  cases u
  all_goals first|(cases ht;done)|skip
  simp only[l7] at h;split at h<;>cases h
  trivial
 case pick c x y=>cases h
 case binOp o t x y z=>
  simp only[l7] at h;have ht:V8 o (g x) (g y)=aC:=ht;unfold V8 at ht;split at ht
  .rename_i k a k' b hx hy;rw[hx,hy] at h;cases o<;>first|(cases ht;done)|(simp only[qL] at h;split at h<;>cases h;trivial)
  .rename_i a b hx hy;rw[hx,hy] at h;cases o<;>first|(cases ht;done)|(simp only[qL] at h;cases h;trivial)
  cases ht
theorem Cs {env:Env}{p:Prop}(h:p):∀C:aa (ah×ak),impl env C p
 |[]=>h
 |(j,b)::r=>by
  simp only[impl];split
  .exact λ_=>Cs h r
  exact Cs h r
theorem Wb {P:aY}{W:aN->Prop}{n:ah}{ops:aq bf}{env wv:Env}{n9:aa (ah×aO)}{o:bf}{p:Prop}(ht:V9 ops env o=aC)(h:EP P W n ops env n9 o=az (wv,p)):p:=by
 unfold EP at h;unfold V9 at ht;split at h
 .rename_i C d hC hd;rw[hC] at ht;split at h
  .split at h
   .rename_i v p' hv;cases h;refine Cs ?_ C;split at hv
    .obtain⟨u,_,e⟩:=bF.1 hv;cases e;trivial
    exact Wa ht hv
   cases h
  cases h
 cases h
def ER (P:aY)(W:aN->Prop)(n:ah)(ops:aq bf)(n9:aa (ah×aO)):aa bf->Env->ai (Env×Prop)
 |[],env=>az (env,av)
 |o::r,env=>match EP P W n ops env n9 o with
  |some (wv,p)=>match ER P W n ops n9 r wv with
   |some (aiI,q)=>az (aiI,match V9 ops env o with
    |true=>q
    |false=>p/\q)
   |none=>aA
  |none=>aA
theorem HS {a:Act}{l:ah×ak}{d:ah}{v:aO}(h:l.1≠d):HQ (a.put (az d) v) l↔HQ a l:=by
 simp only[HQ,eu,anP];rw[aP (λe=>h e.symm)]
theorem tI {a:Act}{C:aa (ah×ak)}{d:ah}{v:aO}(h:C.all (λl=>l.1 !=d)=aC):oK (a.put (az d) v) C↔oK a C:=by
 rw[bG] at h;exact⟨λhc l hl=>(HS (by simpa using h l hl)).1 (hc l hl),λhc l hl=>(HS (by simpa using h l hl)).2 (hc l hl)⟩
theorem zm {a:Act}{e:VJ}{d:ah}{v:aO}(h:(e.slot !=d && e.ch.all (λl=>l.1 !=d))=aC)(he:HR a e):HR (a.put (az d) v) e:=by
 rw[bB] at h;have hs:(a.put (az d) v).tmps[e.slot]?=a.tmps[e.slot]?:=by
  simp only[eu,anP];rw[aP (λq=>by simp[q] at h)]
 refine⟨λhc=>?_,λhc=>?_⟩
 .rw[hs];exact he.1 ((tI h.2).1 hc)
 rw[hs];exact he.2 (λk=>hc ((tI h.2).2 k))
theorem HT {n:ah}{a:Act}{env:Env}{d:ah}{C:aa (ah×ak)}{v:aO}(ha:kP n a env)(hd:d<n)(hC:C.all (λl=>l.1 !=d)=aC){u:aO}(hu:(oK a C->u=v)/\(¬oK a C->u=aL)):
  kP n (a.put (az d) u) (⟨d,C,v⟩::env.filter (λe=>e.slot !=d && e.ch.all (λl=>l.1 !=d))):=by
 refine⟨by simp[eu,ha.1],ha.2.1,λe he=>?_⟩;rcases bg.1 he with rfl|he
 .have hs:(a.put (az d) u).tmps[d]?=az u:=by
   simp only[eu,anP,if_true];rw[aQ (by rw[ha.1];exact hd)]
  refine⟨λhc=>?_,λhc=>?_⟩
  .show(a.put (az d) u).tmps[d]?=az v;rw[hs,hu.1 ((tI hC).1 hc)]
  show(a.put (az d) u).tmps[d]?=az aL;rw[hs,hu.2 (λk=>hc ((tI hC).2 k))]
 obtain⟨h1,h2⟩:=bX.1 he;exact zm h2 (ha.2.2 e h1)
theorem Ct {n:ah}{a:Act}{env:Env}(ha:kP n a env):∀ {C:aa (ah×ak)} {p:Prop},impl env C p->oK a C->p
 |[],p,h,_=>h
 |(j,b)::r,p,h,hc=>by
  have hr:oK a r:=λl hl=>hc l (bl _ hl);simp only[impl] at h;split at h
  .rename_i s e c hl;obtain⟨h1,h2⟩:=look_ok hl;have hj:a.tmps[j]?=az (.bool b):=hc (j,b) aZ;have he:=ha.2.2 _ h1;simp only at h2;subst h2;have rB:oK a e:=dg λhn=>by
    have:=he.2 hn;simp only at this;rw[hj] at this;simp[aL] at this
   have hv:=he.1 rB;simp only at hv;rw[hj] at hv;simp at hv;exact Ct ha (h hv.symm) hr
  exact Ct ha h hr
theorem O6 {n:ah}{a:Act}{env:Env}{ops:aq bf}{o:bf}{C:aa (ah×ak)}(ha:kP n a env)(h:Ee ops env o=az C):dh o (yielded ops a.tmps)=aC↔oK a C:=by
 unfold Ee at h;unfold Region.wanted;split at h
 .rename_i hg;cases h;simp[hg,oK]
 rename_i i b hg;split at h
 .rename_i j hj;obtain⟨e,he,rfl⟩:=bF.1 h;obtain⟨h1,rfl⟩:=look_ok he;have VK:=ha.2.2 e h1;simp only[hg,beq_iff_eq];have hy:yielded ops a.tmps i=az b↔a.tmps[e.slot]?=az (.bool b):=by
   unfold yielded;rw[hj];simp only[Option.bind_some];constructor
   .intro hh;split at hh
    .rename_i c hc;cases hh;exact hc
    cases hh
   intro hh;rw[hh]
  rw[hy];constructor
  .intro hh l hl;rcases bE.1 hl with hl|hl
   .have rB:oK a e.ch:=dg λhn=>by
     have:=VK.2 hn;rw[hh] at this;simp[aL] at this
    exact rB l hl
   simp at hl;subst hl;exact hh
  intro hh;exact hh (e.slot,b) (bV _ (by simp))
 cases h
theorem TU {P:aY}{W:aN->Prop}{n:ah}{a:Act}{env:Env}{C:aa (ah×ak)}{o:bf}{c x y:bu}{v:aO}(ha:kP n a env)(hC:oK a C)(ho:o.op= .pick c x y)(h:O4 env C c x y=az v)(w:aN):dM P W w v ((aG a.eval o).run P w):=by
 unfold O4 at h;split at h
 .rename_i t cb hc;split at h
  .rename_i p q hx hy;have ec:=nQ ha hC _ _ hc;have key:∀r:ak,(cb=aC->r=p)->(cb=aD->r=q)->v= .bool r->dM P W w v ((aG a.eval o).run P w):=by
    intro r h1 h2 hv;subst hv;have Wc:HQ a (t,cb):=by
     simp only[getOp] at hc;split at hc
     .rename_i e he;split at hc
      .rename_i hp;obtain⟨m1,rfl⟩:=look_ok he;have:=(ha.2.2 e m1).1 (tH hp hC);have hv:=b5 hc;unfold HQ;rw[this,hv]
      cases hc
     cases hc
    simp only[aG,ho,ec,asBool,bw,bZ,cG];cases cb with
    |true=>
     have ex:=nQ ha (C:=C++[(t,aC)]) (λl hl=>by rcases bE.1 hl with hl|hl;exact hC l hl;simp at hl;subst hl;exact Wc) _ _ hx;rw[h1 rfl];simp only[if_true,ex];exact⟨rfl,rfl⟩
    |false=>
     have ey:=nQ ha (C:=C++[(t,aD)]) (λl hl=>by rcases bE.1 hl with hl|hl;exact hC l hl;simp at hl;subst hl;exact Wc) _ _ hy;rw[h2 rfl];simp only[aom,if_false,ey];exact⟨rfl,rfl⟩
   split at h
   .cases h;cases hx;exact key _ (λe=>by rw[e];simp) (λe=>by rw[e];simp) rfl
   .cases h;cases hy;exact key _ (λe=>by rw[e];simp) (λe=>by rw[e];simp) rfl
   cases h;exact key _ (λe=>by rw[e];rfl) (λe=>by rw[e];rfl) rfl
  cases h
 cases h
theorem TV {P:aY}{W:aN->Prop}{n:ah}{ops:aq bf}{a:Act}{env wv:Env}{n9:aa (ah×aO)}{o:bf}{p:Prop}(ha:kP n a env)
  (h:EP P W n ops env n9 o=az (wv,p)) (hp:p) {Q:Act->Prop} (hQ:∀a',kP n a' wv->Q a'):
  if dh o (yielded ops a.tmps) then o.quiet P a W Q else Q (a.put o.dst aL):=by
 unfold EP at h;split at h
 .rename_i C d hC hd;split at h
  .rename_i hdn;split at h
   .rename_i v p' hv;cases h;have hw:=O6 ha hC
    by_cases rB:oK a C
    .rw[aQ (hw.2 rB)];have hp':=Ct ha hp rB;refine⟨v,λw hw=>?_,?_⟩
     .unfold Oper.quietAt;split at hv
      .rename_i c x y ho;obtain⟨u,hu,e⟩:=bF.1 hv;cases e;exact TU ha rB ho hu w
      exact JG (λx u hx=>nQ ha rB x u hx) hv hp' w hw
     rw[hd];exact hQ _ (HT ha hdn.1 hdn.2 ⟨λ_=>rfl,λhn=>(hn rB).elim⟩)
    rw[aP (λhh=>rB (hw.1 hh)),hd];exact hQ _ (HT ha hdn.1 hdn.2 ⟨λhh=>(rB hh).elim,λ_=>rfl⟩)
   cases h
  cases h
 cases h
theorem ES {P:aY}{W:aN->Prop}{n:ah}{ops:aq bf}{n9:aa (ah×aO)}:∀ {l:aa bf} {a:Act} {env wv:Env} {p:Prop} (ha:kP n a env)
  (h:ER P W n ops n9 l env=az (wv,p)) (hp:p) {Q:Act->Prop} (hQ:∀a',kP n a' wv->Q a'),wpQuiet P ops W Q l a
 |[],a,env,wv,p,ha,h,hp,Q,hQ=>by
  simp only[ER,cr,cW] at h;obtain⟨rfl,rfl⟩:=h;exact hQ a ha
 |o::r,a,env,wv,p,ha,h,hp,Q,hQ=>by
  simp only[ER] at h;split at h
  .rename_i anf p1 h1;split at h
   .rename_i ang q h2;cases h;have hpq:p1/\q:=by
     split at hp
     .rename_i ht;exact⟨Wb ht h1,hp⟩
     exact hp
    exact TV ha h1 hpq.1 (λa' ha'=>ES ha' h2 hpq.2 hQ)
   cases h
  cases h
def lY (keep:aa (ah×aO)):Env:=keep.map λx=>⟨x.1,[],x.2⟩
theorem JJ {n:ah}{a:Act}{env:Env}(keep:aa (ah×aO))(ha:kP n a env)(h:∀x∈keep,look env x.1=az ⟨x.1,[],x.2⟩):kP n a (lY keep):=by
 refine⟨ha.1,ha.2.1,λe he=>?_⟩;obtain⟨x,hx,rfl⟩:=bz.1 he;exact ha.2.2 _ (look_ok (h x hx)).1
def sub:Code->aa ah->Code
 |c,[]=>c
 | .seq x y,k::p=>if k=0 then sub x p else sub y p
 | .cond _ x y,k::p=>if k=0 then sub x p else sub y p
 | .block _ b,_::p=>sub b p
 | .loop b,_::p=>sub b p
 | .scope b,_::p=>sub b p
 | .rangeFunc _ _ x y,k::p=>if k=0 then sub x p else sub y p
 |_,_::_=>.skip
def aiJ:Code->ak| .seq _ _=>aC|_=>aD
def afY:Code->ak| .loop _=>aC|_=>aD
def aeC:Code->ak| .ret=>aC|_=>aD
def afZ:Code->ak| .skip=>aC|_=>aD
def Wd:Code->ai bu| .cond c _ _=>az c|_=>aA
def Q3:Code->ai ah| .block i _=>az i|_=>aA
def We:Code->ai ah| .exit i=>az i|_=>aA
def Cu:Code->ai ak| .region _ _ d=>az d|_=>aA
def opsOf:Code->aq bf| .region _ o _=>o|_=> #[]
theorem Q4 (c:Code):sub c []=c:=by cases c<;>rfl
theorem L7 (x y:Code):sub (.seq x y) [0]=x:=by simp only[sub];cases x<;>rfl
theorem L8 (x y:Code):sub (.seq x y) [1]=y:=by simp only[sub];cases y<;>rfl
theorem Cv (c:bu)(x y:Code):sub (.cond c x y) [0]=x:=by simp only[sub];cases x<;>rfl
theorem Cw (c:bu)(x y:Code):sub (.cond c x y) [1]=y:=by simp only[sub];cases y<;>rfl
theorem ET (i:ah)(x:Code):sub (.block i x) [0]=x:=by simp only[sub]
theorem HU (x:Code):sub (.loop x) [0]=x:=by simp only[sub]
theorem lJ (k:ah):∀(p:aa ah) (B:Code),sub B (p++[k])=sub (sub B p) [k]
 |[],B=>by cases B<;>rfl
 |j::p,B=>by
  cases B with
  |seq x y=>simp only[eC,sub];split<;>exact lJ k p _
  |cond c x y=>simp only[eC,sub];split<;>exact lJ k p _
  |block i b=>exact lJ k p b
  |loop b=>exact lJ k p b
  |scope b=>exact lJ k p b
  |rangeFunc f ps x y=>simp only[eC,sub];split<;>exact lJ k p _
  |_=>rfl
abbrev oL:=Exit->Act->aN->Prop
theorem L9 {p:ah->Prop}:∀n,p n->∃m,p m/\∀k,p k->m<=k:=by
 intro n
 induction n using Nat.strongRecOn with
 |_ n ih=>
  intro hn
  by_cases h:∃k,k<n/\p k
  .obtain⟨k,hk,hpk⟩:=h;exact ih k hk hpk
  exact⟨n,hn,λk hk=>Nat.le_of_not_lt λrG=>h ⟨k,rG,hk⟩⟩
section
variable {P:aY}{B:Code}{p:aa ah}{Q:oL}{a:Act}{w:aN}
theorem jx (k:∀K:Act->aN->Prop,(∀a w,(sub B (p++[1])).wp P Q a w->K a w)->(sub B (p++[0])).wp P (Exit.then K Q) a w)(h:aiJ (sub B p)=aC:=by kernel_rfl):(sub B p).wp P Q a w:=by
 cases hc:sub B p<;>rw[hc] at h<;>first|(cases h;done)|skip
 rename_i x y;refine wp_seq_k λK hK=>?_;have:=k K (λa w h=>hK a w (by rw[lJ,hc,L8] at h;exact h));rw[lJ,hc,L7] at this;exact this
theorem kI {n:ah}{env:Env}(ha:kP n a env)(c:bu)(b:ak)
  (ht:b=aC->(sub B (p++[0])).wp P Q a w) (hf:b=aD->(sub B (p++[1])).wp P Q a w) (h:Wd (sub B p)=az c:=by kernel_rfl) (hb:getOp env [] c=az (.bool b):=by kernel_rfl):(sub B p).wp P Q a w:=by
 cases hc:sub B p<;>rw[hc] at h<;>first|(cases h;done)|skip
 rename_i c' x y;simp only[Wd,cr] at h;subst h;refine wp_cond_split (nQ ha (λ_ hl=>by simp at hl) _ _ hb) (λe=>?_) (λe=>?_)
 .have:=ht e;rw[lJ,hc,Cv] at this;exact this
 have:=hf e;rw[lJ,hc,Cw] at this;exact this
theorem qg (i:ah)(k:(sub B (p++[0])).wp P (Exit.inBlock i Q) a w)(h:Q3 (sub B p)=az i:=by kernel_rfl):(sub B p).wp P Q a w:=by
 cases hc:sub B p<;>rw[hc] at h<;>first|(cases h;done)|skip
 rename_i j b;simp only[Q3,cr] at h;subst h;rw[lJ,hc,ET] at k;exact wp_block k
theorem Bi (i:ah)(k:Q (.exit i) a w)(h:We (sub B p)=az i:=by kernel_rfl):(sub B p).wp P Q a w:=by
 cases hc:sub B p<;>rw[hc] at h<;>first|(cases h;done)|skip
 simp only[We,cr] at h;subst h;exact wp_exit k
theorem mL (k:Q .ret a w)(h:aeC (sub B p)=aC:=by kernel_rfl):(sub B p).wp P Q a w:=by
 cases hc:sub B p<;>rw[hc] at h<;>first|(cases h;done)|skip
 exact wp_ret k
theorem go_skip (k:Q .normal a w)(h:afZ (sub B p)=aC:=by kernel_rfl):(sub B p).wp P Q a w:=by
 cases hc:sub B p<;>rw[hc] at h<;>first|(cases h;done)|skip
 exact wp_skip k
theorem Bj (X:Type)(I:X->Act->aN->Prop)(μ:X->ah)(x0:X)(h0:I x0 a w)
  (round:∀x a w,I x a w->(sub B (p++[0])).wp P (Exit.then (λa' w'=> ∃x',I x' a' w'/\μ x'<μ x) Q) a w) (h:afY (sub B p)=aC:=by kernel_rfl):(sub B p).wp P Q a w:=by
 cases hc:sub B p<;>rw[hc] at h<;>first|(cases h;done)|skip
 rename_i b;rw[lJ,hc,HU] at round
 classical
 have hL:∀a w,(∃x,I x a w)->∃m,(∃x,I x a w/\μ x=m)/\∀k,(∃x,I x a w/\μ x=k)->m<=k:=λa w ⟨x,hx⟩=>L9 (p:=λm=> ∃x,I x a w/\μ x=m) (μ x) ⟨x,hx,rfl⟩
 let m:Act->aN->ah:=λa w=>if h:∃x,I x a w then Classical.choose (hL a w h) else 0
 have hm:∀a w,(∃x,I x a w)->(∃x,I x a w/\μ x=m a w)/\∀k,(∃x,I x a w/\μ x=k)->m a w<=k:=by
  intro a w h;have:=Classical.choose_spec (hL a w h);simp only[m,dif_pos h];exact this
 refine wp_loop (λa w=> ∃x,I x a w) m ⟨x0,h0⟩ λa w hI=>?_;obtain⟨⟨x,hx,hmx⟩,_⟩:=hm a w hI;refine wp_mono (round x a w hx) λe a' w' q=>?_;cases e with
 |normal=>
  obtain⟨x',O7,rG⟩:=q;refine⟨⟨x',O7⟩,?_⟩;have:=(hm a' w' ⟨x',O7⟩).2 (μ x') ⟨x',O7,rfl⟩;omega
 |_=>exact q
abbrev On (w:aN):aN->Prop:=λw'=>Below w.heap.size w w'
theorem On.self (w:aN):On w w:=Below.refl _ _
theorem nD (k:wpList P (opsOf (sub B p)) Q ((opsOf (sub B p)).toList.drop 0) a w)(hd:Cu (sub B p)=az aD:=by kernel_rfl):(sub B p).wp P Q a w:=by
 cases hc:sub B p<;>rw[hc] at hd<;>first|(cases hd;done)|skip
 rename_i id ops d;simp only[Cu,cr] at hd;subst hd;rw[hc] at k;exact wp_region_list k
theorem uz {ops:aq bf}{C:aN->Prop}{K:Act->Prop}{rest:aa bf}:∀(l:aa bf) (a:Act) (w:aN),C w->wpQuiet P ops C K l a->(∀a' w',C w'->K a'->wpList P ops Q rest a' w')->wpList P ops Q (l++rest) a w
 |[],a,w,hw,h,k=>k a w hw h
 |o::l,a,w,hw,h,k=>by
  simp only[wpQuiet] at h;simp only[eC,wpList];split
  .rename_i Wf;rw[aQ Wf] at h;exact .inl (Oper.wp_of_quiet hw (λa' w' Bc hK=>uz l a' w' Bc hK k) h)
  rename_i Wf;rw[aP Wf] at h;exact uz l _ w hw h k
theorem af0 {ops:aq bf}{n i m:ah}{env wv:Env}{pr:Prop}(n9:aa (ah×aO))(keep:aa (ah×aO))(ha:kP n a env)
  (h:ER P (On w) n ops n9 ((ops.toList.drop i).take m) env=az (wv,pr)) (hk:∀x∈keep,look wv x.1=az ⟨x.1,[],x.2⟩) (hp:pr)
  (k:∀a' w',kP n a' (lY keep)->Below w.heap.size w w'->wpList P ops Q (ops.toList.drop (i+m)) a' w'):wpList P ops Q (ops.toList.drop i) a w:=by
 have:=uz (P:=P) (Q:=Q) (rest:=ops.toList.drop (i+m)) (K:=λa'=>kP n a' (lY keep)) ((ops.toList.drop i).take m) a w (On.self w) (ES ha h hp λa' ha'=>JJ keep ha' hk) (λa' w' Bc ha'=>k a' w' ha' Bc);rw[<-apf,eW] at this;exact this
theorem oe {ops:aq bf}{i:ah}(k:Q .normal a w)(h:aE (ops.size<=i)=aC:=by kernel_rfl):wpList P ops Q (ops.toList.drop i) a w:=by
 rw[an8 (by simpa using bq h)];exact k
def TW (ops:aq bf)(i:ah):ai (Op×ai Tmp×ai (ah×ak)):=(ops.toList[i]?).map λo=>(o.op,o.dst,o.guard)
theorem Q5 {ops:aq bf}{i:ah}{op:Op}{dst:ai Tmp}{R:Act->aN->Prop}(h:TW ops i=az (op,dst,aA))
  (k:∀o:bf,o.op=op->o.dst=dst->o.wp P a w R Q):wpOp P ops Q i R a w:=by
 obtain⟨o,ho,he⟩:=bF.1 h;simp only[cW] at he;have⟨h1,h2,h3⟩:=he;have LM:ops[i]?=az o:=by simpa using ho
 unfold wpOp;simp only[LM,dh,h3,if_true];exact .inl (k o h1 h2)
theorem rC {ops:aq bf}(i:ah)(h:wpOp P ops Q i (wpList P ops Q (ops.toList.drop (i+1))) a w)(hi:aE (i<ops.size)=aC:=by kernel_rfl):wpList P ops Q (ops.toList.drop i) a w:=by
 have Cx:i<ops.toList.length:=by rw[cU];exact bq hi
 rw[List.drop_eq_getElem_cons Cx];have ho:ops[i]?=az ops.toList[i]:=by simp[bN Cx]
 unfold wpOp at h;simp only[ho] at h;simp only[wpList];exact h
theorem abD {n d:ah}{v:aO}(keep:aa (ah×aO)){env:Env}(ha:kP n a env)(hd:d<n)(hk:∀x∈keep,x.1≠d/\look env x.1=az ⟨x.1,[],x.2⟩):kP n (a.put (az d) v) (lY ((d,v)::keep)):=by
 refine⟨by simp[eu,ha.1],ha.2.1,λe he=>?_⟩;obtain⟨x,hx,rfl⟩:=bz.1 he;rcases bg.1 hx with rfl|hx
 .have hs:(a.put (az d) v).tmps[d]?=az v:=by
   simp only[eu,anP,if_true];rw[aQ (by rw[ha.1];exact hd)]
  exact⟨λ_=>hs,λhn=>(hn (λl hl=>by simp at hl)).elim⟩
 obtain⟨h1,h2⟩:=hk x hx;have:=ha.2.2 _ (look_ok h2).1;exact zm (by simpa using h1) this
theorem m8 {fn:Func}{R:bY->aN->Prop}{n:ah}{env:Env}(t:ah)(v:aO)(ha:kP n a env)(k:R (.returned v) w)(hr:fn.results= #[.tmp t]:=by kernel_rfl)(hv:getOp env [] (.tmp t)=az v:=by kernel_rfl):aJ P fn R .ret a w:=by
 have yp:oK a []:=λl hl=>by simp at hl
 refine bodyPost_ret (v:=v) ?_ ha.2.1 k;rw[results_tmp hr];have:=nQ ha yp _ _ hv;simp only[dH] at this;rw[this]
theorem Q6 {fn:Func}{R:bY->aN->Prop}{n:ah}{env:Env}(t1 t2:ah)(v1 v2:aO)(ha:kP n a env)(k:R (.returned (.tuple #[v1,v2])) w)(hr:fn.results= #[.tmp t1,.tmp t2]:=by kernel_rfl)(hv1:getOp env [] (.tmp t1)=az v1:=by kernel_rfl)(hv2:getOp env [] (.tmp t2)=az v2:=by kernel_rfl):aJ P fn R .ret a w:=by
 have yp:oK a []:=λl hl=>by simp at hl
 refine bodyPost_ret (v:=.tuple #[v1,v2]) ?_ ha.2.1 k;rw[results_tmp2 hr];have h1:=nQ ha yp _ _ hv1;have h2:=nQ ha yp _ _ hv2;simp only[dH] at h1 h2;rw[h1,h2]
theorem enter {f:bI}(fn:Func)(n:ah){args:aa aO}{R:bY->aN->Prop}(hf:P.funcs[f]?=az fn)
  (k:∀a,kP n a (lY ((List.range args.length).zip args))->(sub (fn.body.getD .skip) []).wp P (aJ P fn R) a w) (hb:fn.body.isSome=aC:=by kernel_rfl) (hn:fn.ntmps=n:=by kernel_rfl) (hl:aE (args.length<=n)=aC:=by kernel_rfl):aI P f args.toArray w R:=by
 obtain⟨B,hb⟩:=bS.1 hb;rw[hb] at k;have hl:=bq hl;refine calls_of_wp hf hb ?_;rw[<-Q4 B];refine k _ ⟨?_,rfl,λe he=>?_⟩
 .simp;omega
 obtain⟨x,hx,rfl⟩:=bz.1 he;obtain⟨j,hj,rfl⟩:=anL hx;have Wg:j<args.length:=by simp at hj;exact hj
 refine⟨λ_=>?_,λhn=>(hn (λl hl=>by simp at hl)).elim⟩;simp only[List.getElem_zip,List.getElem_range];rw[Array.getElem?_append_left (by simpa using Wg)];simp[Wg]
end
def aeD (P:aY)(W:aN->Prop)(n:ah)(ops:aq bf)(n9:aa (ah×aO))(l:aa bf)(env:Env)(keep:aa (ah×aO))(pr:Prop):Prop:=
 ∃wv,ER P W n ops n9 l env=az (wv,pr)/\∀x∈keep,look wv x.1=az ⟨x.1,[],x.2⟩
theorem EU {env:Env}:∀ {keep:aa (ah×aO)},(keep.map λx=>look env x.1)=(keep.map λx=>az ⟨x.1,[],x.2⟩)->∀x∈keep,look env x.1=az ⟨x.1,[],x.2⟩
 |[],_,x,hx=>by simp at hx
 |y::r,h,x,hx=>by
  simp only[bO,List.cons.injEq] at h;rcases bg.1 hx with rfl|hx
  .exact h.1
  exact EU h.2 x hx
abbrev Bk (P:aY)(W:aN->Prop)(n:ah)(ops:aq bf)(n9:aa (ah×aO))(l:aa bf)(env:Env)(keep:aa (ah×aO))(pr:Prop):Prop:=
 (ER P W n ops n9 l env).map (λr=>((keep.map λx=>look r.1 x.1),r.2))=az ((keep.map λx=>az ⟨x.1,[],x.2⟩),pr)
theorem EV {P:aY}{W:aN->Prop}{n:ah}{ops:aq bf}{n9:aa (ah×aO)}{l:aa bf}{env:Env}{keep:aa (ah×aO)}{pr:Prop}
  (h:Bk P W n ops n9 l env keep pr):aeD P W n ops n9 l env keep pr:=by
 obtain⟨⟨wv,p⟩,h1,h2⟩:=bF.1 h;simp only[cW] at h2;obtain⟨h2,rfl⟩:=h2;exact⟨wv,h1,EU h2⟩
theorem tJ {P:aY} {f:bI} (h:(P.funcs[f]?).map (λfn=>((fn.name== "runtime.NumGoroutine")||fn.body.isNone))=az aD:=by kernel_rfl):uN P f:=by
 obtain⟨fn,h1,h2⟩:=bF.1 h;simp only[apg] at h2;exact⟨fn,h1,h2.1,h2.2⟩
abbrev VL (v:aO)(w:aN):bY->aN->Prop:=λe w'=>e= .returned v/\Below w.heap.size w w'
theorem wA {P:aY}{w:aN}{f:bI}{args:aq aO}{v:aO}(h:∀w',Below w.heap.size w w'->aI P f args w' (VL v w')):AD P (On w) f args v:=
 λw' Bc=>(h w' Bc).mono λe w'' ⟨he,hb⟩=>⟨he,Bc.trans (hb.mono Bc.size)⟩
theorem aiK {a b:aj}(h:(a.toList==b.toList)=aC):a=b:=by
 have:=beq_iff_eq.1 h;rw[ByteArray.toList_eq,ByteArray.toList_eq] at this;cases a;cases b
 congr 1
 exact cJ this
theorem nT {b:ak}(h:(!b)=aC):b=aD:=by simpa using h
theorem nF {b:ak}(h:(!b)=aD):b=aC:=by simpa using h
theorem aT {a b:ak}(h:(a && b)=aC):a=aC/\b=aC:=by simpa using h
theorem aF {a b:ak}(h:(a && b)=aD):a=aD\/b=aD:=by cases a<;>simp_all
theorem oT {a b:ak}(h:(a||b)=aC):a=aC\/b=aC:=by simpa using h
theorem oF {a b:ak}(h:(a||b)=aD):a=aD/\b=aD:=by simpa using h
section
variable {P:aY}{B:Code}{p:aa ah}{Q:oL}{a:Act}{w:aN}
theorem Q7 {ops:aq bf}{n:ah}{env:Env}{w0:Orig}{S:jv}{rs:aa sD}(i m:ah)(n9:aa (ah×aO))(keep:aa (ah×aO))(pr:Prop)(ha:kP n a env)(H:Fr w0 w S rs)(hp:pr)
  (h:aeD P (On w) n ops n9 ((ops.toList.drop i).take m) env keep pr)
  (k:∀a' w',kP n a' (lY keep)->Fr w0 w' S rs->Below w.heap.size w w'->wpList P ops Q (ops.toList.drop (i+m)) a' w'):wpList P ops Q (ops.toList.drop i) a w:=
 let⟨_,h1,h2⟩:=h
 af0 n9 keep ha h1 h2 hp λa' w' h1 h2=>k a' w' h1 (H.on h2) h2
theorem qS {ops:aq bf}{n:ah}{env:Env}{w0:Orig}{S:jv}{rs:aa sD}(i m:ah)(n9:aa (ah×aO))(keep:aa (ah×aO))(pr:Prop)(ha:kP n a env)(H:Fr w0 w S rs)(hp:pr)
  (k:∀a' w',kP n a' (lY keep)->Fr w0 w' S rs->Below w.heap.size w w'->wpList P ops Q (ops.toList.drop (i+m)) a' w')
  (h:Bk P (On w) n ops n9 ((ops.toList.drop i).take m) env keep pr:=by delta Bk;kernel_rfl):wpList P ops Q (ops.toList.drop i) a w:=
 Q7 i m n9 keep pr ha H hp (EV h) k
theorem q_reg {n:ah}{env:Env}{w0:Orig}{S:jv}{rs:aa sD}(n9:aa (ah×aO))(keep:aa (ah×aO))(pr:Prop)(ha:kP n a env)(H:Fr w0 w S rs)(hp:pr)
  (k:∀a' w',kP n a' (lY keep)->Fr w0 w' S rs->Below w.heap.size w w'->Q .normal a' w') (hd:Cu (sub B p)=az aD:=by kernel_rfl)
  (h:Bk P (On w) n (opsOf (sub B p)) n9 (opsOf (sub B p)).toList env keep pr:=by delta Bk;kernel_rfl):(sub B p).wp P Q a w:=by
 refine nD ?_ hd;refine Q7 0 (opsOf (sub B p)).toList.length n9 keep pr ha H hp ?_ λa' w' h1 h2 h3=>?_
 .rw[aoh,cg];exact EV h
 exact oe (k a' w' h1 h2 h3) (by simp)
theorem jV {n:ah}{env:Env}{w0:Orig}{S:jv}{rs:aa sD}(keep:aa (ah×aO))(ha:kP n a env)(H:Fr w0 w S rs)
 (k:∀a' w',kP n a' (lY keep)->Fr w0 w' S rs->Below w.heap.size w w'->Q .normal a' w') (hd:Cu (sub B p)=az aD:=by kernel_rfl)
 (h:Bk P (On w) n (opsOf (sub B p)) [] (opsOf (sub B p)).toList env keep av:=by delta Bk;kernel_rfl):(sub B p).wp P Q a w:=q_reg [] keep av ha H tv k hd h
abbrev uP (n d:ah)(env:Env)(keep:aa (ah×aO)):Prop:=(aE (d<n),keep.map λx=>(x.1 !=d,look env x.1))=(aC,keep.map λx=>(aC,az ⟨x.1,[],x.2⟩))
theorem Bl {n d:ah}{v:aO}{o:bf}(keep:aa (ah×aO)){env:Env}(ha:kP n a env)(pM:o.dst=az d)(hk:uP n d env keep):kP n (a.put o.dst v) (lY ((d,v)::keep)):=by
 rw[pM];obtain⟨hd,hk⟩:=Prod.mk.inj hk;refine abD keep ha (bq hd) λy hy=>?_;have:=List.map_inj_left.1 hk y hy;simp only[cW,bne_iff_ne,ne_eq] at this;exact this
theorem nJ {n:ah}{env:Env}(keep:aa (ah×aO))(ha:kP n a env)(h:(keep.map λx=>look env x.1)=(keep.map λx=>az ⟨x.1,[],x.2⟩):=by kernel_rfl):kP n a (lY keep):=
 JJ keep ha (EU h)
theorem Ef {ops:aq bf}{N:Act->aN->Prop}{n:ah}{env:Env}(i d:ah)(t:aV)(x:bu)(s:aj){w0:Orig}{S:jv}{rs:aa sD}(keep:aa (ah×aO))(ha:kP n a env)(H:Fr w0 w S rs)
  (ht:P.underlying t=az .string)
  (k:∀b a' w',Fr w0 w' S (.iter b s 0::rs)->kP n a' (lY ((d,.pointer (az ⟨b,0,aA⟩))::keep))->Below w.heap.size w w'->w.heap.size<=b->N a' w')
  (h:TW ops i=az (.range t x,az d,aA):=by kernel_rfl) (hx:getOp env [] x=az (.string s):=by kernel_rfl) (hk:uP n d env keep:=by delta uP;kernel_rfl):wpOp P ops Q i N a w:=by
 refine Q5 h λo ho pM=>?_;have e:(aG a.eval o).run P w= .ok (.value (.pointer (az ⟨w.heap.size,0,aA⟩))) (w.iter s 0):=by
  simp only[aG,ho,nQ ha (λl hl=>by simp at hl) _ _ hx,bw,run_range_string w t s ht];rfl
 unfold Oper.wp;rw[e,aob];exact k w.heap.size _ _ (H.abB s) (Bl keep ha pM hk) (qC _ _) (aW _)
theorem JK {ops:aq bf}{N:Act->aN->Prop}{n:ah}{env:Env}{w0:Orig}{S:jv}{rs:aa sD}(i d:ah)(x:bu)(j b:ah)(s:aj)(pos:ah)(keep:aa (ah×aO))(ha:kP n a env)(H:Fr w0 w S rs)
  (hj:rs[j]?=az (.iter b s pos))
  (kt:pos<s.size->∀a' w',Fr w0 w' S (rs.set j (.iter b s (pos+(bn s pos).2)))->kP n a' (lY ((d,.tuple #[.bool aC,.int .i64 pos,.int .i32 (bn s pos).1])::keep))->w.grownBy w' (az b)->N a' w')
  (kf:¬pos<s.size->∀a',kP n a' (lY ((d,.tuple #[.bool aD])::keep))->N a' w)
  (h:TW ops i=az (.next x aC,az d,aA):=by kernel_rfl) (hx:getOp env [] x=az (.pointer (az ⟨b,0,aA⟩)):=by kernel_rfl) (hk:uP n d env keep:=by delta uP;kernel_rfl):wpOp P ops Q i N a w:=by
 refine Q5 h λo ho pM=>?_;have hit:=H.Q0 j hj;have aiL:∀ {v:aO},kP n (a.put o.dst v) (lY ((d,v)::keep)):=by
  intro v;exact Bl keep ha pM hk
 unfold Oper.wp
 by_cases hp:pos<s.size
 .have e:(aG a.eval o).run P w= .ok (.value (.tuple #[.bool aC,.int .i64 pos,.int .i32 (bn s pos).1])) (w.iterAt b s (pos+(bn s pos).2)):=by
   simp only[aG,ho,nQ ha (λl hl=>by simp at hl) _ _ hx,bw,Lib.run_next_any_at w b s pos o.type hit hp];rfl
  rw[e,aob];exact kt hp _ _ (H.next j hj _) aiL ⟨rfl,rfl,rfl,by rw[aqt];exact aW _,λk hk qD=>aqu w b k s _ (λe=>qD (by rw[e]))⟩
 have e:(aG a.eval o).run P w= .ok (.value (.tuple #[.bool aD])) w:=by
  simp only[aG,ho,nQ ha (λl hl=>by simp at hl) _ _ hx,bw,Lib.run_next_end_at w b s pos o.type hit hp];rfl
 rw[e,aob];exact kf hp _ aiL
end
theorem oS (s:aj)(pos:ah)(h:pos<s.size):1<=(bn s pos).2:=by
 by_cases ha:(s[pos]'h).toNat<128
 .rw[decode_ascii s pos h ha];exact aW _
 exact(decode_high s pos h (by omega)).2
section
variable {P:aY}
theorem Bn {t:aV}{s:aj}{k k':dX}{l h:af}(ht:P.underlying t=az .string)(w:aN)(h0:0<=l)(h1:l<=h)(h2:h<=s.size):
  (cX t (.string s) (az (.int k l)) (az (.int k' h)) aA).run P w= .ok (.string (s.extract l.toNat h.toNat)) w:=by
 have a:(apM (.int k' h) s.size .sliceAlen).run P w= .ok h.toNat w:=run_sliceBound _ _ _ _ _ (by omega) h2;have b:(apM (.int k l) h.toNat .sliceB).run P w= .ok l.toNat w:=run_sliceBound _ _ _ _ _ h0 (by omega);simp[cX,aoo,aH ht,aop,a,b]
theorem Du {t:aV}{s:aj}{k:dX}{l:af}(ht:P.underlying t=az .string)(w:aN)(h0:0<=l)(h1:l<=s.size):
  (cX t (.string s) (az (.int k l)) aA aA).run P w= .ok (.string (s.extract l.toNat s.size)) w:=by
 have b:(apM (.int k l) s.size .sliceB).run P w= .ok l.toNat w:=run_sliceBound _ _ _ _ _ h0 h1;simp[cX,aoo,aH ht,aop,b]
theorem Fr.drop {w0:Orig}{w:aN}{S:jv}{rs:aa sD}(h:Fr w0 w S rs)(i:ah):Fr w0 w S (rs.eraseIdx i) where
 below:=h.below
 src:=h.src
 pT:=h.pT
 ok r hr:=h.ok r (aqG hr)
 own r hr:=h.own r (aqG hr)
 nodup:=List.Nodup.sublist ((List.eraseIdx_sublist rs i).filterMap _) h.nodup
theorem Fr.perm {w0:Orig}{w:aN}{S:jv}{rs rs':aa sD}(h:Fr w0 w S rs)(hp:rs.Perm rs'):Fr w0 w S rs' where
 below:=h.below
 src:=h.src
 pT:=h.pT
 ok r hr:=h.ok r (hp.mem_iff.2 hr)
 own r hr:=h.own r (hp.mem_iff.2 hr)
 nodup:=(hp.filterMap _).nodup_iff.1 h.nodup
theorem Fr.swap {w0:Orig}{w:aN}{S:jv}{a b:sD}{rs:aa sD}(h:Fr w0 w S (a::b::rs)):Fr w0 w S (b::a::rs):=h.perm (aqH b a rs)
variable {B:Code}{p:aa ah}{Q:oL}{a:Act}{w:aN}
theorem aeE {ops:aq bf}{N:Act->aN->Prop}{n:ah}{env:Env}{w0:Orig}{S:jv}{rs:aa sD}(i d:ah)(t len:ah)(parts:aq (ah×bu))(e:aV)(JD:aa (ah×aO))(cs:aa aO)(keep:aa (ah×aO))(ha:kP n a env)(H:Fr w0 w S rs)
  (k:∀b a' w',Fr w0 w' S (.box b e cs::rs)->kP n a' (lY ((d,.slice (az ⟨b,0,aA⟩) len len)::keep))->Below w.heap.size w w'->w.heap.size<=b->N a' w')
  (h:TW ops i=az (.buildSlice t len parts,az d,aA):=by kernel_rfl) (hv:parts.toList.mapM (λx=>(getOp env [] x.2).map λv=>(x.1,v))=az JD:=by kernel_rfl)
  (kT:∀w:aN,(aqI t len JD.toArray).run P w= .ok (.slice (az ⟨w.heap.size,0,aA⟩) len len) (w.alloc (.cells cs.toArray e)):=by intro w;kernel_rfl)
  (hk:uP n d env keep:=by delta uP;kernel_rfl):wpOp P ops Q i N a w:=by
 refine Q5 h λo ho pM=>?_;have e1:parts.map (λx=>(x.1,a.eval x.2))=JD.toArray:=by
  have:=EO (ρ:=a.eval) (λx u hx=>nQ ha (λl hl=>by simp at hl) x u hx) parts.toList JD hv;rw[<-this];apply cJ;rw[dZ]
 have e2:(aG a.eval o).run P w= .ok (.value (.slice (az ⟨w.heap.size,0,aA⟩) len len)) (w.alloc (.cells cs.toArray e)):=by
  have:=kT w;rw[<-e1] at this;simp only[aG,ho,bw];rw[show(Array.map (λx=>match x with|(i,x)=>(i,a.eval x)) parts)=parts.map (λx=>(x.1,a.eval x.2)) from rfl,this];rfl
 unfold Oper.wp;rw[e2,aob];exact k w.heap.size _ _ (H.afU cs e) (Bl keep ha pM hk) (qC _ _) (aW _)
theorem Wh {ops:aq bf}{N:Act->aN->Prop}{n:ah}{env:Env}{t e:aV}{α:Type}[Data α]{bytes:ah}{w0:Orig}{S:jv}{rs:aa sD}(i d:ah)(x y:bu)(j q b m c:ah)(v:aO)(l:aa α)(news:aa α)(cs:aa aO)(keep:aa (ah×aO))(ha:kP n a env)(H:Fr w0 w S rs)
  (E:G8 P t e (Data.size α) bytes)
  (hj:rs[j]?=az (.row e v l)) (hq:rs[q]?=az (.box b e cs)) (pg:kR S w cs news) (hm:m=news.length)
  (hlen:l.length+news.length<=2147483647) (hb:bytes<=1000)
  (k:∀v' a' w',Fr w0 w' S (rs.set j (.row e v' (l++news)))->kP n a' (lY ((d,v')::keep))->w.grownBy w' v.ownBlock->N a' w')
  (h:TW ops i=az (.call {callee:=.builtin .append,args:= #[x,y],argTypes:= #[t,t]},az d,aA):=by kernel_rfl) (hx:getOp env [] x=az v:=by kernel_rfl) (hy:getOp env [] y=az (.slice (az ⟨b,0,aA⟩) m c):=by kernel_rfl)
  (hk:uP n d env keep:=by delta uP;kernel_rfl):wpOp P ops Q i N a w:=by
 subst hm;refine Q5 h λo ho pM=>?_;have yp:oK a []:=λl hl=>by simp at hl
 have Bo:w.heap[b]?=az (.cells cs.toArray e (0,0)):=H.ok _ (cn hq);have yB:∀r u,cs[r]?=az u->w.cell? ((⟨b,0,aA⟩:ck).add r)=az u:=by
  intro r u hu;have JF:(⟨b,0,aA⟩:ck).add r=⟨b,r,aA⟩:=by unfold Addr.add;split<;>simp_all
  rw[JF,aK _ _ _ _ _ _ Bo];simpa using hu
 obtain⟨v',w',hr,hf,hG⟩:=H.push (P:=P) (ty:=o.type) E j hj ⟨b,0,aA⟩ c news cs pg yB (by simp only[maxLen];omega) (by have:=Nat.mul_le_mul hlen hb;omega);unfold Oper.wp aG;simp only[ho,resolve,invoke,builtin,bw,bZ,cG,aoq,bO,cC,nQ ha yp _ _ hx,nQ ha yp _ _ hy,hr];exact k v' _ w' hf (Bl keep ha pM hk) hG
end
class Flat (α:Type) extends Data α where
 enc:α->aa aO
 fix:∀ {S w cs a},toData.rd S w cs a->cs=enc a
instance:Flat af:={(inferInstance:Data af) with enc:=λn=>[.int .i64 n],fix:=λh=>h}
instance:Flat ak:={(inferInstance:Data ak) with enc:=λn=>[.bool n],fix:=λh=>h}
instance:Flat aj:={(inferInstance:Data aj) with enc:=λn=>[.string n],fix:=λh=>h}
instance {α β:Type} [Flat α] [Flat β]:Flat (α×β):=
 {(inferInstance:Data (α×β)) with
  enc:=λx=>Flat.enc x.1++Flat.enc x.2
  fix:=by rintro S w cs a ⟨c1,c2,rfl,h1,h2⟩;rw[Flat.fix h1,Flat.fix h2]}
abbrev He (o:Orig)(R:jv->aO->aN->Prop):bY->aN->Prop:=λe w'=> ∃v,e= .returned v/\R (yA o w') v w'/\Below o.w.heap.size o.w w'
section
variable {P:aY}{Q:oL}{a:Act}{w:aN}
end
open Go.ChangeAt Go.ChangeShapes Go.WideShapes
theorem Tryz.own:ownKnob Tryz.prog.godebug=aA:=by kernel_rfl
theorem Tryz.laidOut:laidOutB aR=aC:=by kernel_rfl
theorem Hf {H:Type}{enc:aV×aO->H}{P:aY}{f:Func}{s:ChangeSpec}{apart fresh handsOn:ak}{W W':aN}{args:aq aO}{v:aO}{ds gs:aa (DataW H)}{before pa pv:aa MemPlace}
  (hW:DataW.Whole enc P f.params.toList s.vars apart W args.toList ds gs before)
  (vS:∀(b:ah) (sp:ah->ak) (hd:ak),aqJ enc P W' b sp hd f.resultTypes.toList (v.resultList f.resultTypes.size) (s.fn H (ds++gs)).results [])
  (mg:aqJ enc P W' 0 (λb=>aE (b<W.heap.size)) aC f.params.toList args.toList (s.fn H (ds++gs)).args pa)
  (aiM:DataW.TrodVars enc P W' (λb=>aE (b<W.heap.size)) s.vars (s.fn H (ds++gs)).vars pv)
  (Ma:before=pa++pv) (hb:Below W.heap.size W W'):s.post enc P f apart fresh handsOn aD W args v W':=by
 refine⟨ds,gs,before,[],pa,pv,hW,vS _ _ _,mg,aiM,World.keptBut_mono (λp hp=>⟨hp,?_⟩) (hb.frame (· ∈before)),λh=>by cases h⟩;rw[Ma,bE] at hp;exact Or.inr hp
theorem af3 {P:aY}{ats:aq aV}{k:dX}{a b:af}(ty:aV)(w:aN):(ao9 ats ty [.int k a,.int k b].toArray).run P w= .ok (.int k (max a b)) w:=by
 have e:(if b>a then b else a)=max a b:=by split<;>omega
 simp[ao9,Builtin.max2,e]
theorem af4 {P:aY}{ats:aq aV}{k:dX}{a b:af}(ty:aV)(w:aN):(apa ats ty [.int k a,.int k b].toArray).run P w= .ok (.int k (min a b)) w:=by
 have e:(if b<a then b else a)=min a b:=by split<;>omega
 simp[apa,Builtin.min2,e]
theorem abE {a:af}{n:ah}(h:1<=n):0<=(1:af)/\a.fdiv (2 ^ (min (1:af).toNat n))=a/2:=by
 refine⟨by decide,?_⟩;rw[show min (1:af).toNat n=1 by omega];exact Int.fdiv_eq_ediv_of_nonneg a (by decide)
theorem af5 {w:aN}{o:Orig}{S:jv}{rs:aa sD}(H:Fr o w S rs)(j:ah){b:ah}{t:aV}{vs:aa aO}(hj:rs[j]?=az (.box b t vs)):
  ∀w',On w w'->w'.heap[b]?=az (.cells vs.toArray t (0,0)):=by
 intro w' Bc;have h:w.heap[b]?=az (.cells vs.toArray t (0,0)):=H.ok _ (cn hj);rw[Bc.block b (H.own _ (cn hj) b rfl).2.1];exact h
theorem Bp {w:aN}{o:Orig}{S:jv}{rs:aa sD}(H:Fr o w S rs)(j:ah){b:ah}{t:aV}{vs:aa aO}(hj:rs[j]?=az (.box b t vs))(i:ah){u:aO}(hu:vs[i]?=az u:=by kernel_rfl):xy (On w) b i u:=by
 intro w' Bc;rw[aK w' b i _ t _ (af5 H j hj w' Bc)];simpa using hu
section
variable {P:aY}{Q:oL}{a:Act}{w:aN}
theorem x9 (w:aN)(t e:aV)(b o:ah)(vs us:aa aO)(u:aO)(hb:w.heap[b]?=az (.cells vs.toArray e (0,0)))(hc:u.cells.toList=us)(ho:o+us.length<=vs.length)
  (oC:(P.info? t).map (·.size)=az us.length) (h1:∀v∈us,v.oneCell'=aC):
  (api t (.pointer (az ⟨b,o,aA⟩)) u).run P w= .ok () (w.setRow b (vs.take o++us++vs.drop (o+us.length)).toArray):=by
 obtain⟨i,hi,hs⟩:=bF.1 oC;have kO:u.cells.size=us.length:=by rw[<-hc,cU]
 have TX:P.cellsOf t=us.length:=by simp[aoH,hi,hs]
 have:=run_storeCells_at (P:=P) b o e us 0 vs.toArray w hb (by simpa using ho) h1;simp only[eH] at this;simp only[api,aoI,storeVar,bw,bZ,cG,run_sizeOf w hi,hs,kO,TX,ne_eq,not_true_eq_false,if_false,hc];exact this
end
section
variable {P:aY}{ops:aq bf}{Q:Exit->Act->aN->Prop}{D:aN->Prop}
end
section
variable {P:aY}{B:Code}{p:aa ah}{Q:Exit->Act->aN->Prop}{a:Act}{w:aN}
end
theorem HV {α:Type}[Data α]{T:jv}{C:aN->Prop}{w:aN}{v:aO}{l:aa α}(hC:∀w',C w'->nC T w w')(h:Rd T w v l){i:af}(h0:0<=i)(h1:i<(aM l:af))(d:α):
  ∃cs,Data.rd T w cs (l.getD i.toNat d)/\∀j,j<Data.size α->∀w',C w'->w'.cell? ⟨OP v,OQ v+i.toNat*Data.size α+j,aA⟩=cs[j]?:=by
 obtain⟨p,c,rfl,_,_,h3⟩:=lz h;rcases h3 with rfl|⟨g,off,cur,t,fz,rfl,hg,hw,hc⟩
 .simp at h1;omega
 have hi:i.toNat<l.length:=by omega
 obtain⟨cs,hr,hj⟩:=hc i.toNat hi;refine⟨cs,?_,λj Wg w' Bc=>?_⟩
 .rw[bD,bN hi];exact hr
 show w'.cell? ⟨g,off+i.toNat*Data.size α+j,aA⟩=_;rw[aK w' g _ cur t fz ((hC w' Bc g hg).trans hw)];exact hj j Wg
section
variable {P:aY}{Q:Exit->Act->aN->Prop}{a:Act}{w:aN}
end
section
variable {P:aY}{Q:oL}{a:Act}{w:aN}
end
theorem O8 {α:Type}[Data α]{S:jv}{w:aN}:Rd S w (.slice aA 0 0) ([]:aa α):=
 tF ⟨aA,0,rfl,by simp,by simp[maxLen],.inl rfl⟩
section
variable {P:aY}{Q:oL}{a:Act}{w:aN}
end
section
variable {H:Type}{enc:aV×aO->H}{P:aY}{w:aN}{base:ah}{spare:ah->ak}{held:ak}
end
section
variable {P:aY}{Q:Exit->Act->aN->Prop}{a:Act}{w:aN}
end
theorem Wi {P:aY}{fn:Func}{R:bY->aN->Prop}{n:ah}{env:Env}{a:Act}{w:aN}(ha:kP n a env)(k:R (.returned (.tuple #[])) w)(hr:fn.results= #[]:=by kernel_rfl):aJ P fn R .ret a w:=by
 refine bodyPost_ret (v:=.tuple #[]) ?_ ha.2.1 k;simp[results,hr]
theorem HW {P:aY}{fn:Func}{R:bY->aN->Prop}{n:ah}{env:Env}{a:Act}{w:aN}(ha:kP n a env)(k:R (.returned (.tuple #[])) w)(hr:fn.results= #[]:=by kernel_rfl):aJ P fn R .normal a w:=by
 have:=Wi (P:=P) ha k hr;exact this
def Rv (v:aO):ai (DataW aO×aa MemPlace):=az (.held v,[])
def wfI (x:af):Prop:= -9223372036854775808<=x/\x<=9223372036854775807
theorem aiN {x:af}(h:wfI x):(aoM .i64 x).wf=aC:=by
 have:=h.1;have:=h.2;simp only[Lit.wf,apN,ao7,aqv,aqw];simp;omega
section
variable {P:aY}{B:Code}{p:aa ah}{Q:oL}{a:Act}{w:aN}
end
section
variable {P:aY}{Q:Exit->Act->aN->Prop}{a:Act}{w:aN}
end
structure Raw where
 v:aO
instance:Data Raw where
 size:=1
 isAgg:=aD
 rd _ _ cs x:=cs=[x.v]/\x.v.oneCell'=aC
 len h:=by rw[h.1];rfl
 up _ h:=h
 keep _ h:=h
 one h u hu:=by rw[h.1] at hu;simp at hu;subst hu;exact h.2
section
variable {P:aY}{o:Orig}{w:aN}{S:jv}{rs:aa sD}{kt et t:aV}
end
section
variable {P:aY}{Q:Exit->Act->aN->Prop}{a:Act}{w:aN}
end
section
variable {P:aY}{Q:Exit->Act->aN->Prop}{a:Act}{w:aN}
end
section
variable {P:aY}{Q:oL}{a:Act}{w:aN}
end
inductive Kc where
 |int
 |str
def ko:Kc->Type
 | .int=>af
 | .str=>aj
instance anh:(k:Kc)->DecidableEq (ko k)
 | .int=>(inferInstance:DecidableEq af)
 | .str=>(inferInstance:DecidableEq aj)
def pn:(k:Kc)->ko k->aO
 | .int,n=>.int .i64 n
 | .str,s=>.string s
def mD:(k:Kc)->ko k->Lit
 | .int,n=>.int .i64 n
 | .str,s=>.string s.data.toList
def qV:Kc->TypeDesc
 | .int=>.int .i64
 | .str=>.string
def nv:(k:Kc)->ko k->Prop
 | .int,n=>wfI n
 | .str,s=>ByteArray.size s<=maxLen
def ilt (a b:af):ak:=aE (a<b)
def Wj:(k:Kc)->ko k->ko k->ak
 | .int,a,b=>ilt a b
 | .str,a,b=>bytesBefore a.data.toList b.data.toList
theorem Wk:∀(k:Kc) (a b:ko k),(mD k a).before (mD k b)=Wj k a b
 | .int,_,_=>rfl
 | .str,_,_=>rfl
theorem Mb:∀(k:Kc) {a b:ko k},mD k a=mD k b->a=b
 | .int,a,b,h=>by cases h;rfl
 | .str,a,b,h=>by
  have h:aqL a.data.toList= .string b.data.toList:=h;have h2:=arZ h;obtain⟨⟨a⟩⟩:=a;obtain⟨⟨b⟩⟩:=b;have h2:a=b:=h2;subst h2;rfl
theorem zn (k:Kc)(a b:ko k):(mD k a).sameKey (mD k b)=aE (a=b):=by
 by_cases e:a=b
 .subst e;rw[cT rfl];cases k
  .have h:∀n:af,(aoM .i64 n).sameKey (.int .i64 n)=aC:=λn=>by simp[Lit.sameKey]
   exact h a
  exact beq_self_eq_true _
 rw[cV e];exact aqM.2 λq=>e (Mb k (WideAt.sameKey_eq q))
def Hg:Kc->aO->ai Lit
 | .int,.int q n=>if q= .i64/\(aoM .i64 n).wf=aC then az (.int .i64 n) else aA
 | .str,.string s=>if s.size<=maxLen then az (.string s.data.toList) else aA
 |_,_=>aA
section
variable {P P':aY}{kt LN et t:aV}{k:Kc}
theorem zo (h:P.underlying kt=az (qV k)):keyOf P kt=Hg k:=by
 funext v;cases k
 .have h:P.underlying kt=az (.int .i64):=h;cases v<;>simp[keyOf,mapKey,h,Hg]
 have h:P.underlying kt=az .string:=h;cases v<;>simp[keyOf,mapKey,h,Hg]
theorem xz (h:P.underlying kt=az (qV k)):Maps.Keyed P kt:=by
 cases k
 .exact Maps.int_keyed h
 exact Maps.string_keyed h
theorem xA (h:P.underlying kt=az (qV k)){x:ko k}(hw:nv k x):keyOf P kt (pn k x)=az (mD k x):=by
 rw[zo h];cases k
 .have h:∀n:af,wfI n->Hg .int (.int .i64 n)=az (.int .i64 n):=λn hn=>by unfold Hg;exact aQ ⟨rfl,aiN hn⟩
  exact h x hw
 have h:∀s:aj,s.size<=maxLen->Hg .str (.string s)=az (.string s.data.toList):=λn hn=>by unfold Hg;exact aQ hn
 exact h x hw
theorem Wl {v:aO}{l:Lit}(h:Hg k v=az l):∃x:ko k,v=pn k x/\l=mD k x/\nv k x:=by
 cases k
 .have key:∀v:aO,Hg .int v=az l->∃n:af,v= .int .i64 n/\l= .int .i64 n/\wfI n:=by
   intro v h;cases v with
   |int q n=>
    have h:(if q= .i64/\(aoM .i64 n).wf=aC then az (aoM .i64 n) else aA)=az l:=h;split at h
    .rename_i hq;cases h;obtain⟨rfl,hw⟩:=hq;refine⟨n,rfl,rfl,?_⟩;have hw:(aE (apN .i64<=n) && aE (n<=ao7 .i64))=aC:=hw;simp only[bB,decide_eq_true_eq] at hw;have h1:apN .i64= -9223372036854775808:=by decide
     have h2:ao7 .i64=9223372036854775807:=by decide
     rw[h1,h2] at hw;exact hw
    cases h
   |_=>cases h
  exact key v h
 have key:∀v:aO,Hg .str v=az l->∃s:aj,v= .string s/\l= .string s.data.toList/\s.size<=maxLen:=by
  intro v h;cases v with
  |string s=>
   have h:(if s.size<=maxLen then az (aqL s.data.toList) else aA)=az l:=h;split at h
   .rename_i hq;cases h;exact⟨s,rfl,rfl,hq⟩
   cases h
  |_=>cases h
 exact key v h
end
section
variable {k:Kc}{α β:Type}
def jo (l:aa (ko k×α))(x:ko k):ai α:=(l.find? λp=>aE (p.1=x)).map (·.2)
def rP (l:aa (ko k×α))(x:ko k):aa (ko k×α):=l.filter λp=>!decide (p.1=x)
def sQ (p:ko k×α):aa (ko k×α)->aa (ko k×α)
 |[]=>[p]
 |y::r=>if Wj k p.1 y.1 then p::y::r else y::sQ p r
def nG (l:aa (ko k×α))(x:ko k)(v:α):aa (ko k×α):=sQ (x,v) (rP l x)
def rX (l:aa (ko k×aO)):DataW aO:=.map (l.map λp=>(mD k p.1,.held p.2))
theorem Mc (p:ko k×aO):∀l:aa (ko k×aO),(sQ p l).map (λp=>(mD k p.1,anQ p.2))=apO (mD k p.1,.held p.2) (l.map λp=>(mD k p.1,anQ p.2))
 |[]=>rfl
 |y::r=>by
  simp only[sQ,bO,apO,Wk];split
  .rfl
  rw[bO,Mc p r]
theorem Q8 (l:aa (ko k×aO))(x:ko k):(rX l).del (mD k x)=rX (rP l x):=by
 unfold rX DataW.del rP;simp only[aqN]
 congr 2
 refine List.filter_congr λp _=>?_;simp only[Function.comp_apply,zn]
theorem abF (l:aa (ko k×aO))(x:ko k)(v:aO):(rX l).put (mD k x) (.held v)=rX (nG l x v):=by
 have h:(rX l).put (mD k x) (.held v)= .map (apO (mD k x,.held v) ((l.map λp=>(mD k p.1,anQ p.2)).filter λp=>!p.1.sameKey (mD k x))):=rfl;have h2:(rX l).del (mD k x)= .map ((l.map λp=>(mD k p.1,anQ p.2)).filter λp=>!p.1.sameKey (mD k x)):=rfl;rw[Q8] at h2;have h3:=ar0 h2;rw[h,<-h3];exact bh DataW.map (Mc (x,v) (rP l x)).symm
theorem O9 (l:aa (ko k×aO))(x:ko k)(z:DataW aO):(rX l).atKey (mD k x) z=match jo l x with|some v=>.held v|none=>z:=by
 unfold rX jo DataW.atKey;simp only[aqP];have:((λp:Lit×DataW aO=>p.1.sameKey (mD k x))∘λp:ko k×aO=>(mD k p.1,anQ p.2))=λp=>aE (p.1=x):=by
  funext p;exact zn k _ _
 rw[this];cases l.find? λp=>aE (p.1=x)<;>rfl
theorem Q9 (l:aa (ko k×aO))(x:ko k):aqQ (rX l) (mD k x)=(jo l x).isSome:=by
 unfold rX jo aqQ;simp only[List.any_map,Option.isSome_map,List.find?_isSome];rw[Bool.eq_iff_iff];simp[zn]
theorem EW (p:ko k×α):∀l:aa (ko k×α),(sQ p l).length=l.length+1
 |[]=>rfl
 |y::r=>by unfold sQ;split<;>simp[EW p r]
theorem uQ (l:aa (ko k×α))(x:ko k)(v:α):(nG l x v).length<=l.length+1:=by
 unfold nG rP;rw[EW];exact Nat.succ_le_succ (apj _ _)
theorem Md (l:aa (ko k×α))(x:ko k):(rP l x).length<=l.length:=apj _ _
theorem Me (f:α->β)(p:ko k×α):∀l:aa (ko k×α),(sQ p l).map (λq=>(q.1,f q.2))=sQ (p.1,f p.2) (l.map λq=>(q.1,f q.2))
 |[]=>rfl
 |y::r=>by
  simp only[sQ,bO];split;· rfl
  .rw[bO,Me f p r]
theorem EX (f:α->β)(l:aa (ko k×α))(x:ko k):(rP l x).map (λq=>(q.1,f q.2))=rP (l.map λq=>(q.1,f q.2)) x:=by
 unfold rP;rw[aqN];rfl
theorem tK (f:α->β)(l:aa (ko k×α))(x:ko k)(v:α):(nG l x v).map (λq=>(q.1,f q.2))=nG (l.map λq=>(q.1,f q.2)) x (f v):=by
 unfold nG;rw[Me,EX]
theorem oU (f:α->β)(l:aa (ko k×α))(x:ko k):jo (l.map λq=>(q.1,f q.2)) x=(jo l x).map f:=by
 unfold jo;rw[aqP];show aqR _ (aqR _ (l.find? λp=>aE (p.1=x)))=_;cases l.find? λp=>aE (p.1=x)<;>rfl
theorem EY {p q:ko k×α}:∀ {l:aa (ko k×α)},q∈sQ p l↔q=p\/q∈l
 |[]=>by simp[sQ]
 |y::r=>by
  unfold sQ;split
  .simp
  simp only[bg,EY (l:=r)];constructor
  .rintro(h|h|h)
   .exact .inr (.inl h)
   .exact .inl h
   exact .inr (.inr h)
  rintro(h|h|h)
  .exact .inr (.inl h)
  .exact .inl h
  exact .inr (.inr h)
theorem yC {l:aa (ko k×α)}{x:ko k}{v:α}{q:ko k×α}:q∈nG l x v↔q=(x,v)\/q∈l/\q.1≠x:=by
 unfold nG rP;rw[EY];simp
theorem qE {l:aa (ko k×α)}{x:ko k}{v:α}(h:jo l x=az v):(x,v)∈l:=by
 unfold jo at h;obtain⟨p,h1,h2⟩:=bF.1 h;have:=apb h1;have e:p.1=x:=by simpa using this
 subst e;subst h2;exact aqC h1
theorem AE {l:aa (ko k×α)}{x:ko k}:jo l x=aA↔∀v,(x,v)∉l:=by
 unfold jo;rw[aoJ,List.find?_eq_none];constructor
 .intro h v hm;have:=h _ hm;simp at this
 intro h p hp q;have e:p.1=x:=by simpa using q
 exact h p.2 (by rw[<-e];exact hp)
theorem HX (p:ko k×α)(x:ko k):∀l:aa (ko k×α),(∀q∈l,q.1≠p.1)->jo (sQ p l) x=if p.1=x then az p.2 else jo l x
 |[],_=>by unfold jo sQ;by_cases e:p.1=x<;>simp[e]
 |y::r,h=>by
  have ih:=HX p x r λq hq=>h q (List.mem_cons_of_mem _ hq);unfold sQ;split
  .unfold jo
   by_cases e:p.1=x
   .simp[e]
   simp[List.find?_cons,e]
  by_cases e2:y.1=x
  .have qD:p.1≠x:=λe=>h y (by simp) (e2.trans e.symm);rw[aP qD];unfold jo;simp[List.find?_cons,e2]
  have s1:jo (y::sQ p r) x=jo (sQ p r) x:=by unfold jo;simp[List.find?_cons,e2]
  have s2:jo (y::r) x=jo r x:=by unfold jo;simp[List.find?_cons,e2]
  rw[s1,s2,ih]
theorem HY (l:aa (ko k×α))(y x:ko k):jo (rP l y) x=if y=x then aA else jo l x:=by
 by_cases e:y=x
 .rw[aQ e,AE];intro v hm;unfold rP at hm;have:=(List.mem_filter.1 hm).2;simp[e] at this
 rw[aP e];unfold jo rP;rw[List.find?_filter]
 congr 2
 funext p
 by_cases q:p.1=x
 .have:¬x=y:=λh=>e h.symm;simp[q,this]
 simp[q]
theorem Cy (l:aa (ko k×α))(y x:ko k)(v:α):jo (nG l y v) x=if y=x then az v else jo l x:=by
 unfold nG;rw[HX _ _ _ (λq hq=>by have:=(List.mem_filter.1 hq).2;simpa using this),HY]
 by_cases e:y=x
 .rw[aQ e,aQ e]
 rw[aP e,aP e,aP e]
end
def nc (k:Kc)(w:aN)(b:ah)(l:aa (ko k×aO)):Prop:=∃P kt,P.underlying kt=az (qV k)/\w.ownsMap P kt Rv b l.length (rX l)
section
variable {P P':aY}{kt LN et t:aV}{k:Kc}{w w':aN}{b n:ah}{l:aa (ko k×aO)}
theorem TY (h:keyOf P kt=keyOf P' LN){D:DataW aO}(ho:w.ownsMap P kt Rv b n D):w.ownsMap P' LN Rv b n D:=by
 have⟨es,clock,hb,F,hs,hD⟩:=ho;have pg:WideElems.rd P kt Rv=WideElems.rd P' LN Rv:=by
  funext x;unfold WideElems.rd;rw[h]
 have hrg:WideElems.rg P kt Rv=WideElems.rg P' LN Rv:=by
  funext x;unfold WideElems.rg;rw[pg]
 exact⟨es,clock,hb,⟨F.size,F.stamped,by rw[<-pg];exact F.reads⟩,hs,by rw[<-hrg];exact hD⟩
theorem Wm {D:DataW aO}(ho:w.ownsMap P kt Rv b n D):w.ownsMap P kt Rv b (Maps.size D) D:=by
 obtain⟨es,clock,hb,F,hs,rfl⟩:=ho;exact⟨es,clock,hb,F,by simp[Maps.size,length_sorted],rfl⟩
theorem nc.to (h:nc k w b l)(hu:P.underlying kt=az (qV k)):w.ownsMap P kt Rv b l.length (rX l):=by
 have⟨P',LN,hu',ho⟩:=h;exact TY ((zo hu').trans (zo hu).symm) ho
theorem nc.mk (hu:P.underlying kt=az (qV k))(ho:w.ownsMap P kt Rv b n (rX l)):nc k w b l:=by
 have:=Wm ho;have e:Maps.size (rX l)=l.length:=by simp[Maps.size,rX]
 rw[e] at this;exact⟨P,kt,hu,this⟩
theorem nc.keep (h:nc k w b l)(hb:w'.heap[b]?=w.heap[b]?):nc k w' b l:=by
 have⟨P,kt,hu,es,clock,rN,r⟩:=h;exact⟨P,kt,hu,es,clock,hb.trans rN,r⟩
theorem nc.new (w:aN)(hu:P.underlying kt=az (qV k)):nc k (w.alloc (.map #[] 0)) w.heap.size []:=nc.mk hu (World.ownsMap_made (H:=aO) w P kt Rv)
theorem nc.look (h:nc k w b l)(ht:P.underlying t=az (.map kt et))(hu:P.underlying kt=az (qV k)){z:aO}(hz:(zeroValue et).run P w= .ok z w){x:ko k}(hx:nv k x):
  (Instr.lookup t (.map (az b)) (pn k x) aD).run P w= .ok ((jo l x).getD z) w:=by
 obtain⟨v,ps,kT,hv⟩:=(h.to hu).lookup (xz hu) ht hz (zd:=.held z) (zp:=[]) rfl (xA hu hx);rw[O9] at hv;rw[kT];cases hl:jo l x with
 |none=>rw[hl] at hv;simp only[Rv,cr,cW,apl] at hv;rw[hv.1];rfl
 |some u=>rw[hl] at hv;simp only[Rv,cr,cW,apl] at hv;rw[hv.1];rfl
theorem nc.HZ (h:nc k w b l)(ht:P.underlying t=az (.map kt et))(hu:P.underlying kt=az (qV k)){z:aO}(hz:(zeroValue et).run P w= .ok z w){x:ko k}(hx:nv k x):
  (eR t (.map (az b)) (pn k x) aC).run P w= .ok (.tuple #[(jo l x).getD z,.bool (jo l x).isSome]) w:=by
 obtain⟨v,ps,kT,hv⟩:=(h.to hu).look_ok (xz hu) ht hz (zd:=.held z) (zp:=[]) rfl (xA hu hx);rw[O9] at hv;rw[kT,Q9];cases hl:jo l x with
 |none=>rw[hl] at hv;simp only[Rv,cr,cW,apl] at hv;rw[hv.1];rfl
 |some u=>rw[hl] at hv;simp only[Rv,cr,cW,apl] at hv;rw[hv.1];rfl
theorem nc.put (h:nc k w b l)(ht:P.underlying t=az (.map kt et))(hu:P.underlying kt=az (qV k))(hl:l.length<=2147483647){x:ko k}(hx:nv k x)(v:aO):
  ∃w',(anS t (.map (az b)) (pn k x) v).run P w= .ok () w'/\nc k w' b (nG l x v)/\w.grownBy w' (az b)/\w'.heap.size=w.heap.size:=by
 obtain⟨w',kT,ho,hG⟩:=(h.to hu).store (xz hu) ht (by simp only[maxLen];omega) (xA hu hx) (val:=v) (d:=.held v) (ps:=[]) rfl;rw[abF] at ho;refine⟨w',kT,nc.mk hu ho,hG.grown,?_⟩;obtain⟨_,_,_,_,_,rfl⟩:=hG;simp[dF]
theorem nc.drop (h:nc k w b l)(ht:P.underlying t=az (.map kt et))(hu:P.underlying kt=az (qV k)){x:ko k}(hx:nv k x)(ty:aV):
  ∃w',(Builtin.delete_ #[t,kt] ty #[.map (az b),pn k x]).run P w= .ok (.tuple #[]) w'/\nc k w' b (rP l x)/\w.grownBy w' (az b):=by
 obtain⟨w',kT,ho,hG⟩:=(h.to hu).drop (xz hu) ht (xA hu hx) ty;rw[Q8] at ho;exact⟨w',kT,nc.mk hu ho,hG.grown⟩
theorem nc.len (h:nc k w b l)(ht:P.underlying t=az (.map kt et))(hu:P.underlying kt=az (qV k))(ty:aV):(aol #[t] ty #[.map (az b)]).run P w= .ok (.int .i64 (aM l:af)) w:=by
 have:=(h.to hu).len ht ty;have e:dO (rX l)=l.length:=by simp[dO,rX]
 rw[e] at this;exact this
end
section
variable {α:Type}
def jr (m:aa (af×α))(x:af):ai α:=jo (k:=.int) m x
def kZ (m:aa (af×α))(x:af)(v:α):aa (af×α):=nG (k:=.int) m x v
def EZ (m:aa (af×α))(x:af):aa (af×α):=rP (k:=.int) m x
theorem lF (m:aa (af×α))(y x:af)(v:α):jr (kZ m y v) x=if y=x then az v else jr m x:=Cy (k:=.int) m y x v
theorem E0 (m:aa (af×α))(y x:af):jr (EZ m y) x=if y=x then aA else jr m x:=HY (k:=.int) m y x
theorem qF (m:aa (af×α))(x:af)(v:α):(kZ m x v).length<=m.length+1:=uQ (k:=.int) m x v
theorem wB {m:aa (af×α)}{x:af}:jr m x=aA↔∀v,(x,v)∉m:=AE (k:=.int)
theorem xB {m:aa (af×α)}{x:af}{v:α}(h:jr m x=az v):(x,v)∈m:=qE (k:=.int) h
theorem Ra {m:aa (af×α)}{x:af}{v:α}{q:af×α}:q∈kZ m x v↔q=(x,v)\/q∈m/\q.1≠x:=yC (k:=.int)
theorem Cz {k:Kc}(p:ko k×α):∀l:aa (ko k×α),(sQ p l).Perm (p::l)
 |[]=>aqS _
 |y::r=>by
  unfold sQ;split
  .exact aqS _
  exact(List.Perm.cons y (Cz p r)).trans (aqH p y r)
theorem TZ {k:Kc}{l:aa (ko k×α)}{x:ko k}(h:jo l x=aA):rP l x=l:=by
 unfold rP;rw[List.filter_eq_self];intro p hp;have:=AE.1 h p.2
 by_cases e:p.1=x
 .exact(this (by rw[<-e];exact hp)).elim
 simp[e]
theorem H7 {k:Kc}{l:aa (ko k×α)}{x:ko k}{v:α}(h:jo l x=aA):(nG l x v).Perm ((x,v)::l):=by
 unfold nG;rw[TZ h];exact Cz _ _
theorem Mf {m:aa (af×α)}{x:af}{v:α}(h:jr m x=aA):(kZ m x v).Perm ((x,v)::m):=H7 (k:=.int) h
end
theorem T0 {P P':aY}{r b since c0 clock:ah}{seen:aq ah}{es:aq MapEntry}{w w':aN}{v:aO}(h:(aoN (.pointer (az ⟨r,0,aA⟩))).run P w= .ok v w)
  (hb:w.heap[b]?=az (.map es clock)) (hr:w.heap[r]?=az (.mapIter (az b) since seen c0)) (rN:w'.heap[b]?=w.heap[b]?) (OO:w'.heap[r]?=w.heap[r]?):(aoN (.pointer (az ⟨r,0,aA⟩))).run P' w'= .ok v w':=by
 rw[hb] at rN;rw[hr] at OO;simp only[aoN,getObj,bw,cM,hr,hb,cy] at h;simp only[aoN,getObj,bw,cM,OO,rN,cy];revert h;generalize seen.back?=bk;cases bk with
 |none=>intro h;simp[cM] at h
 |some q=>
  intro h;simp only[bw,cM,hb,cy] at h;simp only[bw,cM,rN,cy];revert h;cases hq:(clock !=c0) with
  |true=>intro h;simp[cM,bw,unsupported,cy] at h
  |false=>
   simp only[aom,if_false];cases hf:es.find? (λx=>x.born==q) with
   |none=>intro h;simp[cM,unsupported] at h
   |some e=>intro h;simp only[bZ] at h ⊢;cases h;rfl
def yD (k:Kc)(w:aN)(mb r:ah)(l:aa (ko k×aO))(lf:ko k->ak)(cnt:ah)(cur:ai (ko k×aO)):Prop:=
 (∃P kt left,P.underlying kt=az (qV k)/\w.ranges P kt Rv mb r l.length (rX l) left cnt/\∀x,left (mD k x)=lf x)/\
 ∀x v,cur=az (x,v)->∀(P:aY) (w':aN),w'.heap[mb]?=w.heap[mb]?->w'.heap[r]?=w.heap[r]?->(aoN (.pointer (az ⟨r,0,aA⟩))).run P w'= .ok (.tuple #[pn k x,v]) w'
section
variable {P P':aY}{kt LN et t:aV}{k:Kc}{w w':aN}{mb r n cnt:ah}{l:aa (ko k×aO)}{lf:ko k->ak}{cur:ai (ko k×aO)}
theorem yD.keep (h:yD k w mb r l lf cnt cur)(hb:w'.heap[mb]?=w.heap[mb]?)(hr:w'.heap[r]?=w.heap[r]?):yD k w' mb r l lf cnt cur:=by
 obtain⟨⟨P,kt,left,hu,⟨es,clock,since,seen,c0,h1,F,hs,hD,h2,rest⟩,hl⟩,hc⟩:=h;exact⟨⟨P,kt,left,hu,⟨es,clock,since,seen,c0,hb.trans h1,F,hs,hD,hr.trans h2,rest⟩,hl⟩,λx v e P w'' h3 h4=>hc x v e P w'' (h3.trans hb) (h4.trans hr)⟩
theorem nc.range (h:nc k w mb l)(ht:P.underlying t=az (.map kt et))(hu:P.underlying kt=az (qV k)):
  ∃w',(aoO t (.map (az mb))).run P w= .ok (.pointer (az ⟨w.heap.size,0,aA⟩)) w'/\yD k w' mb w.heap.size l (λx=>(jo l x).isSome) l.length aA/\w.grownBy w' aA/\w'.heap.size=w.heap.size+1:=by
 obtain⟨w',h1,h2,h3,h4⟩:=(h.to hu).range (xz hu) ht;have e:dO (rX l)=l.length:=by simp[dO,rX]
 rw[e] at h2;exact⟨w',h1,⟨⟨P,kt,_,hu,h2,λx=>Q9 l x⟩,λ_ _ q=>by cases q⟩,h3,h4⟩
theorem Mg (h:keyOf P kt=keyOf P' LN){D:DataW aO}{left:Lit->ak}(ho:w.ranges P kt Rv mb r n D left cnt):w.ranges P' LN Rv mb r n D left cnt:=by
 have pg:WideElems.rd P kt Rv=WideElems.rd P' LN Rv:=by
  funext x;unfold WideElems.rd;rw[h]
 have hrg:WideElems.rg P kt Rv=WideElems.rg P' LN Rv:=by
  funext x;unfold WideElems.rg;rw[pg]
 have⟨es,clock,since,seen,c0,hb,F,hs,hD,h1,h2,h3,h4,h5,h6⟩:=ho;exact⟨es,clock,since,seen,c0,hb,⟨F.size,F.stamped,by rw[<-pg];exact F.reads⟩,hs,by rw[<-hrg];exact hD,h1,h2,h3,by rw[<-hrg];exact h4,by rw[<-hrg];exact h5,h6⟩
theorem yD.next (h:yD k w mb r l lf cnt cur)(hu:P.underlying kt=az (qV k))(ty:aV):
  ((∀x,lf x=aD)/\(aoP (.pointer (az ⟨r,0,aA⟩)) aD ty).run P w= .ok (.tuple #[.bool aD]) w)\/
  ∃x v w' uA,lf x=aC/\nv k x/\jo l x=az v/\uA<cnt/\(aoP (.pointer (az ⟨r,0,aA⟩)) aD ty).run P w= .ok (.tuple #[.bool aC,pn k x,v]) w'/\
   yD k w' mb r l (λz=>lf z && !decide (z=x)) uA (az (x,v))/\w.grownBy w' (az r)/\w'.heap.size=w.heap.size:=by
 obtain⟨⟨P',LN,left,hu',hR',hl⟩,_⟩:=h;have hR:w.ranges P kt Rv mb r l.length (rX l) left cnt:=Mg ((zo hu').trans (zo hu).symm) hR';have qD:=hR.ne;rcases hR.next (xz hu) ty with⟨_,h2,h3⟩|⟨key,v,kl,y,w',uA,h1,h2,h3,h4,h5,h6,h7,h8,h9,h10⟩
 .exact .inl ⟨λx=>by rw[<-hl];exact h2 _,h3⟩
 rw[zo hu] at h1;obtain⟨x,rfl,rfl,hw⟩:=Wl h1;simp only[Rv,cr] at h3;subst h3;have OR:jo l x=az v:=by
  have a:=h4 (.held (.bool aD));have b:=h4 (.held (.bool aC));rw[O9] at a b;cases hq:jo l x with
  |none=>
   rw[hq] at a b;have a:anQ (anT aD)= .held v:=a;have b:anQ (anT aC)= .held v:=b;rw[<-b] at a;cases a
  |some u=>rw[hq] at a;have a:anQ u= .held v:=a;cases a;rfl
 have⟨es,clock,since,seen,c0,e1,F,hs,hD,e2,e3⟩:=h6;refine .inr ⟨x,v,w',uA,by rw[<-hl];exact h2,hw,OR,h7,h5,⟨⟨P,kt,λq=>left q && !q.sameKey (mD k x),hu,⟨es,clock,since,seen,c0,e1,F,hs,hD,e2,e3⟩,λz=>?_⟩,λx' v' q P2 w2 q1 q2=>?_⟩,h8,h9⟩
 .show(left (mD k z) && !(mD k z).sameKey (mD k x))=_;rw[hl,zn]
 cases q;exact T0 h10 e1 e2 q1 q2
theorem H8 (ht:P.underlying t=az (.map kt et)):(aoO t (.map aA)).run P w= .ok (.pointer (az ⟨w.heap.size,0,aA⟩)) (w.alloc (.mapIter aA 0 #[] 0)):=by
 simp[aoO,aH ht,newObj,cy,cM,bw,bZ]
theorem Wo {since c0:ah}{seen:aq ah}(hr:w.heap[r]?=az (.mapIter aA since seen c0))(ty:aV):(aoP (.pointer (az ⟨r,0,aA⟩)) aD ty).run P w= .ok (.tuple #[.bool aD]) w:=by
 simp[aoP,getObj,bw,cM,hr,cy]
end
open ChangeMaps Maps WideElems
def T3 (k:Kc)(w:aN)(b:ah)(x:ko k)(st:af):Prop:=∃(es:aq MapEntry) (clock j:ah) (e:MapEntry),w.heap[b]?=az (.map es clock)/\es[j]?=az e/\e.key=pn k x/\(e.born:af)=st
theorem T3.keep {k:Kc}{w w':aN}{b:ah}{x:ko k}{st:af}(h:T3 k w b x st)(hb:w'.heap[b]?=w.heap[b]?):T3 k w' b x st:=let⟨es,c,j,e,h1,h2⟩:=h;⟨es,c,j,e,hb.trans h1,h2⟩
section
variable {P:aY}{kt et t:aV}{k:Kc}{w w':aN}{b:ah}{l:aa (ko k×aO)}
theorem Bq {es:aq MapEntry}{clock:ah}{o:Obj}(hb:w.heap[b]?=az (.map es clock)):(dF w b o).heap[b]?=az o:=by
 have rG:=(di.1 hb).1;show(w.heap.setIfInBounds b o)[b]?=_;rw[anP,aQ rfl,aQ rG]
theorem nc.entry (h:nc k w b l)(ht:P.underlying t=az (.map kt et))(hu:P.underlying kt=az (qV k))(hl:l.length<=2147483647){z:aO}(hz:(zeroValue et).run P w= .ok z w){x:ko k}(hx:nv k x):
  ∃(st:af) (w':aN),(apR t (.map (az b)) (pn k x)).run P w= .ok (.tuple #[(jo l x).getD z,.int .i64 st]) w'/\nc k w' b (nG l x ((jo l x).getD z))/\T3 k w' b x st/\w.grownBy w' (az b)/\w'.heap.size=w.heap.size:=by
 have Rb:=h.look ht hu hz hx;obtain⟨w',kT,ho,hG,oC⟩:=h.put ht hu hl hx ((jo l x).getD z);have wq:=xA hu hx;have K:=xz hu;obtain⟨es,clock,hb,F,hs,hD⟩:=h.to hu;generalize hv0:(jo l x).getD z=v0 at*
 rcases K.find w wq es.toList F.keys with⟨h1,h2⟩|⟨j,e0,h1,h2,h3⟩
 .have LO:z=v0:=by
   have:(eR t (.map (az b)) (pn k x) aD).run P w= .ok z w:=by
    simp[eR,aH ht,anU hb,K.check w _ wq,h1,hz,cy]
   rw[Rb] at this;injection this with this
   exact this.symm
  subst LO;have hr:(anS t (.map (az b)) (pn k x) z).run P w= .ok () (dF w b (.map (es.push ⟨pn k x,z,clock⟩) (clock+1))):=by
   simp[anS,aH ht,anU hb,K.check w aD wq,h1,aor _ hb,cy,dF]
  have he:w'=dF w b (.map (es.push ⟨pn k x,z,clock⟩) (clock+1)):=by
   rw[kT] at hr;injection hr
  refine⟨(clock:af),w',?_,ho,⟨_,_,es.size,⟨pn k x,z,clock⟩,by rw[he];exact Bq hb,by simp,rfl,rfl⟩,hG,oC⟩;rw[he];simp[apR,aH ht,anU hb,K.check w aD wq,h1,hz,aor _ hb,cy,dF,goInt]
 have hj:es[j]?=az e0:=by simpa using h2
 have hv:e0.val=v0:=by
  have:(eR t (.map (az b)) (pn k x) aD).run P w= .ok e0.val w:=by
   simp[eR,aH ht,anU hb,K.check w _ wq,h1,hz,cy]
  rw[Rb] at this;injection this with this
  exact this.symm
 subst hv;have hm:(es.modify j λe=>{e with key:=pn k x})=es.modify j λe=>{e with key:=pn k x,val:=e0.val}:=by
  apply cJ;rw[apm,apm,modify_eq_set _ _ _ _ h2,modify_eq_set _ _ _ _ h2]
 have hr:(anS t (.map (az b)) (pn k x) e0.val).run P w= .ok () (dF w b (.map (es.modify j λe=>{e with key:=pn k x,val:=e0.val}) clock)):=by
  simp[anS,aH ht,anU hb,K.check w aD wq,h1,hj,h3,K.stays w wq,aor _ hb,cy,dF]
 have he:w'=dF w b (.map (es.modify j λe=>{e with key:=pn k x,val:=e0.val}) clock):=by
  rw[kT] at hr;injection hr
 refine⟨(e0.born:af),w',?_,ho,⟨_,_,j,{e0 with key:=pn k x,val:=e0.val},by rw[he];exact Bq hb,by rw[Array.getElem?_modify,aQ rfl,hj];rfl,rfl,rfl⟩,hG,oC⟩;rw[he,<-hm];simp[apR,aH ht,anU hb,K.check w aD wq,h1,hj,h3,K.stays w wq,aor _ hb,cy,dF,goInt]
theorem Mh {α β:Type}{f:α->β}{l:aa α}(h:(l.map f).Nodup){i j:ah}{a c:α}(hi:l[i]?=az a)(hj:l[j]?=az c)(e:f a=f c):i=j:=by
 have h1:(l.map f)[i]?=az (f a):=by rw[cY,hi];rfl
 have h2:(l.map f)[j]?=az (f a):=by rw[cY,hj,e];rfl
 have TR:=(cF.1 h1).1;exact(List.getElem?_inj TR h).1 (h1.trans h2.symm)
theorem nc.entryStore (h:nc k w b l)(ht:P.underlying t=az (.map kt et))(hu:P.underlying kt=az (qV k))(hl:l.length<=2147483647){x:ko k}(hx:nv k x){st:af}(G9:T3 k w b x st)(v:aO):
  ∃w',(aqT t (.map (az b)) (.int .i64 st) v).run P w= .ok () w'/\nc k w' b (nG l x v)/\w.grownBy w' (az b)/\w'.heap.size=w.heap.size:=by
 obtain⟨w',kT,ho,hG,oC⟩:=h.put ht hu hl hx v;have wq:=xA hu hx;have K:=xz hu;obtain⟨es,clock,hb,F,hs,hD⟩:=h.to hu;have⟨es',alw,j,e,rN,hj,hek,heb⟩:=G9;rw[hb] at rN;cases rN;have hjl:es.toList[j]?=az e:=by simpa using hj
 rcases K.find w wq es.toList F.keys with⟨h1,h2⟩|⟨i,e0,h1,h2,h3⟩
 .exact(h2 e (cn hjl) hek).elim
 have hij:i=j:=Mh F.stamped.2.2 h2 hjl (h3.trans hek.symm);subst hij;rw[hjl] at h2;cases h2;have hfi:es.findIdx? (λe=>(e.born:af)==st)=az i:=by
  rw[Array.findIdx?_eq_some_iff_getElem];have rG:i<es.size:=(di.1 hj).1;have wC:es[i]=e:=(di.1 hj).2;refine⟨rG,by rw[wC];simp[heb],λq hq hp=>?_⟩;have hp:((es[q].born:af))=st:=by simpa using hp
  have G3:es[q].born=e.born:=by
   have:(es[q].born:af)=(e.born:af):=hp.trans heb.symm;omega
  have:q=i:=Mh (f:=ar1) F.stamped.2.1 (l:=es.toList) (i:=q) (j:=i) (a:=es[q]) (c:=e) (by simp) hjl G3;omega
 have hm:(es.modify i λe=>{e with val:=v})=es.modify i λe=>{e with key:=pn k x,val:=v}:=by
  apply cJ;rw[apm,apm,modify_eq_set _ _ _ _ hjl,modify_eq_set _ _ _ _ hjl,hek]
 have hr:(anS t (.map (az b)) (pn k x) v).run P w= .ok () (dF w b (.map (es.modify i λe=>{e with key:=pn k x,val:=v}) clock)):=by
  simp[anS,aH ht,anU hb,K.check w aD wq,h1,hj,hek,K.stays w wq,aor _ hb,cy,dF]
 have he:w'=dF w b (.map (es.modify i λe=>{e with key:=pn k x,val:=v}) clock):=by
  rw[kT] at hr;injection hr
 refine⟨w',?_,ho,hG,oC⟩;rw[he,<-hm];simp[aqT,anU hb,asInt,asIntOf,hfi,aor _ hb,cy,dF]
end
def jw (k:Kc)(α:Type):Type:=aa (ko k×α)
def rO {k:Kc}{α:Type}[Data α](S:jv)(w:aN)(b:ah)(m:jw k α):Prop:=
 ∃zs:aa (ko k×(aO×α)),nc k w b (zs.map λq=>(q.1,q.2.1))/\m=zs.map (λq=>(q.1,q.2.2))/\∀z∈zs,Rd S w z.2.1 z.2.2
def Wp {k:Kc}{α:Type}[Data α](S:jv)(w:aN)(v:aO)(m:jw k α):Prop:=∃x,v= .map x/\match x with
 |none=>m=([]:aa (ko k×α))
 |some b=>S b/\rO S w b m
theorem rO.keep {k:Kc}{α:Type}[Data α]{S:jv}{w w':aN}{b:ah}{m:jw k α}(h:rO S w b m)(hk:nC S w w')(hb:w'.heap[b]?=w.heap[b]?):rO S w' b m:=by
 have⟨zs,h1,h2,h3⟩:=h;exact⟨zs,h1.keep hb,h2,λz hz=>(h3 z hz).keep hk⟩
theorem rO.up {k:Kc}{α:Type}[Data α]{S S':jv}{w:aN}{b:ah}{m:jw k α}(h:rO S w b m)(hs:∀k,S k->S' k):rO S' w b m:=by
 have⟨zs,h1,h2,h3⟩:=h;exact⟨zs,h1,h2,λz hz=>(h3 z hz).up hs⟩
instance af6 {k:Kc} {α:Type} [Data α]:Data (jw k α) where
 size:=1
 isAgg:=aD
 rd S w cs m:=∃v,cs=[v]/\Wp S w v m
 len:=by rintro S w cs l ⟨v,rfl,_⟩;rfl
 up:=by
  rintro S S' w cs l hs ⟨v,rfl,x,rfl,h⟩;refine⟨_,rfl,x,rfl,?_⟩;cases x with
  |none=>exact h
  |some b=>exact⟨hs _ h.1,h.2.up hs⟩
 keep:=by
  rintro S w w' cs l hk ⟨v,rfl,x,rfl,h⟩;refine⟨_,rfl,x,rfl,?_⟩;cases x with
  |none=>exact h
  |some b=>exact⟨h.1,h.2.keep hk (hk b h.1)⟩
 one:=by
  rintro S w cs l ⟨v,rfl,x,rfl,_⟩ u hu;simp at hu;subst hu;rfl
theorem AF {k:Kc}{α:Type}[Data α]{S:jv}{w:aN}{v:aO}{m:jw k α}(h:Rd S w v m):Wp S w v m:=by
 obtain⟨cs,⟨v',rfl,h⟩,rfl⟩:=h;exact h
theorem JL {k:Kc}{α:Type}[Data α]{S:jv}{w:aN}{v:aO}{m:jw k α}(h:Wp S w v m):Rd S w v m:=⟨[v],⟨v,rfl,h⟩,rfl⟩
def vz (α:Type):Type:=ai α
def uR {α:Type}[Data α](S:jv)(w:aN)(v:aO):vz α->Prop
 |none=>v= .pointer aA
 |some y=> ∃b cur t fz cs,v= .pointer (az ⟨b,0,aA⟩)/\S b/\w.heap[b]?=az (.cells cur t fz)/\Data.rd S w cs y/\∀j,j<Data.size α->cur[j]?=cs[j]?
theorem uR.keep {α:Type}[Data α]{S:jv}{w w':aN}{v:aO}{x:vz α}(h:uR S w v x)(hk:nC S w w'):uR S w' v x:=by
 cases x with
 |none=>exact h
 |some y=>
  have⟨b,cur,t,fz,cs,h1,h2,h3,h4,h5⟩:=h;exact⟨b,cur,t,fz,cs,h1,h2,(hk b h2).trans h3,Data.keep hk h4,h5⟩
theorem uR.up {α:Type}[Data α]{S S':jv}{w:aN}{v:aO}{x:vz α}(h:uR S w v x)(hs:∀k,S k->S' k):uR S' w v x:=by
 cases x with
 |none=>exact h
 |some y=>
  have⟨b,cur,t,fz,cs,h1,h2,h3,h4,h5⟩:=h;exact⟨b,cur,t,fz,cs,h1,hs _ h2,h3,Data.up hs h4,h5⟩
theorem uR.val {α:Type}[Data α]{S:jv}{w:aN}{v:aO}{x:vz α}(h:uR S w v x):∃p,v= .pointer p:=by
 cases x with
 |none=>exact⟨_,h⟩
 |some y=>have⟨b,cur,t,fz,cs,h1,_⟩:=h;exact⟨_,h1⟩
instance af7 {α:Type} [Data α]:Data (vz α) where
 size:=1
 isAgg:=aD
 rd S w cs x:=∃v,cs=[v]/\uR S w v x
 len:=by rintro S w cs l ⟨v,rfl,_⟩;rfl
 up:=by rintro S S' w cs l hs ⟨v,rfl,h⟩;exact⟨v,rfl,h.up hs⟩
 keep:=by rintro S w w' cs l hk ⟨v,rfl,h⟩;exact⟨v,rfl,h.keep hk⟩
 one:=by
  rintro S w cs l ⟨v,rfl,h⟩ u hu;obtain⟨p,rfl⟩:=h.val;simp at hu;subst hu;rfl
theorem xD {α:Type}[Data α]{S:jv}{w:aN}{v:aO}{x:vz α}(h:Rd S w v x):uR S w v x:=by
 obtain⟨cs,⟨v',rfl,h⟩,rfl⟩:=h;exact h
theorem Pa {α:Type}[Data α]{S:jv}{w:aN}{v:aO}{x:vz α}(h:uR S w v x):Rd S w v x:=⟨[v],⟨v,rfl,h⟩,rfl⟩
instance abG:Data Unit where
 size:=0
 isAgg:=aC
 rd _ _ cs _:=cs=[]
 len h:=by rw[h];rfl
 up _ h:=h
 keep _ h:=h
 one h u hu:=by rw[h] at hu;cases hu
inductive Ty where
 |int
 |bool
 |str
 |list (t:Ty)
 |pair (a b:Ty)
 |map (k:Kc) (t:Ty)
 |ptr (t:Ty)
 |unit
def El:Ty->Type
 | .int=>af
 | .bool=>ak
 | .str=>aj
 | .list t=>aa (El t)
 | .pair a b=>El a×El b
 | .map k t=>jw k (El t)
 | .ptr t=>vz (El t)
 | .unit=>Unit
instance Mi:(t:Ty)->Data (El t)
 | .int=>(inferInstance:Data af)
 | .bool=>(inferInstance:Data ak)
 | .str=>(inferInstance:Data aj)
 | .list t=>@instDataList (El t) (Mi t)
 | .pair a b=>@instDataProd (El a) (El b) (Mi a) (Mi b)
 | .map k t=>@af6 k (El t) (Mi t)
 | .ptr t=>@af7 (El t) (Mi t)
 | .unit=>abG
def Bd:(t:Ty)->El t
 | .int=>(0:af)
 | .bool=>aD
 | .str=>(⟨#[]⟩:aj)
 | .list _=>[]
 | .pair a b=>(Bd a,Bd b)
 | .map k t=>([]:aa (ko k×El t))
 | .ptr t=>(aA:ai (El t))
 | .unit=>()
def Pb:(t s:Ty)->ai (PLift (t=s))
 | .int,.int=>az ⟨rfl⟩
 | .bool,.bool=>az ⟨rfl⟩
 | .str,.str=>az ⟨rfl⟩
 | .unit,.unit=>az ⟨rfl⟩
 | .list t,.list s=>match Pb t s with
  |some ⟨h⟩=>az ⟨bh Ty.list h⟩
  |none=>aA
 | .pair a b,.pair c d=>match Pb a c,Pb b d with
  |some ⟨h⟩,az ⟨k⟩=>az ⟨h▸k▸rfl⟩
  |_,_=>aA
 | .map .int a,.map .int b=>match Pb a b with
  |some ⟨h⟩=>az ⟨bh (Ty.map .int) h⟩
  |none=>aA
 | .map .str a,.map .str b=>match Pb a b with
  |some ⟨h⟩=>az ⟨bh (Ty.map .str) h⟩
  |none=>aA
 | .ptr t,.ptr s=>match Pb t s with
  |some ⟨h⟩=>az ⟨bh Ty.ptr h⟩
  |none=>aA
 |_,_=>aA
def qh {t s:Ty}(a:El t):ai (El s):=match Pb t s with
 |some ⟨h⟩=>az (h▸a)
 |none=>aA
theorem ni {t s:Ty}{a:El t}{b:El s}(h:qh (s:=s) a=az b):∃e:t=s,e▸a=b:=by
 unfold qh at h;split at h
 .rename_i e _;exact⟨e,b5 h⟩
 cases h
inductive uT where
 |i (n:af)
 |b (b:ak)
 |s (s:aj)
 |l (t:Ty) (l:aa (El t))
 |m (k:Kc) (t:Ty) (m:jw k (El t))
 |p (t:Ty) (x:vz (El t))
def jT:(t:Ty)->El t->aa uT
 | .int,n=>[.i n]
 | .bool,b=>[.b b]
 | .str,s=>[.s s]
 | .list t,l=>[.l t l]
 | .pair a b,x=>jT a x.1++jT b x.2
 | .map k t,m=>[.m k t m]
 | .ptr t,x=>[.p t x]
 | .unit,_=>[]
def uU (S:jv)(w:aN)(v:aO):uT->Prop
 | .i n=>v= .int .i64 n
 | .b b=>v= .bool b
 | .s s=>v= .string s
 | .l _ l=>Rd S w v l
 | .m _ _ m=>Rd S w v m
 | .p _ x=>Rd S w v x
def kQ (S:jv)(w:aN):aa aO->aa uT->Prop
 |[],[]=>av
 |v::vs,c::cs=>uU S w v c/\kQ S w vs cs
 |_,_=>False
theorem kQ.append {S:jv}{w:aN}:∀ {a:aa aO} {b:aa uT} {c:aa aO} {d:aa uT},kQ S w a b->kQ S w c d->kQ S w (a++c) (b++d)
 |[],[],_,_,_,h=>h
 |_::_,_::_,_,_,h,k=>⟨h.1,h.2.append k⟩
 |[],_::_,_,_,h,_=>h.elim
 |_::_,[],_,_,h,_=>h.elim
theorem kQ.split {S:jv}{w:aN}:∀ {vs:aa aO} {a b:aa uT},kQ S w vs (a++b)->kQ S w (vs.take a.length) a/\kQ S w (vs.drop a.length) b
 |vs,[],b,h=>by simpa using⟨tv,h⟩
 |[],_::_,_,h=>h.elim
 |v::vs,x::a,b,h=>by
  obtain⟨h1,h2⟩:=kQ.split (vs:=vs) (a:=a) (b:=b) h.2;exact⟨⟨h.1,h1⟩,h2⟩
theorem kQ.len {S:jv}{w:aN}:∀ {vs:aa aO} {a:aa uT},kQ S w vs a->vs.length=a.length
 |[],[],_=>rfl
 |_::_,_::_,h=>by simp[kQ.len h.2]
 |[],_::_,h=>h.elim
 |_::_,[],h=>h.elim
theorem kQ.get {S:jv}{w:aN}:∀ {vs:aa aO} {a:aa uT},kQ S w vs a->∀ {j:ah} {c:uT},a[j]?=az c->∃v,vs[j]?=az v/\uU S w v c
 |[],[],_,_,_,h=>by simp at h
 |v::vs,x::a,h,0,c,e=>by simp at e;subst e;exact⟨v,rfl,h.1⟩
 |v::vs,x::a,h,j+1,c,e=>h.2.get (j:=j) (by simpa using e)
 |[],_::_,h,_,_,_=>h.elim
 |_::_,[],h,_,_,_=>h.elim
theorem uU.keep {S:jv}{w w':aN}(hk:nC S w w'){v:aO}{c:uT}(h:uU S w v c):uU S w' v c:=by
 cases c with
 |l t l=>exact Rd.keep hk h
 |m k t m=>exact Rd.keep hk h
 |p t x=>exact Rd.keep hk h
 |_=>exact h
theorem uU.up {S S':jv}{w:aN}(hs:∀k,S k->S' k){v:aO}{c:uT}(h:uU S w v c):uU S' w v c:=by
 cases c with
 |l t l=>exact Rd.up hs h
 |m k t m=>exact Rd.up hs h
 |p t x=>exact Rd.up hs h
 |_=>exact h
theorem rD {S:jv}{w:aN}:∀(t:Ty) {cs:aa aO} {a:El t},Data.rd S w cs a->kQ S w cs (jT t a)
 | .int,cs,a,h=>by have h:cs=[.int .i64 a]:=h;subst h;exact⟨rfl,tv⟩
 | .bool,cs,a,h=>by have h:cs=[.bool a]:=h;subst h;exact⟨rfl,tv⟩
 | .str,cs,a,h=>by have h:cs=[.string a]:=h;subst h;exact⟨rfl,tv⟩
 | .unit,cs,a,h=>by have h:cs=[]:=h;subst h;trivial
 | .list t,cs,a,h=>by
  obtain⟨v,rfl,h⟩:=h;exact⟨tF h,tv⟩
 | .pair a b,cs,x,h=>by
  obtain⟨c1,c2,rfl,h1,h2⟩:=h;exact(rD a h1).append (rD b h2)
 | .map k t,cs,a,h=>by
  obtain⟨v,rfl,h⟩:=h;exact⟨JL h,tv⟩
 | .ptr t,cs,a,h=>by
  obtain⟨v,rfl,h⟩:=h;exact⟨Pa h,tv⟩
theorem Eg {S:jv}{w:aN}:∀(t:Ty) {cs:aa aO} {a:El t},kQ S w cs (jT t a)->Data.rd S w cs a
 | .int,cs,a,h=>by
  match cs,h with
  |[v],h=>have h1:v= .int .i64 a:=h.1;subst h1;rfl
 | .bool,cs,a,h=>by
  match cs,h with
  |[v],h=>have h1:v= .bool a:=h.1;subst h1;rfl
 | .unit,cs,a,h=>by
  match cs,h with
  |[],_=>exact(rfl:([]:aa aO)=[])
 | .str,cs,a,h=>by
  match cs,h with
  |[v],h=>have h1:v= .string a:=h.1;subst h1;rfl
 | .list t,cs,a,h=>by
  match cs,h with
  |[v],h=>exact⟨v,rfl,lz h.1⟩
 | .pair a b,cs,x,h=>by
  obtain⟨h1,h2⟩:=kQ.split h;exact⟨_,_,(eW _ _).symm,Eg a h1,Eg b h2⟩
 | .map k t,cs,a,h=>by
  match cs,h with
  |[v],h=>exact⟨v,rfl,AF h.1⟩
 | .ptr t,cs,a,h=>by
  match cs,h with
  |[v],h=>exact⟨v,rfl,xD h.1⟩
theorem E1:∀(t:Ty) (a:El t),(jT t a).length=Data.size (El t)
 | .int,_=>rfl
 | .bool,_=>rfl
 | .str,_=>rfl
 | .unit,_=>rfl
 | .list _,_=>rfl
 | .map _ _,_=>rfl
 | .ptr _,_=>rfl
 | .pair a b,x=>by
  show(jT a x.1++jT b x.2).length=Data.size (El a)+Data.size (El b);rw[bA,E1 a,E1 b]
def l8:Ty->ak| .pair _ _=>aC| .unit=>aC|_=>aD
theorem E3:∀t:Ty,Data.isAgg (El t)=l8 t
 | .int=>rfl
 | .bool=>rfl
 | .str=>rfl
 | .unit=>rfl
 | .list _=>rfl
 | .pair _ _=>rfl
 | .map _ _=>rfl
 | .ptr _=>rfl
def jD:Ty->ah
 | .int=>1
 | .bool=>1
 | .str=>1
 | .unit=>0
 | .list _=>1
 | .map _ _=>1
 | .ptr _=>1
 | .pair a b=>jD a+jD b
theorem lZ:∀t:Ty,jD t=Data.size (El t)
 | .int=>rfl
 | .bool=>rfl
 | .str=>rfl
 | .unit=>rfl
 | .list _=>rfl
 | .map _ _=>rfl
 | .ptr _=>rfl
 | .pair a b=>by
  show jD a+jD b=Data.size (El a)+Data.size (El b);rw[lZ a,lZ b]
theorem mV (t:Ty)(a:El t):(jT t a).length=jD t:=by rw[E1,lZ]
inductive BE where
 |lit (b:ak)
 |dec (p:Prop) (i:Decidable p)
 |raw (b:ak)
 |not (x:BE)
 |and (x y:BE)
 |or (x y:BE)
def BE.den:BE->ak
 | .lit b=>b
 | .dec p i=>@decide p i
 | .raw b=>b
 | .not x=>!x.den
 | .and x y=>x.den && y.den
 | .or x y=>x.den||y.den
def BE.is:BE->ak->Prop
 | .lit c,b=>c=b
 | .dec p _,aC=>p
 | .dec p _,aD=>¬p
 | .raw c,b=>c=b
 | .not x,aC=>x.is aD
 | .not x,aD=>x.is aC
 | .and x y,aC=>x.is aC/\y.is aC
 | .and x y,aD=>x.is aD\/y.is aD
 | .or x y,aC=>x.is aC\/y.is aC
 | .or x y,aD=>x.is aD/\y.is aD
theorem BE.rY:∀(e:BE) (b:ak),e.is b↔e.den=b
 | .lit c,b=>Iff.rfl
 | .dec p i,aC=>by simp[is,den]
 | .dec p i,aD=>by simp[is,den]
 | .raw c,b=>Iff.rfl
 | .not x,aC=>by simp[is,den,rY x]
 | .not x,aD=>by simp[is,den,rY x]
 | .and x y,aC=>by simp[is,den,rY x,rY y]
 | .and x y,aD=>by rw[is,den,rY x,rY y];cases x.den<;>cases y.den<;>simp
 | .or x y,aC=>by rw[is,den,rY x,rY y];cases x.den<;>cases y.den<;>simp
 | .or x y,aD=>by simp[is,den,rY x,rY y]
structure jU where
 p:ah->ai ck
 n:ah->ah
 c:ah->ah
 b:ah->ah
 f:ah->Lit->aO
 m:ah->ai ah
def jU.v (A:jU)(j:ah):aO:=.slice (A.p j) (A.n j) (A.c j)
def jU.set (A:jU)(j:ah)(p:ai ck)(n c b:ah):jU:=⟨λk=>if k=j then p else A.p k,λk=>if k=j then n else A.n k,λk=>if k=j then c else A.c k,λk=>if k=j then b else A.b k,A.f,A.m⟩
def jU.ox (A:jU)(j:ah)(g:Lit->aO):jU:=⟨A.p,A.n,A.c,A.b,λk=>if k=j then g else A.f k,A.m⟩
theorem jU.tZ (A:jU)(j:ah)(g:Lit->aO):(A.ox j g).f j=g:=by simp[jU.ox]
def jU.jB (A:jU)(j:ah)(x:ai ah):jU:=⟨A.p,A.n,A.c,A.b,A.f,λk=>if k=j then x else A.m k⟩
theorem jU.E4 (A:jU)(j:ah)(x:ai ah):(A.jB j x).m j=x:=by simp[jU.jB]
theorem jU.tL (A:jU)(j:ah)(p:ai ck)(n c b:ah):(A.set j p n c b).v j= .slice p n c:=by simp[jU.set,jU.v]
theorem jU.aiO (A:jU)(j:ah)(p:ai ck)(n c b:ah):(A.set j p n c b).p j=p:=by simp[jU.set]
theorem jU.Al (A:jU)(j:ah)(p:ai ck)(n c b:ah):(A.set j p n c b).b j=b:=by simp[jU.set]
inductive Hx where
 |el (i:af) (sz off:ah)
 |ky (k:Kc) (x:ko k)
def ix (c:ah):Lit:=.int .i64 (c:af)
theorem af8 {c d:ah}(h:ix c=ix d):c=d:=by
 unfold ix at h
 grind
def Hx.lit:Hx->Lit
 | .el i sz off=>ix (i.toNat*sz+off)
 | .ky k x=>mD k x
inductive Sc where
 |v (x:aO)
 |b (e:BE)
 |own (j:ah)
 |mp (j:ah)
 |ptr (j off:ah)
 |el (j:ah) (i:af) (sz off:ah)
 |sR (f:bI) (kH:aa (ah×ah))
 |hd (p q:ah) (x:Hx)
 |pd (j:ah)
def Sc.den (A:jU):Sc->aO
 | .v x=>x
 | .b e=>.bool e.den
 | .own j=>A.v j
 | .mp j=>.map (A.m j)
 | .ptr j off=>.pointer (az ⟨A.b j,off,aA⟩)
 | .el j i sz off=>.pointer (az ⟨OP (A.v j),OQ (A.v j)+i.toNat*sz+off,aA⟩)
 | .sR f kH=>.func (.func f) #[] (kH.map λc=>.pointer (az ⟨A.b c.1,c.2,aA⟩)).toArray
 | .hd _ q x=>A.f q x.lit
 | .pd j=>.pointer (A.p j)
def Sc.all (F:ah->Prop):Sc->Prop
 | .v _=>av
 | .b _=>av
 | .own j=>F j
 | .mp j=>F j
 | .ptr j _=>F j
 | .el j _ _ _=>F j
 | .sR _ kH=> ∀c∈kH,F c.1
 | .hd p q _=>F p/\F q
 | .pd j=>F j
inductive Sy where
 |one (s:Sc)
 |agg (cs:aa Sc)
 |vt (ps:aa (ak×aa Sc))
def oy (A:jU)(p:ak×aa Sc):aO:=if p.1 then .agg (p.2.map (Sc.den A)).toArray else(p.2.map (Sc.den A)).headD aL
def Sy.den (A:jU):Sy->aO
 | .one s=>s.den A
 | .agg cs=>.agg (cs.map (Sc.den A)).toArray
 | .vt ps=>.tuple (ps.map (oy A)).toArray
def Sy.all (F:ah->Prop):Sy->Prop
 | .one s=>s.all F
 | .agg cs=> ∀c∈cs,c.all F
 | .vt ps=> ∀p∈ps,∀c∈p.2,c.all F
structure E2 where
 ch:aa (ah×ak)
 sy:Sy
def oM (w:aN)(e:aV)(sz:ah)(v:aO)(n:ah)(xs:aa aO):Prop:=
 xs.length=n*sz/\((v= .slice aA 0 0/\n=0)\/∃g d cap cur,v= .slice (az ⟨g,d*sz,aA⟩) n cap/\w.heap[g]?=az (.cells cur e (0,0))/\n<=cap/\cap<=maxLen/\(d+cap)*sz<=cur.size/\(cur.toList.drop (d*sz)).take (n*sz)=xs)
theorem oM.keep {w w':aN}{e:aV}{sz:ah}{v:aO}{n:ah}{xs:aa aO}(h:oM w e sz v n xs)(hb:∀b,v.ownBlock=az b->w'.heap[b]?=w.heap[b]?):oM w' e sz v n xs:=by
 refine⟨h.1,?_⟩;rcases h.2 with q|⟨g,d,cap,cur,rfl,hg,rest⟩
 .exact .inl q
 exact .inr ⟨g,d,cap,cur,rfl,(hb g rfl).trans hg,rest⟩
theorem oM.of {w:aN}{e:aV}{sz:ah}{v:aO}{n:ah}{xs:aa aO}{base:ah}(h:w.ownsRow base e sz v n xs):oM w e sz v n xs:=by
 refine⟨h.1,?_⟩;rcases h.2 with q|⟨g,cap,cur,h1,_,h2,h3,h4,h5,h6⟩
 .exact .inl q
 exact .inr ⟨g,0,cap,cur,by rw[h1,dG],h2,h3,h4,by rw[cZ,h5];exact aW _,by rw[dG,aoh];exact h6⟩
theorem oM.nil (w:aN)(e:aV)(sz:ah):oM w e sz (.slice aA 0 0) 0 []:=⟨by simp,.inl ⟨rfl,rfl⟩⟩
theorem oM.slice {w:aN}{e:aV}{sz:ah}{v:aO}{n:ah}{xs:aa aO}(h:oM w e sz v n xs):∃p c,v= .slice p n c/\n<=c/\c<=maxLen:=by
 rcases h.2 with⟨rfl,rfl⟩|⟨g,d,cap,cur,rfl,hg,h1,h2,_⟩
 .grind
 grind
def mI {α:Type}[Data α](S:jv)(w:aN)(e:aV)(v:aO)(l:aa α):Prop:=∃xs,oM w e (Data.size α) v l.length xs/\kR S w xs l
section
variable {α:Type}[Data α]{S S':jv}{w w':aN}{e:aV}{v:aO}{l:aa α}
theorem mI.keep (h:mI S w e v l)(hk:nC S w w')(hb:∀b,v.ownBlock=az b->w'.heap[b]?=w.heap[b]?):mI S w' e v l:=let⟨xs,h1,h2⟩:=h;⟨xs,h1.keep hb,h2.keep hk⟩
theorem mI.up (h:mI S w e v l)(hs:∀k,S k->S' k):mI S' w e v l:=let⟨xs,h1,h2⟩:=h;⟨xs,h1,h2.up hs⟩
theorem mI.of (h:Own S w e v l):mI S w e v l:=let⟨xs,h1,h2⟩:=h;⟨xs,.of h1,h2⟩
theorem mI.nil:mI S w e (.slice aA 0 0) ([]:aa α):=⟨[],oM.nil w e _,kR.nil _ _⟩
theorem mI.cells (h:mI S w e v l){i:af}(h0:0<=i)(h1:i<(aM l:af))(d:α):
  ∃cs,Data.rd S w cs (l.getD i.toNat d)/\∀j,j<Data.size α->w.cell? ⟨OP v,OQ v+i.toNat*Data.size α+j,aA⟩=cs[j]?:=by
 have⟨xs,hh,hR⟩:=h;rcases hh.2 with⟨_,hn⟩|⟨g,dd,cap,cur,rfl,hg,O0,vR,kO,rW⟩
 .omega
 have hi:i.toNat<l.length:=by omega
 refine⟨_,by rw[bD,bN hi];exact hR.2 i.toNat hi,λq hq=>?_⟩;show w.cell? ⟨g,dd*Data.size α+i.toNat*Data.size α+q,aA⟩=_;rw[aK w g _ cur e (0,0) hg];rw[cE,aQ hq,cI,<-rW,cE,aQ ?_,cI,dz,anV];have:=cm (Data.size α) (show i.toNat+1<=l.length from hi);rw[cL] at this;omega
theorem Rc {α:Type}[Data α]{xs:aa aO}{l:aa α}{lo hi:ah}(h:kR S w xs l)(h1:lo<=hi)(h2:hi<=l.length):kR S w ((xs.drop (lo*Data.size α)).take ((hi-lo)*Data.size α)) ((l.drop lo).take (hi-lo)):=by
 refine⟨?_,λi rR=>?_⟩
 .rw[bJ,b9,bJ,b9,h.1,<-apn];have:hi-lo<=l.length-lo:=by omega
  rw[eX (cm _ this),eX this]
 rw[bJ,b9] at rR;have TR:lo+i<l.length:=by omega
 have e1:((l.drop lo).take (hi-lo))[i]'(by rw[bJ,b9];exact rR)=l[lo+i]:=by simp
 rw[e1];have e2:((((xs.drop (lo*Data.size α)).take ((hi-lo)*Data.size α)).drop (i*Data.size α)).take (Data.size α))=(xs.drop ((lo+i)*Data.size α)).take (Data.size α):=by
  rw[apT,apU,apf,<-cB,eX];rw[<-apn];have:1<=hi-lo-i:=by omega
  calc Data.size α=1*Data.size α:=(Nat.one_mul _).symm
   _<=_:=cm _ this
 rw[e2];exact h.2 (lo+i) TR
theorem H9 {α:Type}[Data α]{p:ai ck}{len cap lo hi:ah}{l:aa α}(h:ux S w (.slice p len cap) l)(h1:lo<=hi)(h2:hi<=l.length):ux S w (sliced p lo hi cap (Data.size α)) ((l.drop lo).take (hi-lo)):=by
 have⟨p',c',e,k1,k2,k3⟩:=h;cases e;have hlen:((l.drop lo).take (hi-lo)).length=hi-lo:=by rw[bJ,b9];omega
 refine⟨_,cap-lo,by unfold sliced;rw[hlen],by rw[hlen];omega,by omega,?_⟩;rcases k3 with rfl|⟨g,off,cur,t,fz,rfl,hg,hw,hc⟩
 .exact .inl (by simp)
 by_cases q:cap=lo
 .exact .inl (cH (by rw[hlen];omega))
 refine .inr ⟨g,off+lo*Data.size α,cur,t,fz,by rw[aP q];simp[anW],hg,hw,λi rR=>?_⟩;rw[hlen] at rR;obtain⟨cs,q1,q2⟩:=hc (lo+i) (by omega);have e1:((l.drop lo).take (hi-lo))[i]'(by rw[hlen];exact rR)=l[lo+i]:=by simp
 refine⟨cs,by rw[e1];exact q1,λj hj=>?_⟩;rw[<-q2 j hj,cB]
 congr 1;omega
theorem mI.rd (h:mI S w e v l):Rd (λk=>S k\/v.ownBlock=az k) w v l:=by
 have⟨xs,h1,h2⟩:=h;refine tF ?_;rcases h1.2 with⟨rfl,hn⟩|⟨g,d,cap,cur,rfl,hg,O0,vR,kO,rW⟩
 .have:l=[]:=cH hn;subst this;exact⟨aA,0,rfl,by simp,by simp[maxLen],.inl rfl⟩
 refine⟨_,cap,rfl,O0,vR,.inr ⟨g,d*Data.size α,cur,e,(0,0),rfl,.inr rfl,hg,λj hj=>?_⟩⟩;refine⟨_,Data.up (λ_=>.inl) (h2.2 j hj),λq hq=>?_⟩;rw[cE,aQ hq,cI,<-rW,cE,aQ ?_,cI,dz,anV];have:=cm (Data.size α) (show j+1<=l.length from hj);rw[cL] at this;omega
end
inductive X2 where
 |nest (q:ah) (h:ai ah) (e:aV) (t:Ty) (ie:aV) (l:aa (El t))
 |mj (q:ah) (k:Kc) (h:ai (ko k)) (t:Ty) (ie:aV) (m:jw k (aa (El t)))
 |Br (t:Ty) (x:vz (El t))
 |par (t:Ty) (x:vz (El t))
 |JM (t:Ty) (x:El t)
 |Eh (t:Ty) (x:El t)
 |JN (q:ah) (k:Kc) (t:Ty) (m:jw k (El t)) (x:ko k)
 |Ia (D:ah)
 |uV (e:aV) (s:aj)
 |nb (q k i:ah) (e:aV) (t:Ty) (ie:aV) (l:aa (aa (El t)))
inductive R2 where
 |ro (t:Ty) (l:aa (El t))
 |ar (t:Ty) (l:aa (El t))
 |row (e:aV) (t:Ty) (l:aa (El t))
 |box (t:aV) (cs:aa Sc)
 |yq (k:Kc) (t:Ty) (m:jw k (El t))
 |Dv (k:Kc) (t:Ty) (m:jw k (El t))
 |map (k:Kc) (t:Ty) (m:jw k (El t))
 |iter (k:Kc) (t:Ty) (m:jw k (El t)) (lf:ko k->ak) (cnt:ah) (cur:ai (ko k×El t))
 |ext (x:X2)
structure Rs where
 ok:jv->aN->Prop
 has:ah->Prop
 keep:∀S w w',ok S w->nC S w w'->(∀b,has b->w'.heap[b]?=w.heap[b]?)->ok S w'
 up:∀(S S':jv) w,ok S w->(∀k,S k->S' k)->ok S' w
def Rs.of (r:sD):Rs:=⟨λS w=>r.ok S w,λb=>r.block=az b,λ_ _ _ h hk hb=>sD.JE h hk hb,λ_ _ _ h hs=>sD.aiG h hs⟩
def yE:Rs:=⟨λ_ _=>av,λ_=>False,λ_ _ _ _ _ _=>trivial,λ_ _ _ _ _=>trivial⟩
def yF {α:Type}[Data α](e:aV)(v:aO)(l:aa α):Rs:=⟨λS w=>mI S w e v l,λb=>v.ownBlock=az b,λ_ _ _ h hk hb=>h.keep hk hb,λ_ _ _ h hs=>h.up hs⟩
def Am {k:Kc}{α:Type}[Data α](x:ai ah)(m:jw k α):Rs where
 ok S w:=∃b,x=az b/\rO S w b m
 has b:=x=az b
 keep:=λS w w' ⟨b,e,h⟩ hk hb=>⟨b,e,h.keep hk (hb b e)⟩
 up:=λS S' w ⟨b,e,h⟩ hs=>⟨b,e,h.up hs⟩
def JO {k:Kc}{α:Type}[Data α](S:jv)(w:aN)(b:ah)(m:jw k α)(lf:ko k->ak)(cnt:ah)(cur:ai (ko k×α)):Prop:=
 ∃mb,∃zs:aa (ko k×(aO×α)),∃cu:ai (ko k×(aO×α)),S mb/\yD k w mb b (zs.map λq=>(q.1,q.2.1)) lf cnt (cu.map λq=>(q.1,q.2.1))/\m=zs.map (λq=>(q.1,q.2.2))/\(∀z∈zs,Rd S w z.2.1 z.2.2)/\cur=cu.map (λq=>(q.1,q.2.2))/\∀q,cu=az q->Rd S w q.2.1 q.2.2
def Bt {k:Kc}{α:Type}(w:aN)(b:ah)(m:jw k α)(lf:ko k->ak)(cur:ai (ko k×α)):Prop:=
 m=([]:aa (ko k×α))/\cur=aA/\(∀x,lf x=aD)/\∃since seen c0,w.heap[b]?=az (.mapIter aA since seen c0)
def Pd {k:Kc}{α:Type}[Data α](b:ah)(m:jw k α)(lf:ko k->ak)(cnt:ah)(cur:ai (ko k×α)):Rs where
 ok S w:=JO S w b m lf cnt cur\/Bt w b m lf cur
 has x:=x=b
 keep:=by
  intro S w w' h hk hb;rcases h with⟨mb,zs,cu,h1,h2,h3,h4,h5,h6⟩|⟨h1,h2,h3,s,se,c,h4⟩
  .have h7:=h2.keep (hk mb h1) (hb b rfl);exact .inl ⟨mb,zs,cu,h1,h7,h3,λz hz=>(h4 z hz).keep hk,h5,λq e=>(h6 q e).keep hk⟩
  exact .inr ⟨h1,h2,h3,s,se,c,(hb b rfl).trans h4⟩
 up:=by
  intro S S' w h hs;rcases h with⟨mb,zs,cu,h1,h2,h3,h4,h5,h6⟩|h
  .exact .inl ⟨mb,zs,cu,hs mb h1,h2,h3,λz hz=>(h4 z hz).up hs,h5,λq e=>(h6 q e).up hs⟩
  exact .inr h
def oW (t:Ty)(l:aa (El t)):aa uT:=l.flatMap (jT t)
theorem nK (t:Ty):∀l:aa (El t),(oW t l).length=l.length*jD t
 |[]=>by simp[oW]
 |x::l=>by
  show(jT t x++oW t l).length=_;rw[bA,mV,nK t l,List.length_cons,cL];omega
def Aa (S:jv)(w:aN)(ie:aV)(v:aO):uT->Prop
 | .l _ l=>mI S w ie v l
 |c=>uU S w v c/\v.ownBlock=aA
theorem Aa.keep {S:jv}{w w':aN}{ie:aV}{v:aO}{c:uT}(h:Aa S w ie v c)(hk:nC S w w')(hb:∀b,v.ownBlock=az b->w'.heap[b]?=w.heap[b]?):Aa S w' ie v c:=by
 cases c with
 |l t l=>exact mI.keep h hk hb
 |_=>exact⟨h.1.keep hk,h.2⟩
theorem Aa.up {S S':jv}{w:aN}{ie:aV}{v:aO}{c:uT}(h:Aa S w ie v c)(hs:∀k,S k->S' k):Aa S' w ie v c:=by
 cases c with
 |l t l=>exact mI.up h hs
 |_=>exact⟨h.1.up hs,h.2⟩
structure ot (S:jv)(w:aN)(v:aO)(f:Lit->aO)(h:ai ah)(e:aV)(t:Ty)(ie:aV)(l:aa (El t)):Prop where
 row:∃xs,oM w e (jD t) v l.length xs/\(∀u∈xs,u.oneCell'=aC)/\∀c x,(oW t l)[c]?=az x->h≠az c->xs[c]?=az (f (ix c))/\Aa S w ie (f (ix c)) x
 inj:∀c d b,c<l.length*jD t->d<l.length*jD t->h≠az c->h≠az d->(f (ix c)).ownBlock=az b->(f (ix d)).ownBlock=az b->c=d
 out:∀c b,c<l.length*jD t->h≠az c->(f (ix c)).ownBlock=az b->v.ownBlock≠az b
def AG (v:aO)(f:Lit->aO)(h:ai ah)(e:aV)(t:Ty)(ie:aV)(l:aa (El t)):Rs where
 ok S w:=ot S w v f h e t ie l
 has b:=v.ownBlock=az b\/∃c,c<l.length*jD t/\h≠az c/\(f (ix c)).ownBlock=az b
 keep:=by
  intro S w w' H hk hb;have⟨xs,h1,h2,h3⟩:=H.row;refine⟨⟨xs,h1.keep λb q=>hb b (.inl q),h2,λc x hc hh=>?_⟩,H.inj,H.out⟩;obtain⟨k1,k2⟩:=h3 c x hc hh;refine⟨k1,k2.keep hk λb q=>hb b (.inr ⟨c,?_,hh,q⟩)⟩;have:=(cF.1 hc).1;rwa[nK] at this
 up:=λS S' w H hs=>⟨let⟨xs,h1,h2,h3⟩:=H.row;⟨xs,h1,h2,λc x hc hh=>⟨(h3 c x hc hh).1,(h3 c x hc hh).2.up hs⟩⟩,H.inj,H.out⟩
structure Wq {α:Type}[Data α](S:jv)(w:aN)(v u:aO)(f:Lit->aO)(i:ah)(e ie:aV)(l:aa (aa α)):Prop where
 row:∃xs,oM w e 1 v l.length xs/\(∀u∈xs,u.oneCell'=aC)/\∀d (h:d<l.length),xs[d]?=az (f (ix d))/\(d≠i->mI S w ie (f (ix d)) l[d])
 inj:∀c d b,c<l.length->d<l.length->(f (ix c)).ownBlock=az b->(f (ix d)).ownBlock=az b->c=d
 out:∀c b,c<l.length->(f (ix c)).ownBlock=az b->v.ownBlock≠az b
 eq:u=f (ix i)
def af9 {α:Type}[Data α](v u:aO)(f:Lit->aO)(i:ah)(e ie:aV)(l:aa (aa α)):Rs where
 ok S w:=Wq S w v u f i e ie l
 has b:=v.ownBlock=az b\/∃c,c<l.length/\c≠i/\(f (ix c)).ownBlock=az b
 keep:=by
  intro S w w' H hk hb;have⟨xs,h1,h2,h3⟩:=H.row;exact⟨⟨xs,h1.keep λb q=>hb b (.inl q),h2,λd h=>⟨(h3 d h).1,λhd=>((h3 d h).2 hd).keep hk λb q=>hb b (.inr ⟨d,h,hd,q⟩)⟩⟩,H.inj,H.out,H.eq⟩
 up:=λS S' w H hs=>⟨let⟨xs,h1,h2,h3⟩:=H.row;⟨xs,h1,h2,λd h=>⟨(h3 d h).1,λhd=>((h3 d h).2 hd).up hs⟩⟩,H.inj,H.out,H.eq⟩
structure xE {k:Kc}{α:Type}[Data α](S:jv)(w:aN)(b:ah)(f:Lit->aO)(h:ai (ko k))(ie:aV)(m:jw k (aa α)):Prop where
 map:∃zs:aa (ko k×(aO×aa α)),nc k w b (zs.map λq=>(q.1,q.2.1))/\m=zs.map (λq=>(q.1,q.2.2))/\∀z∈zs,h≠az z.1->z.2.1=f (mD k z.1)/\mI S w ie z.2.1 z.2.2
 non:∀x,jo m x=aA->h≠az x->f (mD k x)= .slice aA 0 0
 inj:∀x y c,h≠az x->h≠az y->(f (mD k x)).ownBlock=az c->(f (mD k y)).ownBlock=az c->x=y
 out:∀x c,h≠az x->(f (mD k x)).ownBlock=az c->c≠b
def Wr {k:Kc}{α:Type}[Data α](y:ai ah)(f:Lit->aO)(h:ai (ko k))(ie:aV)(m:jw k (aa α)):Rs where
 ok S w:=∃b,y=az b/\xE S w b f h ie m
 has c:=y=az c\/∃x,h≠az x/\(f (mD k x)).ownBlock=az c
 keep:=by
  intro S w w' ⟨b,e,H⟩ hk hb;have⟨zs,h1,h2,h3⟩:=H.map;exact⟨b,e,⟨zs,h1.keep (hb b (.inl e)),h2,λz hz hh=>⟨(h3 z hz hh).1,(h3 z hz hh).2.keep hk λc q=>hb c (.inr ⟨z.1,hh,by rw[<-(h3 z hz hh).1];exact q⟩)⟩⟩,H.non,H.inj,H.out⟩
 up:=λS S' w ⟨b,e,H⟩ hs=>⟨b,e,let⟨zs,h1,h2,h3⟩:=H.map;⟨zs,h1,h2,λz hz hh=>⟨(h3 z hz hh).1,(h3 z hz hh).2.up hs⟩⟩,H.non,H.inj,H.out⟩
def qj {α:Type}[Data α](S:jv)(w:aN)(b:ah)(y:α):Prop:=∃cur t fz cs,S b/\w.heap[b]?=az (.cells cur t fz)/\Data.rd S w cs y/\∀j,j<Data.size α->cur[j]?=cs[j]?
def aeF {α:Type}[Data α](b:ah)(y:α):Rs where
 ok S w:=qj S w b y
 has _:=False
 keep:=λS w w' ⟨cur,t,fz,cs,h1,h2,h3,h4⟩ hk _=>⟨cur,t,fz,cs,h1,(hk b h1).trans h2,Data.keep hk h3,h4⟩
 up:=λS S' w ⟨cur,t,fz,cs,h1,h2,h3,h4⟩ hs=>⟨cur,t,fz,cs,hs b h1,h2,Data.up hs h3,h4⟩
def aeG {k:Kc}{α:Type}[Data α](y:ai ah)(f:Lit->aO)(m:jw k α)(key:ko k):Rs where
 ok S w:=∃b,y=az b/\rO S w b m/\∃st,f (mD k key)= .int .i64 st/\T3 k w b key st
 has b:=y=az b
 keep:=λS w w' ⟨b,e,h,st,h1,h2⟩ hk hb=>⟨b,e,h.keep hk (hb b e),st,h1,h2.keep (hb b e)⟩
 up:=λS S' w ⟨b,e,h,h2⟩ hs=>⟨b,e,h.up hs,h2⟩
def Ws (D:ah):Rs:=⟨λ_ w=>w.heap[D]?=az (.deferred (az [])),λb=>b=D,λ_ _ _ h _ hb=>(hb D rfl).trans h,λ_ _ _ h _=>h⟩
def Bu (s:aj):aa aO:=s.data.toList.map λx=>.int .u8 (x.toNat:af)
theorem xF {w w':aN}{base:ah}{e:aV}{sz:ah}{v:aO}{n:ah}{xs:aa aO}(h:w.ownsRow base e sz v n xs)(hb:∀b,v.ownBlock=az b->w'.heap[b]?=w.heap[b]?):w'.ownsRow base e sz v n xs:=
 ⟨h.1,h.2.imp id λ⟨g,cap,cur,e1,e2,e3,r⟩=>⟨g,cap,cur,e1,e2,(hb g (by rw[e1];rfl)).trans e3,r⟩⟩
def aiP (e:aV)(v:aO)(s:aj):Rs:=⟨λ_ w=>w.ownsRow 0 e 1 v s.size (Bu s),λb=>v.ownBlock=az b,λ_ _ _ h _ hb=>xF h hb,λ_ _ _ h _=>h⟩
def X2.den (A:jU)(j:ah):X2->Rs
 | .nest q h e t ie l=>AG (A.v j) (A.f q) h e t ie l
 | .mj q _ h _ ie m=>Wr (A.m j) (A.f q) h ie m
 | .Br _ x=>.of (.ro (.pointer (A.p j)) x)
 | .par _ _=>yE
 | .JM _ x=>aeF (A.b j) x
 | .Eh _ _=>yE
 | .JN q _ _ m x=>aeG (A.m j) (A.f q) m x
 | .Ia D=>Ws D
 | .uV e s=>aiP e (A.v j) s
 | .nb q k i e _ ie l=>af9 (A.v j) (A.v k) (A.f q) i e ie l
def X2.all (F:ah->Prop):X2->Prop
 | .nest q _ _ _ _ _=>F q
 | .mj q _ _ _ _ _=>F q
 | .JN q _ _ _ _=>F q
 | .nb q k _ _ _ _ _=>F q/\F k
 |_=>av
def R2.den (A:jU)(j:ah):R2->Rs
 | .ro t l=>.of (@sD.ro (aa (El t)) _ (A.v j) l)
 | .ar _ _=>yE
 | .row e t l=>@yF (El t) _ e (A.v j) l
 | .box t cs=>.of (.box (A.b j) t (cs.map (Sc.den A)))
 | .yq _ _ m=>.of (.ro (.map (A.m j)) m)
 | .Dv _ _ _=>yE
 | .map _ _ m=>Am (A.m j) m
 | .iter _ _ m lf cnt cur=>Pd (A.b j) m lf cnt cur
 | .ext x=>x.den A j
def R2.all (F:ah->Prop):R2->Prop
 | .box _ cs=> ∀c∈cs,c.all F
 | .ext x=>x.all F
 |_=>av
def lQ (F:ah->Prop)(A B:jU):Prop:=∀j,F j->A.v j=B.v j/\A.b j=B.b j/\A.f j=B.f j/\A.m j=B.m j
theorem lQ.set {F:ah->Prop}{A:jU}{j:ah}(h:¬F j)(p:ai ck)(n c b:ah):lQ F A (A.set j p n c b):=λk hk=>by
 have:k≠j:=λe=>h (e▸hk);simp[jU.set,jU.v,this]
theorem lQ.ox {F:ah->Prop}{A:jU}{j:ah}(h:¬F j)(g:Lit->aO):lQ F A (A.ox j g):=λk hk=>by
 have:k≠j:=λe=>h (e▸hk);simp[jU.ox,jU.v,this]
theorem lQ.jB {F:ah->Prop}{A:jU}{j:ah}(h:¬F j)(x:ai ah):lQ F A (A.jB j x):=λk hk=>by
 have:k≠j:=λe=>h (e▸hk);simp[jU.jB,jU.v,this]
theorem lQ.refl (F:ah->Prop)(A:jU):lQ F A A:=λ_ _=>⟨rfl,rfl,rfl,rfl⟩
theorem lQ.trans {F:ah->Prop}{A B C:jU}(h:lQ F A B)(k:lQ F B C):lQ F A C:=λj hj=>⟨(h j hj).1.trans (k j hj).1,(h j hj).2.1.trans (k j hj).2.1,(h j hj).2.2.1.trans (k j hj).2.2.1,(h j hj).2.2.2.trans (k j hj).2.2.2⟩
theorem lQ.mono {F G:ah->Prop}{A B:jU}(h:lQ G A B)(hs:∀j,F j->G j):lQ F A B:=λj hj=>h j (hs j hj)
section
variable {F:ah->Prop}{A B:jU}
theorem lQ.p (h:lQ F A B){j:ah}(k:F j):A.p j=B.p j:=by
 have:=(h j k).1
 grind [jU.v]
theorem Sc.congr (h:lQ F A B):∀ {s:Sc},s.all F->s.den A=s.den B
 | .v _,_=>rfl
 | .b _,_=>rfl
 | .own j,k=>(h j k).1
 | .mp j,k=>by simp only[den];rw[(h j k).2.2.2]
 | .ptr j off,k=>by simp only[den];rw[(h j k).2.1]
 | .el j i sz off,k=>by simp only[den];rw[(h j k).1]
 | .sR f kH,k=>by
  simp only[den]
  congr 2
  exact dm λc hc=>by rw[(h c.1 (k c hc)).2.1]
 | .hd p q ix,k=>by simp only[den];rw[(h q k.2).2.2.1]
 | .pd j,k=>by simp only[den];rw[h.p k]
theorem sU (h:lQ F A B){cs:aa Sc}(k:∀c∈cs,c.all F):cs.map (Sc.den A)=cs.map (Sc.den B):=dm λc hc=>Sc.congr h (k c hc)
theorem Sy.congr (h:lQ F A B):∀ {s:Sy},s.all F->s.den A=s.den B
 | .one s,k=>Sc.congr h k
 | .agg cs,k=>by simp only[den];rw[sU h k]
 | .vt ps,k=>by
  simp only[den]
  congr 2
  exact dm λp hp=>by unfold oy;rw[sU h (k p hp)]
theorem X2.congr (h:lQ F A B){j:ah}(hj:F j):∀ {r:X2},r.all F->r.den A j=r.den B j
 | .nest q _ _ _ _ _,k=>by simp only[den];rw[(h j hj).1,(h q k).2.2.1]
 | .mj q _ _ _ _ _,k=>by simp only[den];rw[(h j hj).2.2.2,(h q k).2.2.1]
 | .Br _ _,_=>by simp only[den];rw[h.p hj]
 | .par _ _,_=>rfl
 | .JM _ _,_=>by simp only[den];rw[(h j hj).2.1]
 | .Eh _ _,_=>rfl
 | .JN q _ _ _ _,k=>by simp only[den];rw[(h j hj).2.2.2,(h q k).2.2.1]
 | .Ia _,_=>rfl
 | .uV _ _,_=>by simp only[den];rw[(h j hj).1]
 | .nb q k _ _ _ _ _,z=>by simp only[den];rw[(h j hj).1,(h q z.1).2.2.1,(h k z.2).1]
theorem R2.congr (h:lQ F A B){j:ah}(hj:F j):∀ {r:R2},r.all F->r.den A j=r.den B j
 | .ro t l,_=>by simp only[den];rw[(h j hj).1]
 | .ar t l,_=>rfl
 | .row e t l,_=>by simp only[den];rw[(h j hj).1]
 | .box t cs,k=>by simp only[den];rw[(h j hj).2.1,sU h k]
 | .yq k t m,_=>by simp only[den];rw[(h j hj).2.2.2]
 | .Dv k t m,_=>rfl
 | .map k t m,_=>by simp only[den];rw[(h j hj).2.2.2]
 | .iter k t m lf cnt cur,_=>by simp only[den];rw[(h j hj).2.1]
 | .ext x,k=>X2.congr h hj k
variable {G:ah->Prop}
theorem Sc.mono (h:∀j,F j->G j):∀ {s:Sc},s.all F->s.all G
 | .v _,_=>trivial
 | .b _,_=>trivial
 | .own j,k=>h j k
 | .mp j,k=>h j k
 | .ptr j _,k=>h j k
 | .el j _ _ _,k=>h j k
 | .sR _ _,k=>λc hc=>h _ (k c hc)
 | .hd _ _ _,k=>⟨h _ k.1,h _ k.2⟩
 | .pd _,k=>h _ k
theorem Sy.mono (h:∀j,F j->G j):∀ {s:Sy},s.all F->s.all G
 | .one _,k=>Sc.mono h k
 | .agg _,k=>λc hc=>Sc.mono h (k c hc)
 | .vt _,k=>λp hp c hc=>Sc.mono h (k p hp c hc)
theorem X2.mono (h:∀j,F j->G j):∀ {r:X2},r.all F->r.all G
 | .nest _ _ _ _ _ _,k=>h _ k
 | .mj _ _ _ _ _ _,k=>h _ k
 | .Br _ _,_=>trivial
 | .par _ _,_=>trivial
 | .JM _ _,_=>trivial
 | .Eh _ _,_=>trivial
 | .JN _ _ _ _ _,k=>h _ k
 | .Ia _,_=>trivial
 | .uV _ _,_=>trivial
 | .nb _ _ _ _ _ _ _,z=>⟨h _ z.1,h _ z.2⟩
theorem R2.mono (h:∀j,F j->G j):∀ {r:R2},r.all F->r.all G
 | .ro _ _,_=>trivial
 | .ar _ _,_=>trivial
 | .row _ _ _,_=>trivial
 | .box _ _,k=>λc hc=>Sc.mono h (k c hc)
 | .yq _ _ _,_=>trivial
 | .Dv _ _ _,_=>trivial
 | .map _ _ _,_=>trivial
 | .iter _ _ _ _ _ _,_=>trivial
 | .ext _,k=>X2.mono h k
end
structure rE (w w':aN)(H:ah->Prop):Prop where
 os:w'.os=w.os
 tape:w'.tape=w.tape
 output:w'.output=w.output
 size:w.heap.size<=w'.heap.size
 block:∀k,k<w.heap.size->¬H k->w'.heap[k]?=w.heap[k]?
theorem rE.of {w w':aN}{r:ai ah}(h:w.grownBy w' r):rE w w' (λb=>r=az b):=⟨h.os,h.tape,h.output,h.size,λk hk hn=>h.block k hk λe=>hn e.symm⟩
theorem rE.refl (w:aN)(H:ah->Prop):rE w w H:=⟨rfl,rfl,rfl,aW _,λ_ _ _=>rfl⟩
theorem rE.trans {a b c:aN}{H K:ah->Prop}(h:rE a b H)(k:rE b c K)(hk:∀j,j<a.heap.size->K j->H j):rE a c H:=
 ⟨k.os.trans h.os,k.tape.trans h.tape,k.output.trans h.output,bC h.size k.size,λj hj hn=>(k.block j (bR hj h.size) λq=>hn (hk j hj q)).trans (h.block j hj hn)⟩
theorem rE.below {a b:aN}{H:ah->Prop}(h:Below a.heap.size a b):rE a b H:=⟨h.os,h.tape,h.output,h.size,λk hk _=>h.block k hk⟩
structure jO extends Orig where
 G:ah->Prop
 gS:∀k,G k->¬S k
 gin:∀k,G k->k<w.heap.size
 pF:ah->Prop
 pA:jU
 kp:ah
def Wt:jU:=⟨λ_=>aA,λ_=>0,λ_=>0,λ_=>0,λ_ _=>aL,λ_=>aA⟩
def jO.of (o:Orig):jO:=⟨o,λ_=>False,λ_ h=>h.elim,λ_ h=>h.elim,λ_=>False,Wt,0⟩
def jO.new (o:jO)(b:ah):Prop:=o.w.heap.size<=b\/o.G b
def jO.old (o:jO):jv:=λk=>k<o.w.heap.size/\¬o.G k
abbrev JP (o:jO)(w':aN):jv:=λk=>o.S k\/(o.new k/\k<w'.heap.size)
structure oz (o:jO)(w:aN)(S:jv)(f:ah->ai Rs):Prop where
 sJ:rE o.w w o.G
 src:∀k,S k->o.S k\/o.new k
 pT:∀k,S k->k<w.heap.size
 ok:∀j r,f j=az r->r.ok S w
 own:∀j r b,f j=az r->r.has b->o.new b/\b<w.heap.size/\¬S b
 apart:∀i j ri rj b,f i=az ri->f j=az rj->ri.has b->rj.has b->i=j
def oH {α:Type}(f:ah->ai α)(j:ah)(x:ai α):ah->ai α:=λk=>if k=j then x else f k
section
variable {o:jO}{w w':aN}{S S':jv}{f:ah->ai Rs}
theorem jO.Mj {b:ah}(h:rE o.w w o.G)(k:w.heap.size<=b):o.new b:=.inl (bC h.size k)
theorem oz.old (h:oz o w S f):nC o.old o.w w:=λk hk=>h.sJ.block k hk.1 hk.2
theorem oz.start (o:jO):oz o o.w o.S (λ_=>aA):=
 ⟨rE.refl _ _,λ_ h=>.inl h,o.ok,λ_ _ h=>(by cases h),λ_ _ _ h=>(by cases h),λ_ _ _ _ _ h=>(by cases h)⟩
abbrev oz.at (h:oz o w S f):Orig:=⟨w,S,h.pT⟩
theorem oz.sub {g:ah->ai Rs}(h:oz o w S f)(hg:∀j r,g j=az r->f j=az r):oz o w S g:=
 ⟨h.sJ,h.src,h.pT,λj r k=>h.ok j r (hg j r k),λj r b k=>h.own j r b (hg j r k),λi j ri rj b k l=>h.apart i j ri rj b (hg i ri k) (hg j rj l)⟩
theorem oz.aeH (h:oz o w S f){j:ah}{r:Rs}(hj:f j=az r)(hb:Below w.heap.size w w'):∀b,r.has b->w'.heap[b]?=w.heap[b]?:=λb e=>hb.block b (h.own j r b hj e).2.1
theorem oz.on (h:oz o w S f)(hb:Below w.heap.size w w'):oz o w' S f where
 sJ:=h.sJ.trans (rE.below (H:=λ_=>False) hb) λ_ _ q=>q.elim
 src:=h.src
 pT k hk:=bR (h.pT k hk) hb.size
 ok j r hj:=r.keep _ _ _ (h.ok j r hj) (λk hk=>hb.block k (h.pT k hk)) (h.aeH hj hb)
 own j r b hj e:=let⟨h1,h2,h3⟩:=h.own j r b hj e;⟨h1,bR h2 hb.size,h3⟩
 apart:=h.apart
theorem oz.call (h:oz o w S f)(hb:Below w.heap.size w w'):oz o w' (λk=>S k\/(w.heap.size<=k/\k<w'.heap.size)) f where
 sJ:=(h.on hb).sJ
 src k hk:=hk.elim (h.src k) λq=>.inr (jO.Mj h.sJ q.1)
 pT k hk:=hk.elim (λq=>bR (h.pT k q) hb.size) λq=>q.2
 ok j r hj:=r.up _ _ _ (r.keep _ _ _ (h.ok j r hj) (λk hk=>hb.block k (h.pT k hk)) (h.aeH hj hb)) λ_=>.inl
 own j r b hj e:=let⟨h1,h2,h3⟩:=h.own j r b hj e;⟨h1,bR h2 hb.size,λq=>q.elim h3 λq=>anN _ (bR h2 q.1)⟩
 apart:=h.apart
theorem oz.put (h:oz o w S f)(j:ah)(r:Rs)(p9:r.ok S w)(hb:∀b,r.has b->o.new b/\b<w.heap.size/\¬S b/\∀i ri,i≠j->f i=az ri->¬ri.has b):oz o w S (oH f j (az r)) where
 sJ:=h.sJ
 src:=h.src
 pT:=h.pT
 ok i ri hi:=by
  unfold oH at hi;split at hi
  .cases hi;exact p9
  exact h.ok i ri hi
 own i ri b hi e:=by
  unfold oH at hi;split at hi
  .cases hi;obtain⟨h1,h2,h3,_⟩:=hb b e;exact⟨h1,h2,h3⟩
  exact h.own i ri b hi e
 apart i k ri rk b hi hk ei ek:=by
  unfold oH at hi hk;split at hi<;>split at hk
  .rename_i a c;exact a.trans c.symm
  .rename_i a c;cases hi;exact((hb b ei).2.2.2 k rk c hk ek).elim
  .rename_i a c;cases hk;exact((hb b ek).2.2.2 i ri a hi ei).elim
  exact h.apart i k ri rk b hi hk ei ek
theorem oz.Wu (h:oz o w S f)(j:ah){α:Type}[Data α]{v:aO}{a:α}(hr:Rd S w v a):oz o w S (oH f j (az (Rs.of (.ro v a)))):=h.put j _ hr λb e=>by cases e
theorem oz.Hh (h:oz o w S f)(j:ah){r:Rs}(hr:r.ok S w)(hn:∀b,¬r.has b):oz o w S (oH f j (az r)):=h.put j r hr λb e=>(hn b e).elim
theorem oz.Wv (h:oz o w S f)(j:ah)(x:Obj)(r:Rs)(p9:r.ok S (w.alloc x))(hb:∀b,r.has b->b=w.heap.size):oz o (w.alloc x) S (oH f j (az r)):=by
 refine(h.on (qC w x)).put j r p9 λb e=>?_;have e:=hb b e;subst e;have oC:w.heap.size<(w.alloc x).heap.size:=by simp
 refine⟨jO.Mj h.sJ (aW _),oC,λq=>anN _ (h.pT _ q),λi ri _ hi e=>anN _ (h.own i ri _ hi e).2.1⟩
theorem oz.swap (h:oz o w S f){g:ah->ai Rs}{N K:ah->Prop}(hc:rE w w' (λb=> ∃j r,K j/\f j=az r/\r.has b))(hS:∀k,S k->S' k)
  (hS':∀k,S' k->S k\/(((∃j r,K j/\f j=az r/\r.has k)\/w.heap.size<=k)/\k<w'.heap.size/\∀j r,N j->g j=az r->¬r.has k))
  (hold:∀j r,¬N j->g j=az r->¬K j/\f j=az r) (p9:∀j r,N j->g j=az r->r.ok S' w')
  (yB:∀j r b,N j->g j=az r->r.has b->((∃i ri,K i/\f i=az ri/\ri.has b)\/w.heap.size<=b)/\b<w'.heap.size)
  (Ww:∀i j ri rj b,N i->N j->g i=az ri->g j=az rj->ri.has b->rj.has b->i=j):oz o w' S' g:=by
 have hKn:∀b,(∃j r,K j/\f j=az r/\r.has b)->o.new b/\b<w.heap.size/\¬S b:=λb ⟨j,r,_,h2,h3⟩=>h.own j r b h2 h3;have hKo:∀j r b,¬K j->f j=az r->r.has b->¬ ∃i ri,K i/\f i=az ri/\ri.has b:=λj r b hj hf hb ⟨i,ri,h1,h2,h3⟩=>hj (by rw[h.apart j i r ri b hf h2 hb h3];exact h1);have x8:nC S w w':=λk hk=>hc.block k (h.pT k hk) λq=>(hKn k q).2.2 hk;refine⟨h.sJ.trans hc λj hj q=>?_,λk hk=>?_,λk hk=>?_,λj r hj=>?_,λj r b hj hb=>?_,λi j ri rj b hi hj ei ej=>?_⟩
 .rcases(hKn j q).1 with q|q
  .omega
  exact q
 .rcases hS' k hk with q|⟨q,_⟩
  .exact h.src k q
  rcases q with q|q
  .exact .inr (hKn k q).1
  exact .inr (jO.Mj h.sJ q)
 .rcases hS' k hk with q|q
  .exact bR (h.pT k q) hc.size
  exact q.2.1
 .by_cases hN:N j
  .exact p9 j r hN hj
  obtain⟨h1,h2⟩:=hold j r hN hj;exact r.up _ _ _ (r.keep _ _ _ (h.ok j r h2) x8 λb hb=>hc.block b (h.own j r b h2 hb).2.1 (hKo j r b h1 h2 hb)) hS
 .by_cases hN:N j
  .obtain⟨h1,h2⟩:=yB j r b hN hj hb;refine⟨?_,h2,λq=>?_⟩
   .rcases h1 with h1|h1
    .exact(hKn b h1).1
    exact jO.Mj h.sJ h1
   rcases hS' b q with q|⟨_,_,q⟩
   .rcases h1 with h1|h1
    .exact(hKn b h1).2.2 q
    have:=h.pT b q;omega
   exact q j r hN hj hb
  obtain⟨h1,h2⟩:=hold j r hN hj;obtain⟨k1,k2,k3⟩:=h.own j r b h2 hb;refine⟨k1,bR k2 hc.size,λq=>?_⟩;rcases hS' b q with q|⟨q,_,_⟩
  .exact k3 q
  rcases q with q|q
  .exact hKo j r b h1 h2 hb q
  omega
 by_cases hNi:N i<;>by_cases hNj:N j
 .exact Ww i j ri rj b hNi hNj hi hj ei ej
 .obtain⟨h1,h2⟩:=hold j rj hNj hj;rcases(yB i ri b hNi hi ei).1 with q|q
  .exact(hKo j rj b h1 h2 ej q).elim
  have:=(h.own j rj b h2 ej).2.1;omega
 .obtain⟨h1,h2⟩:=hold i ri hNi hi;rcases(yB j rj b hNj hj ej).1 with q|q
  .exact(hKo i ri b h1 h2 ei q).elim
  have:=(h.own i ri b h2 ei).2.1;omega
 exact h.apart i j ri rj b (hold i ri hNi hi).2 (hold j rj hNj hj).2 ei ej
theorem oz.mut (h:oz o w S f)(j:ah){r:Rs}(hj:f j=az r)(hg:rE w w' r.has):oz o w' S (oH f j aA):=by
 refine h.swap (N:=λ_=>False) (K:=λi=>i=j) ⟨hg.os,hg.tape,hg.output,hg.size,λk hk hn=>hg.block k hk λq=>hn ⟨j,r,rfl,hj,q⟩⟩ (λ_ q=>q) (λ_ q=>.inl q) (λi ri _ hi=>?_) (λ_ _ q=>q.elim) (λ_ _ _ q=>q.elim) (λ_ _ _ _ _ q=>q.elim)
 grind [oH]
end
inductive Tr (α:Type 1):Type 1 where
 |ret (a:α)
 |fail
 |slot (t:ah) (k:E2->Tr α)
 |res (j:ah) (k:R2->Tr α)
def Tr.run {α:Type 1}(s:ah->ai E2)(r:ah->ai R2):Tr α->ai α
 | .ret a=>az a
 | .fail=>aA
 | .slot t k=>match s t with
  |some e=>(k e).run s r
  |none=>aA
 | .res j k=>match r j with
  |some x=>(k x).run s r
  |none=>aA
theorem Tr.mono {α:Type 1}{s s':ah->ai E2}{r r':ah->ai R2}(hs:∀t e,s t=az e->s' t=az e)(hr:∀j x,r j=az x->r' j=az x):∀(T:Tr α) {a:α},T.run s r=az a->T.run s' r'=az a
 | .ret _,_,h=>h
 | .fail,_,h=>h
 | .slot t k,a,h=>by
  simp only[run] at h ⊢;split at h
  .rename_i e he;rw[hs t e he];exact Tr.mono hs hr _ h
  cases h
 | .res j k,a,h=>by
  simp only[run] at h ⊢;split at h
  .rename_i e he;rw[hr j e he];exact Tr.mono hs hr _ h
  cases h
structure Hid where
 lhs:jU->aN->Result aO
 rhs:jU->aN->Result aO
structure Out:Type 1 where
 cs:aa Prop
 hs:aa Hid
 sy:Sy
 re:aa (ah×ai R2)
def Cm:aa Prop->Prop
 |[]=>av
 |[p]=>p
 |p::q::r=>p/\Cm (q::r)
theorem vE:∀ {l:aa Prop},Cm l↔∀p∈l,p
 |[]=>by simp[Cm]
 |[p]=>by rw[List.forall_mem_singleton];rfl
 |p::q::r=>by
  show(p/\Cm (q::r))↔_;rw[List.forall_mem_cons,vE]
def j8 (i:af)(n:ah):Prop:=0<=i/\i<(n:af)
theorem kC {n:af}(h: -9223372036854775808<=n/\n<=9223372036854775807:=by omega):jX .i64 n:=h
def vA:aO->Sc
 | .bool b=>.b (.lit b)
 |v=>.v v
def Hi:aO->Sy
 | .agg cs=>.agg (cs.toList.map vA)
 |v=>.one (vA v)
def qm {α:Type 1}(C:aa (ah×ak)):bu->(Sy->Tr α)->Tr α
 | .tmp t,k=>.slot t λe=>match e.ch.isPrefixOf C with
  |true=>k e.sy
  |false=>.fail
 | .const v,k=>k (Hi v)
 | .func f,k=>k (.one (.sR f []))
 | .global _,_=>.fail
def Mk {α:Type 1}(C:aa (ah×ak)):aa bu->(aa Sy->Tr α)->Tr α
 |[],k=>k []
 |x::l,k=>qm C x λs=>Mk C l λr=>k (s::r)
def one (s:Sc):Tr Out:=.ret ⟨[],[],.one s,[]⟩
def ya (p:Prop)(s:Sc):Tr Out:=.ret ⟨[p],[],.one s,[]⟩
def num (n:af):Sc:=.v (.int .i64 n)
def jK {α:Type 1}(b:ak)(T:Tr α):Tr α:=match b with
 |true=>T
 |false=>.fail
abbrev Re:Ty->ah:=jD
theorem Wx (t:Ty):Re t=Data.size (El t):=lZ t
def j4 (k:ak):ah->aa uT->aa Sc×aa (ah×ai R2)
 |_,[]=>([],[])
 |b,.i n::r=>let x:=j4 k b r;(num n::x.1,x.2)
 |b,.b e::r=>let x:=j4 k b r;(.b (.raw e)::x.1,x.2)
 |b,.s s::r=>let x:=j4 k b r;(.v (.string s)::x.1,x.2)
 |b,.l t l::r=>let x:=j4 k (b+1) r;(.own b::x.1,(b,az (match k with|true=>.ro t l|false=>.ar t l))::x.2)
 |b,.m q t m::r=>let x:=j4 k (b+1) r;(.mp b::x.1,(b,az (match k with|true=>.yq q t m|false=>.Dv q t m))::x.2)
 |b,.p t y::r=>let x:=j4 k (b+1) r;(.pd b::x.1,(b,az (match k with|true=>.ext (.Br t y)|false=>.ext (.par t y)))::x.2)
def pU:R2->ai ((t:Ty)×aa (El t))
 | .ro t l=>az ⟨t,l⟩
 | .ar t l=>az ⟨t,l⟩
 | .row _ t l=>az ⟨t,l⟩
 |_=>aA
def Ml:R2->ai ((k:Kc)×(t:Ty)×jw k (El t))
 | .yq k t m=>az ⟨k,t,m⟩
 | .Dv k t m=>az ⟨k,t,m⟩
 | .map k t m=>az ⟨k,t,m⟩
 |_=>aA
def Rf:R2->ai ((t:Ty)×aa (El t))
 | .ext (.nest _ _ _ t _ l)=>az ⟨t,l⟩
 |x=>pU x
def aeI:R2->ai ((t:Ty)×aa (El t))
 | .ext (.nest _ aA _ t _ l)=>az ⟨t,l⟩
 |x=>pU x
def alx:R2->ai ((k:Kc)×(t:Ty)×jw k (El t))
 | .ext (.mj _ k _ t _ m)=>az ⟨k,.list t,m⟩
 |x=>Ml x
def Pe:R2->ai ((k:Kc)×(t:Ty)×jw k (El t))
 | .ext (.mj _ k aA t _ m)=>az ⟨k,.list t,m⟩
 |x=>Ml x
def Mm:R2->ai ((t:Ty)×vz (El t))
 | .ext (.Br t x)=>az ⟨t,x⟩
 | .ext (.par t x)=>az ⟨t,x⟩
 |_=>aA
def Wy:R2->ai ((t:Ty)×El t)
 | .ext (.JM t x)=>az ⟨t,x⟩
 | .ext (.Eh t x)=>az ⟨t,x⟩
 |_=>aA
def pV:R2->ak
 | .ar _ _=>aD
 | .Dv _ _ _=>aD
 | .ext (.par _ _)=>aD
 | .ext (.Eh _ _)=>aD
 |_=>aC
def arith (op:BinOp)(k:dX)(a b:af):Tr Out:=
 match op with
 | .add=>ya (jX k (a+b)) (.v (.int k (a+b)))
 | .sub=>ya (jX k (a-b)) (.v (.int k (a-b)))
 | .mul=>ya (jX k (a*b)) (.v (.int k (a*b)))
 | .quo=>ya (0<=a/\0<b/\jX k a) (.v (.int k (a/b)))
 | .rem=>ya (0<=a/\0<b) (.v (.int k (a%b)))
 | .eql=>one (.b (.dec (a=b) inferInstance))
 | .neq=>one (.b (.not (.dec (a=b) inferInstance)))
 | .lss=>one (.b (.dec (a<b) inferInstance))
 | .leq=>one (.b (.dec (a<=b) inferInstance))
 | .gtr=>one (.b (.dec (b<a) inferInstance))
 | .geq=>one (.b (.dec (b<=a) inferInstance))
 | .shr=>jK (aE (k= .u64) && aE (b=1)) (one (.v (.int .u64 (a/2))))
 | .xor=>jK (aE (k= .i64) && aE (b=1)) (ya (0<=a/\a<=9223372036854775807) (.v (.int .i64 (if a%2=0 then a+1 else a-1))))
 |_=>.fail
def abH:BE->BE->BE
 |x,.lit aC=>x
 |x,y=>.and x y
def abI (P:aY)(cs ds:aa Sc):aa Field->ai BE
 |[]=>az (.lit aC)
 |f::fs=>match f.name== "_",P.underlying f.type,cs[f.offset]?,ds[f.offset]?,abI P cs ds fs with
  |false,az (.int _),az (.v (.int k a)),az (.v (.int k2 b)),az e=>match aE (k=k2) with
   |true=>az (abH (.dec (a=b) inferInstance) e)
   |false=>aA
  |false,az .string,az (.v (.string a)),az (.v (.string b)),az e=>az (abH (.dec (a=b) inferInstance) e)
  |_,_,_,_,_=>aA
def Rg (P:aY)(t:aV)(cs ds:aa Sc)(k:BE->Tr Out):Tr Out:=match P.underlying t with
 |some (.struct fs)=>jK (!P.stoodInHeld t && !P.eqGuardType P.depth t) (match abI P cs ds fs.toList with
  |some e=>k e
  |none=>.fail)
 |_=>.fail
def aga (P:aY)(op:BinOp)(t:aV):Sy->Sy->Tr Out
 | .agg cs,.agg ds=>match op with
  | .eql=>Rg P t cs ds λe=>one (.b e)
  | .neq=>Rg P t cs ds λe=>one (.b (.not e))
  |_=>.fail
 | .one (.v (.int k a)),.one (.v (.int k' b))=>jK (aE (k=k')) (arith op k a b)
 | .one (.v (.string a)),.one (.v (.string b))=>match op with
  | .add=>ya (a.size+b.size<=9223372036854775807) (.v (.string (a++b)))
  | .eql=>one (.b (.dec (a=b) inferInstance))
  | .neq=>one (.b (.not (.dec (a=b) inferInstance)))
  |_=>.fail
 | .one (.pd j),.one (.v (.pointer aA))=>match P.underlying t,op with
  |some (.pointer _),.eql=>.res j λx=>match Mm x with
   |some ⟨t',y⟩=>one (.b (.raw (show ai (El t') from y).isNone))
   |none=>.fail
  |some (.pointer _),.neq=>.res j λx=>match Mm x with
   |some ⟨t',y⟩=>one (.b (.raw (show ai (El t') from y).isSome))
   |none=>.fail
  |_,_=>.fail
 | .one (.ptr j off),.one (.v (.pointer aA))=>match P.underlying t,op with
  |some (.pointer _),.eql=>one (.b (.lit aD))
  |some (.pointer _),.neq=>one (.b (.lit aC))
  |_,_=>.fail
 | .one (.sR _ _),.one (.v .nilFunc)=>match P.underlying t,op with
  |some (.func _ _ _),.eql=>one (.b (.lit aD))
  |some (.func _ _ _),.neq=>one (.b (.lit aC))
  |_,_=>.fail
 | .one (.b a),.one (.b b)=>match P.underlying t,op with
  |some .bool,.eql=>one (.b (.raw (a.den==b.den)))
  |some .bool,.neq=>one (.b (.not (.raw (a.den==b.den))))
  |_,_=>.fail
 |_,_=>.fail
def Dw (j q:ah)(i:af)(sz:ah):ah->aa uT->ai (aa Sc)
 |_,[]=>az []
 |c,.i n::r=>(Dw j q i sz (c+1) r).map (num n:: ·)
 |c,.b e::r=>(Dw j q i sz (c+1) r).map (.b (.raw e):: ·)
 |c,.s s::r=>(Dw j q i sz (c+1) r).map (.v (.string s):: ·)
 |c,.l _ _::r=>(Dw j q i sz (c+1) r).map (.hd j q (.el i sz c):: ·)
 |_,.m _ _ _::_=>aA
 |_,.p _ _::_=>aA
def ani (P:aY)(t:aV)(n:ah)(one:Tr Out)(many:Tr Out):Tr Out:=
 match P.underlying t with
 |some (.struct _)=>jK ((P.info? t).isSome && bp n (P.cellsOf t)) many
 |some (.array _ _)=>.fail
 |some _=>one
 |none=>.fail
def Mn (P:aY)(k:ak)(b:ah)(t:aV)(cs:aa uT)(off:ah):Tr Out:=
 match P.underlying t with
 |some (.struct _)=>
  let c:=j4 k b ((cs.drop off).take (P.cellsOf t))
  jK ((P.info? t).isSome && bp c.1.length (P.cellsOf t)) (.ret ⟨[],[],.agg c.1,c.2⟩)
 |some (.array _ _)=>.fail
 |some _=>match cs[off]? with
  |some c=>match j4 k b [c] with
   |([s],re)=>.ret ⟨[],[],.one s,re⟩
   |_=>.fail
  |none=>.fail
 |none=>.fail
def Wz (P:aY)(b:ah)(t:aV):Sy->Tr Out
 | .one (.ptr j off)=>.res j λx=>match x with
  | .box _ cs=>match P.underlying t with
   |some (.struct _)=>jK ((P.info? t).isSome && bp ((cs.drop off).take (P.cellsOf t)).length (P.cellsOf t)) (.ret ⟨[],[],.agg ((cs.drop off).take (P.cellsOf t)),[]⟩)
   |some (.array _ _)=>.fail
   |some _=>match cs[off]? with
    |some s=>one s
    |none=>.fail
   |none=>.fail
  | .ext (.JM t' y)=>Mn P aC b t (jT t' y) off
  | .ext (.Eh t' y)=>Mn P aD b t (jT t' y) off
  |_=>.fail
 | .one (.el j i sz off)=>.res j λx=>match x with
  | .ext (.nest q aA _ t' _ l)=>jK (bp (Re t') sz) (match P.underlying t with
   |some (.struct _)=>match Dw j q i sz off (((jT t' (l.getD i.toNat (Bd t'))).drop off).take (P.cellsOf t)) with
    |some c=>jK ((P.info? t).isSome && bp c.length (P.cellsOf t)) (.ret ⟨[],[],.agg c,[]⟩)
    |none=>.fail
   |some (.array _ _)=>.fail
   |some _=>match(jT t' (l.getD i.toNat (Bd t')))[off]? with
    |some c=>match Dw j q i sz off [c] with
     |some [s]=>one s
     |_=>.fail
    |none=>.fail
   |none=>.fail)
  |x=>match pU x with
   |some ⟨t',l⟩=>jK (bp (Re t') sz) (Mn P (pV x) b t (jT t' (l.getD i.toNat (Bd t'))) off)
   |none=>.fail
 |_=>.fail
def WA (C:aa (ah×ak))(c x y:bu):Tr Out:=
 match c with
 | .tmp t=>qm C c λs=>match s with
  | .one (.b (.lit aC))=>qm C x λr=>.ret ⟨[],[],r,[]⟩
  | .one (.b (.lit aD))=>qm C y λr=>.ret ⟨[],[],r,[]⟩
  | .one (.b e)=>match x,y with
   | .const (.bool aC),y=>qm (C++[(t,aD)]) y λr=>match r with
    | .one (.b q)=>one (.b (.or e q))
    |_=>.fail
   |x,.const (.bool aD)=>qm (C++[(t,aC)]) x λr=>match r with
    | .one (.b p)=>one (.b (.and e p))
    |_=>.fail
   |_,_=>.fail
  |_=>.fail
 |_=>.fail
def agb {α:Type 1}(l:aa Sc)(k:af->aa Sc->Tr α):Tr α:=match l with
 | .v (.int .i64 m)::l=>k m l
 |_=>.fail
def WB {α:Type 1}(l:aa Sc)(k:ak->aa Sc->Tr α):Tr α:=match l with
 | .b e::l=>k e.den l
 |_=>.fail
def agc {α:Type 1}(l:aa Sc)(k:aj->aa Sc->Tr α):Tr α:=match l with
 | .v (.string m)::l=>k m l
 |_=>.fail
def WC {α:Type 1}(t:Ty)(l:aa Sc)(k:aa (El t)->aa Sc->Tr α):Tr α:=match l with
 | .own j::l=>.res j λx=>match aeI x with
  |some ⟨t',y⟩=>match qh (t:=.list t') (s:=.list t) y with
   |some z=>k z l
   |none=>.fail
  |none=>.fail
 | .v (.slice aA 0 0)::l=>k [] l
 |_=>.fail
def agd {α:Type 1}(k:Kc)(t:Ty)(l:aa Sc)(c:jw k (El t)->aa Sc->Tr α):Tr α:=match l with
 | .mp j::l=>.res j λx=>match Pe x with
  |some ⟨k',t',y⟩=>match qh (t:=.map k' t') (s:=.map k t) y with
   |some z=>c z l
   |none=>.fail
  |none=>.fail
 | .v (.map aA)::l=>c ([]:aa (ko k×El t)) l
 |_=>.fail
def age {α:Type 1}(t:Ty)(l:aa Sc)(c:vz (El t)->aa Sc->Tr α):Tr α:=match l with
 | .pd j::l=>.res j λx=>match Mm x with
  |some ⟨t',y⟩=>match qh (t:=.ptr t') (s:=.ptr t) y with
   |some z=>c z l
   |none=>.fail
  |none=>.fail
 | .ptr j off::l=>match off with
  |0=>.res j λx=>match Wy x with
   |some ⟨t',y⟩=>match qh (t:=t') (s:=t) y with
    |some z=>c (az z:ai (El t)) l
    |none=>.fail
   |none=>.fail
  |_=>.fail
 | .v (.pointer aA)::l=>c (aA:ai (El t)) l
 |_=>.fail
def Pf {α:Type 1}:(t:Ty)->aa Sc->(El t->aa Sc->Tr α)->Tr α
 | .int,l,k=>agb l k
 | .bool,l,k=>WB l k
 | .str,l,k=>agc l k
 | .unit,l,k=>k () l
 | .list t,l,k=>WC t l k
 | .map q t,l,k=>agd q t l k
 | .ptr t,l,k=>age t l k
 | .pair p q,l,k=>Pf p l λx l'=>Pf q l' λy l''=>k (x,y) l''
def rZ {α:Type 1}(t:Ty)(y:Sy)(k:El t->Tr α):Tr α:=
 match y,l8 t with
 | .one c,aD=>Pf t [c] λx l=>match l with
  |[]=>k x
  |_=>.fail
 | .agg cs,aC=>Pf t cs λx l=>match l with
  |[]=>k x
  |_=>.fail
 |_,_=>.fail
def Dx:(k:Kc)->Sy->ai (ko k)
 | .int,.one (.v (.int .i64 n))=>az (show af from n)
 | .str,.one (.v (.string s))=>az (show aj from s)
 |_,_=>aA
def vF (P:aY)(kt:aV):Kc->ak
 | .int=>match P.underlying kt with
  |some (.int .i64)=>aC
  |_=>aD
 | .str=>match P.underlying kt with
  |some .string=>aC
  |_=>aD
def E5 (P:aY)(t:aV):ai Sy:=match P.info? t with
 |some i=>i.zero.map Hi
 |none=>aA
def r5 (P:aY)(t:aV)(y:Sy):Hid:=⟨λ_ w=>(zeroValue t).run P w,λA w=>.ok (y.den A) w⟩
def HZ (P:aY)(b:ah)(t:aV)(ok:ak)(p q:Sy):Tr Out:=
 match P.underlying t with
 |some (.map kt et)=>match p with
  | .one (.mp j)=>.res j λr=>match r with
   | .ext (.mj qf k aA _ _ m)=>match Dx k q with
    |some x=>jK (vF P kt k) (match ok with
     |true=>.ret ⟨[nv k x],[r5 P et (.one (.v (.slice aA 0 0)))],.vt [(aD,[.hd j qf (.ky k x)]),(aD,[.b (.raw (jo m x).isSome)])],[]⟩
     |false=>.ret ⟨[nv k x],[r5 P et (.one (.v (.slice aA 0 0)))],.one (.hd j qf (.ky k x)),[]⟩)
    |none=>.fail
   |r=>match Ml r with
   |some ⟨k,ty,m⟩=>match Dx k q,E5 P et with
    |some x,az z=>jK (vF P kt k) (rZ ty z λx0=>
     let c:=j4 (pV r) b (jT ty ((jo m x).getD x0))
     match ok with
     |true=>.ret ⟨[nv k x],[r5 P et z],.vt [(l8 ty,c.1),(aD,[.b (.raw (jo m x).isSome)])],c.2⟩
     |false=>match l8 ty,c.1 with
      |true,cs=>.ret ⟨[nv k x],[r5 P et z],.agg cs,c.2⟩
      |false,[s]=>.ret ⟨[nv k x],[r5 P et z],.one s,c.2⟩
      |_,_=>.fail)
    |_,_=>.fail
   |none=>.fail
  |_=>.fail
 |_=>.fail
def sV (P:aY)(C:aa (ah×ak))(b:ah):Op->Tr Out
 | .move x=>qm C x λs=>.ret ⟨[],[],s,[]⟩
 | .assign x=>qm C x λs=>.ret ⟨[],[],s,[]⟩
 | .unOp .not _ x=>qm C x λs=>match s with
  | .one (.b e)=>one (.b (.not e))
  |_=>.fail
 | .extract x i=>qm C x λs=>match s with
  | .vt ps=>match ps[i]? with
   |some (aC,cs)=>.ret ⟨[],[],.agg cs,[]⟩
   |some (aD,[c])=>one c
   |_=>.fail
  |_=>.fail
 | .nilCheck x=>qm C x λs=>match s with
  | .one (.ptr j off)=>one (.ptr j off)
  | .one (.el j i sz off)=>one (.el j i sz off)
  | .one (.pd j)=>.res j λx=>match x with
   | .ext (.Br t y)=>.ret ⟨[(show ai (El t) from y).isSome=aC],[],.one (.ptr b 0),[(b,az (.ext (.JM t ((show ai (El t) from y).getD (Bd t)))))]⟩
   | .ext (.par t y)=>.ret ⟨[(show ai (El t) from y).isSome=aC],[],.one (.ptr b 0),[(b,az (.ext (.Eh t ((show ai (El t) from y).getD (Bd t)))))]⟩
   |_=>.fail
  |_=>.fail
 | .binOp op t x y _=>qm C x λp=>qm C y λq=>aga P op t p q
 | .convert s d x=>match P.underlying s,P.underlying d with
  |some (.int _),az (.int k)=>qm C x λp=>match p with
   | .one (.v (.int _ n))=>ya (jX k n) (.v (.int k n))
   |_=>.fail
  |_,_=>.fail
 | .index t x i=>match P.underlying t with
  |some .string=>qm C x λp=>qm C i λq=>match p,q with
   | .one (.v (.string s)),.one (.v (.int _ n))=>ya (j8 n s.size) (.v (.int .u8 (pE s n)))
   |_,_=>.fail
  |_=>.fail
 | .indexAddr t x i=>match P.underlying t with
  |some (.slice e)=>qm C x λp=>qm C i λq=>match p,q with
   | .one (.own j),.one (.v (.int _ n))=>.res j λr=>match Rf r with
    |some ⟨t',l⟩=>jK ((P.info? e).isSome) (ya (j8 n l.length) (.el j n (P.cellsOf e) 0))
    |none=>.fail
   |_,_=>.fail
  |_=>.fail
 | .fieldAddr t x f=>match P.underlying t with
  |some (.struct fs)=>match fs[f]? with
   |some fd=>jK (bP 0 (P.cellsOf fd.type)) (qm C x λp=>match p with
    | .one (.ptr j off)=>one (.ptr j (off+fd.offset))
    | .one (.el j i sz off)=>one (.el j i sz (off+fd.offset))
    |_=>.fail)
   |none=>.fail
  |_=>.fail
 | .load t x=>qm C x λp=>Wz P b t p
 | .field t x f=>match P.underlying t with
  |some (.struct fs)=>match fs[f]? with
   |some fd=>qm C x λp=>match p with
    | .agg cs=>match P.underlying fd.type with
     |some (.struct _)=>jK ((P.info? fd.type).isSome) (.ret ⟨[],[],.agg ((cs.drop fd.offset).take (P.cellsOf fd.type)),[]⟩)
     |some (.array _ _)=>.fail
     |some _=>match cs[fd.offset]? with
      |some s=>one s
      |none=>.fail
     |none=>.fail
    |_=>.fail
   |none=>.fail
  |_=>.fail
 | .pick c x y=>WA C c x y
 | .call c=>match c.callee,c.args.toList with
  | .builtin .len,[x]=>match(c.argTypes[0]?).bind P.underlying with
   |some .string=>qm C x λp=>match p with
    | .one (.v (.string s))=>one (num (s.size:af))
    |_=>.fail
   |some (.slice _)=>qm C x λp=>match p with
    | .one (.own j)=>.res j λr=>match r with
     | .ext (.uV _ s)=>one (num (s.size:af))
     |r=>match Rf r with
      |some ⟨t',l⟩=>one (num (aM l:af))
      |none=>.fail
    | .one (.v (.slice aA 0 0))=>one (num 0)
    |_=>.fail
   |_=>.fail
  | .builtin .max,[x,y]=>qm C x λp=>qm C y λq=>match p,q with
   | .one (.v (.int .i64 a)),.one (.v (.int .i64 b))=>one (num (max a b))
   |_,_=>.fail
  | .builtin .min,[x,y]=>qm C x λp=>qm C y λq=>match p,q with
   | .one (.v (.int .i64 a)),.one (.v (.int .i64 b))=>one (num (min a b))
   |_,_=>.fail
  |_,_=>.fail
 |_=>.fail
theorem yG (A:jU)(v:aO):(vA v).den A=v:=by unfold vA;split<;>rfl
theorem WD (A:jU)(v:aO):(Hi v).den A=v:=by
 unfold Hi;split
 .rename_i cs;simp only[Sy.den,List.map_map];have:(Sc.den A∘vA)=id:=by funext x;exact yG A x
  rw[this,List.map_id]
 exact yG A _
def Sc.lu (A:jU):Sc->Prop
 | .el j i _ _=>L3 (A.v j) i
 |_=>av
def Sy.lu (A:jU):Sy->Prop
 | .one s=>s.lu A
 | .agg cs=> ∀c∈cs,c.lu A
 | .vt ps=> ∀p∈ps,∀c∈p.2,c.lu A
def R2.lu (A:jU):R2->Prop
 | .box _ cs=> ∀c∈cs,c.lu A
 |_=>av
theorem wD (A:jU)(v:aO):(vA v).lu A:=by unfold vA;split<;>trivial
theorem yH (F:ah->Prop)(v:aO):(vA v).all F:=by unfold vA;split<;>trivial
theorem T4 (A:jU)(v:aO):(Hi v).lu A:=by
 unfold Hi;split
 .intro c hc;obtain⟨x,_,rfl⟩:=bz.1 hc;exact wD A x
 exact wD A _
theorem WE (F:ah->Prop)(v:aO):(Hi v).all F:=by
 unfold Hi;split
 .intro c hc;obtain⟨x,_,rfl⟩:=bz.1 hc;exact yH F x
 exact yH F _
theorem Sc.nj {F:ah->Prop}{A B:jU}(h:lQ F A B):∀ {s:Sc},s.all F->s.lu A->s.lu B
 | .el j i _ _,k,g=>by simp only[lu] at g ⊢;rw[<-(h j k).1];exact g
 | .v _,_,_=>trivial
 | .b _,_,_=>trivial
 | .own _,_,_=>trivial
 | .mp _,_,_=>trivial
 | .ptr _ _,_,_=>trivial
 | .sR _ _,_,_=>trivial
 | .hd _ _ _,_,_=>trivial
 | .pd _,_,_=>trivial
theorem Sy.nj {F:ah->Prop}{A B:jU}(h:lQ F A B):∀ {s:Sy},s.all F->s.lu A->s.lu B
 | .one _,k,g=>Sc.nj h k g
 | .agg _,k,g=>λc hc=>Sc.nj h (k c hc) (g c hc)
 | .vt _,k,g=>λp hp c hc=>Sc.nj h (k p hp c hc) (g p hp c hc)
theorem R2.nj {F:ah->Prop}{A B:jU}(h:lQ F A B):∀ {s:R2},s.all F->s.lu A->s.lu B
 | .box _ _,k,g=>λc hc=>Sc.nj h (k c hc) (g c hc)
 | .ro _ _,_,_=>trivial
 | .ar _ _,_,_=>trivial
 | .row _ _ _,_,_=>trivial
 | .yq _ _ _,_,_=>trivial
 | .Dv _ _ _,_,_=>trivial
 | .map _ _ _,_,_=>trivial
 | .iter _ _ _ _ _ _,_,_=>trivial
 | .ext _,_,_=>trivial
abbrev jL (A:jU)(r:ah->ai R2):ah->ai Rs:=λj=>(r j).map (R2.den A j)
def yI (o:jO)(A:jU)(j:ah):R2->Prop
 | .ar _ x=>Rd o.old o.w (A.v j) x
 | .Dv _ _ x=>Rd o.old o.w (.map (A.m j)) x
 | .ext (.par _ x)=>Rd o.old o.w (.pointer (A.p j)) x
 | .ext (.Eh _ x)=>qj o.old o.w (A.b j) x
 |_=>av
theorem yI.congr {o:jO}{F:ah->Prop}{A B:jU}(h:lQ F A B){j:ah}(k:F j):∀ {x:R2},yI o A j x->yI o B j x
 | .ar _ _,q=>by show Rd _ _ _ _;rw[<-(h j k).1];exact q
 | .Dv _ _ _,q=>by show Rd _ _ _ _;rw[<-(h j k).2.2.2];exact q
 | .ext (.par _ _),q=>by show Rd _ _ _ _;rw[<-h.p k];exact q
 | .ext (.Eh _ _),q=>by show qj _ _ _ _;rw[<-(h j k).2.1];exact q
 | .ro _ _,_=>trivial
 | .row _ _ _,_=>trivial
 | .box _ _,_=>trivial
 | .yq _ _ _,_=>trivial
 | .map _ _ _,_=>trivial
 | .iter _ _ _ _ _ _,_=>trivial
 | .ext (.nest _ _ _ _ _ _),_=>trivial
 | .ext (.mj _ _ _ _ _ _),_=>trivial
 | .ext (.Br _ _),_=>trivial
 | .ext (.JM _ _),_=>trivial
 | .ext (.JN _ _ _ _ _),_=>trivial
 | .ext (.Ia _),_=>trivial
 | .ext (.uV _ _),_=>trivial
 | .ext (.nb _ _ _ _ _ _ _),_=>trivial
structure kW (o:jO)(n:ah)(A:jU)(S:jv)(F:ah->Prop)(s:ah->ai E2)(r:ah->ai R2)(a:Act)(w:aN):Prop where
 size:a.tmps.size=n
 lK:a.defers=[]
 env:∀t e,s t=az e->HR a ⟨t,e.ch,e.sy.den A⟩
 rH:∀t e,s t=az e->oK a e.ch->e.sy.all F/\e.sy.lu A
 lq:∀j x,r j=az x->F j/\x.all F/\x.lu A
 jM:oz o w S (jL A r)
 args:∀j x,r j=az x->yI o A j x
 wj:(∀j,o.pF j->F j)/\lQ o.pF o.pA A
def aeJ (o:jO)(S:jv)(w:aN)(A:jU)(j:ah):R2->Prop
 | .ro _ x=>Rd S w (A.v j) x
 | .ar _ x=>Rd o.old o.w (A.v j) x
 | .yq _ _ x=>Rd S w (.map (A.m j)) x
 | .Dv _ _ x=>Rd o.old o.w (.map (A.m j)) x
 | .ext (.Br _ x)=>Rd S w (.pointer (A.p j)) x
 | .ext (.par _ x)=>Rd o.old o.w (.pointer (A.p j)) x
 | .ext (.JM _ x)=>qj S w (A.b j) x
 | .ext (.Eh _ x)=>qj o.old o.w (A.b j) x
 |_=>False
def tM (o:jO)(S:jv)(w:aN)(A:jU):ah->aa (ah×ai R2)->Prop
 |_,[]=>av
 |b,p::l=>b<=p.1/\(∃x,p.2=az x/\aeJ o S w A p.1 x)/\tM o S w A (p.1+1) l
theorem tM.aly {o:jO}{S:jv}{w:aN}{A:jU}{b b':ah}(h:b<=b'):∀ {l:aa (ah×ai R2)},tM o S w A b' l->tM o S w A b l
 |[],_=>trivial
 |_::_,k=>⟨bC h k.1,k.2⟩
def FU (F:ah->Prop)(re:aa (ah×ai R2)):ah->Prop:=λj=>F j\/∃x,(j,x)∈re
def Ei (o:jO)(S:jv)(w:aN)(k:ak)(vs:aa aO)(cs:aa uT):Prop:=match k with
 |true=>kQ S w vs cs
 |false=>kQ o.old o.w vs cs
theorem Ei.cons {o:jO}{S:jv}{w:aN}{k:ak}{v:aO}{vs:aa aO}{c:uT}{cs:aa uT}(h:Ei o S w k (v::vs) (c::cs)):(match k with|true=>uU S w v c|false=>uU o.old o.w v c)/\Ei o S w k vs cs:=by
 cases k<;>exact h
theorem Ei.T5 {o:jO}{S:jv}{w:aN}{k:ak}{c:uT}{cs:aa uT}(h:Ei o S w k [] (c::cs)):False:=by cases k<;>exact h
theorem Ei.alz {o:jO}{S:jv}{w:aN}{k:ak}{v:aO}{vs:aa aO}(h:Ei o S w k (v::vs) []):False:=by cases k<;>exact h
theorem oX {o:jO}{S:jv}{w:aN}{k:ak}{B:ah}:∀(cs:aa uT) (vs:aa aO) (b:ah) (A:jU) (F:ah->Prop),Ei o S w k vs cs->(∀j,b<=j->j<B->¬F j)->(∀p∈(j4 k b cs).2,p.1<B)->
  ∃A',lQ F A A'/\(j4 k b cs).1.map (Sc.den A')=vs/\tM o S w A' b (j4 k b cs).2/\∀s∈(j4 k b cs).1,s.all (FU F (j4 k b cs).2)/\s.lu A'
 |[],[],b,A,F,_,_,_=>⟨A,lQ.refl _ _,rfl,tv,λ_ h=>by cases h⟩
 |[],_::_,_,_,_,h,_,_=>h.alz.elim
 | .i n::r,[],_,_,_,h,_,_=>h.T5.elim
 | .b n::r,[],_,_,_,h,_,_=>h.T5.elim
 | .s n::r,[],_,_,_,h,_,_=>h.T5.elim
 | .l t n::r,[],_,_,_,h,_,_=>h.T5.elim
 | .m q t n::r,[],_,_,_,h,_,_=>h.T5.elim
 | .p t n::r,[],_,_,_,h,_,_=>h.T5.elim
 | .i n::r,v::vs,b,A,F,h,hF,hB=>by
  obtain⟨A',h1,h2,h3,h4⟩:=oX r vs b A F h.cons.2 hF hB;have hv:v= .int .i64 n:=by cases k<;>exact h.1
  refine⟨A',h1,by show Sc.den A' _::_=_;rw[h2,hv];rfl,h3,λs hs=>?_⟩;rcases bg.1 hs with rfl|hs
  .exact⟨tv,tv⟩
  exact h4 s hs
 | .b n::r,v::vs,b,A,F,h,hF,hB=>by
  obtain⟨A',h1,h2,h3,h4⟩:=oX r vs b A F h.cons.2 hF hB;have hv:v= .bool n:=by cases k<;>exact h.1
  refine⟨A',h1,by show Sc.den A' _::_=_;rw[h2,hv];rfl,h3,λs hs=>?_⟩;rcases bg.1 hs with rfl|hs
  .exact⟨tv,tv⟩
  exact h4 s hs
 | .s n::r,v::vs,b,A,F,h,hF,hB=>by
  obtain⟨A',h1,h2,h3,h4⟩:=oX r vs b A F h.cons.2 hF hB;have hv:v= .string n:=by cases k<;>exact h.1
  refine⟨A',h1,by show Sc.den A' _::_=_;rw[h2,hv];rfl,h3,λs hs=>?_⟩;rcases bg.1 hs with rfl|hs
  .exact⟨tv,tv⟩
  exact h4 s hs
 | .l t n::r,v::vs,b,A,F,h,hF,hB=>by
  obtain⟨p,c,hv⟩:∃p c,v= .slice p n.length c:=by
   cases k
   .obtain⟨p,c,hv,_⟩:=lz (show Rd o.old o.w v n from h.1);exact⟨p,c,hv⟩
   obtain⟨p,c,hv,_⟩:=lz (show Rd S w v n from h.1);exact⟨p,c,hv⟩
  have hA:=lQ.set (A:=A) (F:=F) (j:=b) (hF b (aW _) (hB _ aZ)) p n.length c 0;obtain⟨A',h1,h2,h3,h4⟩:=oX r vs (b+1) (A.set b p n.length c 0) (λj=>F j\/j=b) h.cons.2 (λj hj hB hn=>by
   rcases hn with hn|hn
   .exact hF j (by omega) hB hn
   omega) (λp hp=>hB p (bl _ hp))
  have hb:(A'.v b)=v:=by rw[<-(h1 b (.inr rfl)).1,jU.tL,hv]
  refine⟨A',hA.trans (h1.mono λj hj=>.inl hj),by show Sc.den A' (.own b)::_=_;rw[h2];simp only[Sc.den,hb],⟨aW _,⟨_,rfl,by
   cases k
   .show Rd _ _ (A'.v b) _;rw[hb];exact h.1
   show Rd _ _ (A'.v b) _;rw[hb];exact h.1⟩,h3⟩,λs hs=>?_⟩
  rcases bg.1 hs with rfl|hs
  .exact⟨.inr ⟨_,aZ⟩,tv⟩
  refine⟨Sc.mono (λj hj=>?_) (h4 s hs).1,(h4 s hs).2⟩;rcases hj with(hj|hj)|⟨x,hx⟩
  .exact .inl hj
  .subst hj;exact .inr ⟨_,aZ⟩
  exact .inr ⟨x,bl _ hx⟩
 | .m q t n::r,v::vs,b,A,F,h,hF,hB=>by
  obtain⟨y,hv⟩:∃y,v= .map y:=by
   cases k
   .obtain⟨y,hv,_⟩:=AF (show Rd o.old o.w v n from h.1);exact⟨y,hv⟩
   obtain⟨y,hv,_⟩:=AF (show Rd S w v n from h.1);exact⟨y,hv⟩
  have hA:=lQ.jB (A:=A) (F:=F) (j:=b) (hF b (aW _) (hB _ aZ)) y;obtain⟨A',h1,h2,h3,h4⟩:=oX r vs (b+1) (A.jB b y) (λj=>F j\/j=b) h.cons.2 (λj hj hB hn=>by
   rcases hn with hn|hn
   .exact hF j (by omega) hB hn
   omega) (λp hp=>hB p (bl _ hp))
  have hb:(.map (A'.m b))=v:=by rw[<-(h1 b (.inr rfl)).2.2.2,jU.E4,hv]
  refine⟨A',hA.trans (h1.mono λj hj=>.inl hj),by show Sc.den A' (.mp b)::_=_;rw[h2];simp only[Sc.den,hb],⟨aW _,⟨_,rfl,by
   cases k
   .show Rd _ _ (.map (A'.m b)) _;rw[hb];exact h.1
   show Rd _ _ (.map (A'.m b)) _;rw[hb];exact h.1⟩,h3⟩,λs hs=>?_⟩
  rcases bg.1 hs with rfl|hs
  .exact⟨.inr ⟨_,aZ⟩,tv⟩
  refine⟨Sc.mono (λj hj=>?_) (h4 s hs).1,(h4 s hs).2⟩;rcases hj with(hj|hj)|⟨x,hx⟩
  .exact .inl hj
  .subst hj;exact .inr ⟨_,aZ⟩
  exact .inr ⟨x,bl _ hx⟩
 | .p t n::r,v::vs,b,A,F,h,hF,hB=>by
  obtain⟨y,hv⟩:∃y,v= .pointer y:=by
   cases k
   .exact(xD (show Rd o.old o.w v n from h.1)).val
   exact(xD (show Rd S w v n from h.1)).val
  have hA:=lQ.set (A:=A) (F:=F) (j:=b) (hF b (aW _) (hB _ aZ)) y 0 0 0;obtain⟨A',h1,h2,h3,h4⟩:=oX r vs (b+1) (A.set b y 0 0 0) (λj=>F j\/j=b) h.cons.2 (λj hj hB hn=>by
   rcases hn with hn|hn
   .exact hF j (by omega) hB hn
   omega) (λp hp=>hB p (bl _ hp))
  have hb:(.pointer (A'.p b))=v:=by rw[<-h1.p (.inr rfl),jU.aiO,hv]
  refine⟨A',hA.trans (h1.mono λj hj=>.inl hj),by show Sc.den A' (.pd b)::_=_;rw[h2];simp only[Sc.den,hb],⟨aW _,⟨_,rfl,by
   cases k
   .show Rd _ _ (.pointer (A'.p b)) _;rw[hb];exact h.1
   show Rd _ _ (.pointer (A'.p b)) _;rw[hb];exact h.1⟩,h3⟩,λs hs=>?_⟩
  rcases bg.1 hs with rfl|hs
  .exact⟨.inr ⟨_,aZ⟩,tv⟩
  refine⟨Sc.mono (λj hj=>?_) (h4 s hs).1,(h4 s hs).2⟩;rcases hj with(hj|hj)|⟨x,hx⟩
  .exact .inl hj
  .subst hj;exact .inr ⟨_,aZ⟩
  exact .inr ⟨x,bl _ hx⟩
section
variable {P:aY}{o:jO}{n:ah}{A:jU}{S:jv}{F:ah->Prop}{s:ah->ai E2}{r:ah->ai R2}{a:Act}{w:aN}{C:aa (ah×ak)}{b:ah}
theorem zq (H:kW o n A S F s r a w){j:ah}{x:R2}(hj:r j=az x){t:Ty}{l:aa (El t)}(hx:pU x=az ⟨t,l⟩):Rd (· <w.heap.size) w (A.v j) l:=by
 have hm:jL A r j=az (x.den A j):=by simp[jL,hj]
 cases x with
 |ro t' l'=>cases hx;exact Rd.up H.jM.pT (H.jM.ok j _ hm)
 |ar t' l'=>cases hx;exact(Rd.keep H.jM.old (H.args j _ hj)).up λ_ hk=>bR hk.1 H.jM.sJ.size
 |row e t' l'=>cases hx;exact(mI.rd (H.jM.ok j _ hm)).up λk hk=>hk.elim (H.jM.pT k) λq=>(H.jM.own j _ k hm q).2.1
 |ext y=>
  cases y with
  |_=>cases hx
 |_=>cases hx
theorem Mo (H:kW o n A S F s r a w){j:ah}{x:R2}(hj:r j=az x){k:Kc}{t:Ty}{m:jw k (El t)}(hx:Ml x=az ⟨k,t,m⟩):(A.m j=aA/\m=([]:aa (ko k×El t)))\/
  ∃b,∃zs:aa (ko k×(aO×El t)),A.m j=az b/\nc k w b (zs.map λq=>(q.1,q.2.1))/\m=zs.map (λq=>(q.1,q.2.2))/\∀z∈zs,match pV x with
   |true=>Rd S w z.2.1 z.2.2
   |false=>Rd o.old o.w z.2.1 z.2.2:=by
 have hm:jL A r j=az (x.den A j):=by simp[jL,hj]
 cases x with
 |yq k' t' m'=>
  cases hx;have h:Rd S w (.map (A.m j)) m:=H.jM.ok j _ hm;obtain⟨y,hy,h⟩:=AF h;cases hy;cases hA:A.m j with
  |none=>rw[hA] at h;exact .inl ⟨rfl,h⟩
  |some b=>rw[hA] at h;have⟨_,zs,h1,h2,h3⟩:=h;exact .inr ⟨b,zs,rfl,h1,h2,h3⟩
 |Dv k' t' m'=>
  cases hx;obtain⟨y,hy,h⟩:=AF (H.args j _ hj);cases hy;cases hA:A.m j with
  |none=>rw[hA] at h;exact .inl ⟨rfl,h⟩
  |some b=>rw[hA] at h;have⟨hb,zs,h1,h2,h3⟩:=h;exact .inr ⟨b,zs,rfl,h1.keep (H.jM.old b hb),h2,h3⟩
 |map k' t' m'=>
  cases hx;obtain⟨b,e,zs,h1,h2,h3⟩:=H.jM.ok j _ hm;exact .inr ⟨b,zs,e,h1,h2,h3⟩
 |_=>cases hx
theorem JQ (H:kW o n A S F s r a w){j:ah}{x:R2}(hj:r j=az x){t:Ty}{l:aa (El t)}(hx:pU x=az ⟨t,l⟩){i:af}(h0:0<=i)(h1:i<(aM l:af)):
  ∃cs,Ei o S w (pV x) cs (jT t (l.getD i.toNat (Bd t)))/\cs.length=Data.size (El t)/\∀q,q<Data.size (El t)->w.cell? ⟨OP (A.v j),OQ (A.v j)+i.toNat*Data.size (El t)+q,aA⟩=cs[q]?:=by
 have hm:jL A r j=az (x.den A j):=by simp[jL,hj]
 cases x with
 |ro t' l'=>
  cases hx;have hr:Rd S w (A.v j) l:=H.jM.ok j _ hm;obtain⟨cs,k1,k2⟩:=HV (C:=(· =w)) (T:=S) (λw' e=>by subst e;exact nC.refl _ _) hr h0 h1 (Bd t);exact⟨cs,rD t k1,Data.len k1,λq hq=>k2 q hq w rfl⟩
 |ar t' l'=>
  cases hx;have hr:Rd o.old o.w (A.v j) l:=H.args j _ hj;obtain⟨cs,k1,k2⟩:=HV (C:=(· =w)) (T:=o.old) (λw' e=>by subst e;exact H.jM.old) hr h0 h1 (Bd t);exact⟨cs,rD t k1,Data.len k1,λq hq=>k2 q hq w rfl⟩
 |row e t' l'=>
  cases hx;obtain⟨cs,k1,k2⟩:=mI.cells (show mI S w e (A.v j) l from H.jM.ok j _ hm) h0 h1 (Bd t);exact⟨cs,rD t k1,Data.len k1,λq hq=>k2 q hq⟩
 |ext y=>
  cases y with
  |_=>cases hx
 |_=>cases hx
theorem E7 (H:kW o n A S F s r a w){j:ah}{x:R2}(hj:r j=az x){t:Ty}{l:aa (El t)}(hx:Rf x=az ⟨t,l⟩):∃p c,A.v j= .slice p l.length c/\(0<l.length->∃g f,p=az ⟨g,f,aA⟩):=by
 have old:pU x=az ⟨t,l⟩->∃p c,A.v j= .slice p l.length c/\(0<l.length->∃g f,p=az ⟨g,f,aA⟩):=λhx=>by
  obtain⟨p,c,h1,_,_,h2⟩:=lz (zq H hj hx);refine⟨p,c,h1,λh=>?_⟩;rcases h2 with rfl|⟨g,f,_,_,_,h2,_⟩
  .cases h
  exact⟨g,f,h2⟩
 cases x with
 |ext y=>
  cases y with
  |nest q h e t' ie l'=>
   cases hx;have hm:ot S w (A.v j) (A.f q) h e t ie l:=H.jM.ok j _ (show jL A r j=az _ by simp[jL,hj];rfl);have⟨xs,h1,_⟩:=hm.row;rcases h1.2 with⟨hv,hn⟩|⟨g,d,cap,cur,hv,_⟩
   .exact⟨_,_,by rw[hv,hn],λq=>by omega⟩
   exact⟨_,_,hv,λ_=>⟨_,_,rfl⟩⟩
  |_=>cases hx
 |_=>exact old hx
theorem T6 (H:kW o n A S F s r a w){j:ah}{x:R2}(hj:r j=az x){t:Ty}{l:aa (El t)}(hx:Rf x=az ⟨t,l⟩){i:af}(h0:0<=i)(h1:i<(aM l:af)):L3 (A.v j) i:=by
 obtain⟨p,c,h2,h3⟩:=E7 H hj hx;obtain⟨g,f,rfl⟩:=h3 (by omega);exact⟨g,f,_,c,h2,h0,h1⟩
theorem Bv {t:Ty}:∀ {l:aa (El t)} {i off:ah} (hi:i<l.length),off<jD t->(oW t l)[i*jD t+off]?=(jT t (l.getD i (Bd t)))[off]?
 |x::l,0,off,_,ho=>by
  show(jT t x++oW t l)[0*jD t+off]?=(jT t x)[off]?;rw[dG,cZ,List.getElem?_append_left (by rw[mV];exact ho)]
 |x::l,i+1,off,hi,ho=>by
  show(jT t x++oW t l)[(i+1)*jD t+off]?=(jT t (l.getD i (Bd t)))[off]?;rw[List.getElem?_append_right (by rw[mV,cL];omega),mV,show(i+1)*jD t+off-jD t=i*jD t+off by rw[cL];omega];exact Bv (by simpa using hi) ho
theorem oM.cell {e:aV}{sz:ah}{v:aO}{n:ah}{xs:aa aO}(h:oM w e sz v n xs){c:ah}{u:aO}(hc:xs[c]?=az u):w.cell? ⟨OP v,OQ v+c,aA⟩=az u:=by
 have hl:=(cF.1 hc).1;rcases h.2 with⟨_,rfl⟩|⟨g,d,cap,cur,rfl,hg,h1,h2,h3,h4⟩
 .have:=h.1;omega
 show w.cell? ⟨g,d*sz+c,aA⟩=_;rw[aK w g _ cur e (0,0) hg,<-hc,<-h4,cE,aQ (by rw[<-h.1];exact hl),cI,anV]
theorem CA {v:aO}{f:Lit->aO}{e:aV}{t:Ty}{ie:aV}{l:aa (El t)}(h:ot S w v f aA e t ie l){i:af}(h0:0<=i)(h1:i<(aM l:af)){off:ah}{c:uT}(hc:(jT t (l.getD i.toNat (Bd t)))[off]?=az c):
  w.cell? ⟨OP v,OQ v+(i.toNat*jD t+off),aA⟩=az (f (ix (i.toNat*jD t+off)))/\Aa S w ie (f (ix (i.toNat*jD t+off))) c:=by
 have⟨xs,k1,_,k2⟩:=h.row;have ho:off<jD t:=by grind [cF,mV]
 obtain⟨k3,k4⟩:=k2 (i.toNat*jD t+off) c (by rw[Bv (by omega) ho];exact hc) (by simp);exact⟨k1.cell k3,k4⟩
theorem E8 {ie:aV}{j q:ah}{i:af}{sz:ah}:∀ {cs:aa uT} {c:ah} {out:aa Sc},Dw j q i sz c cs=az out->(∀d x,cs[d]?=az x->Aa S w ie (A.f q (ix (i.toNat*sz+(c+d)))) x)->
  out.length=cs.length/\∀d u,out[d]?=az u->u.den A=A.f q (ix (i.toNat*sz+(c+d)))/\(F j->F q->u.all F)/\u.lu A
 |[],c,out,h,_=>by cases h;exact⟨rfl,λd u q=>by simp at q⟩
 |x::r,c,out,h,k=>by
  have k0:=k 0 x rfl;have k1:∀d y,r[d]?=az y->Aa S w ie (A.f q (ix (i.toNat*sz+(c+1+d)))) y:=λd y hy=>by
   have:=k (d+1) y (by simpa using hy);rwa[show c+(d+1)=c+1+d by omega] at this
  have main:∀z:Sc,(Dw j q i sz (c+1) r).map (z:: ·)=az out->(z.den A=A.f q (ix (i.toNat*sz+(c+0)))/\(F j->F q->z.all F)/\z.lu A)->out.length=(x::r).length/\∀d u,out[d]?=az u->u.den A=A.f q (ix (i.toNat*sz+(c+d)))/\(F j->F q->u.all F)/\u.lu A:=by
   intro z hz hzk;obtain⟨o',h1,rfl⟩:=bF.1 hz;obtain⟨h2,h3⟩:=E8 h1 k1;refine⟨by simp[h2],λd u hu=>?_⟩;cases d with
   |zero=>
    have:z=u:=by simpa using hu
    subst this;exact hzk
   |succ d=>
    have:=h3 d u (by simpa using hu);rwa[show c+(d+1)=c+1+d by omega]
  cases x with
  |i n=>exact main _ h ⟨k0.1.symm,λ_ _=>trivial,tv⟩
  |b n=>exact main _ h ⟨k0.1.symm,λ_ _=>trivial,tv⟩
  |s n=>exact main _ h ⟨k0.1.symm,λ_ _=>trivial,tv⟩
  |l t n=>exact main _ h ⟨rfl,λh1 h2=>⟨h1,h2⟩,tv⟩
  |m _ _ _=>cases h
  |p _ _=>cases h
theorem Ib (H:kW o n A S F s r a w)(hC:oK a C){t:ah}{e:E2}(he:s t=az e)(hp:e.ch.isPrefixOf C=aC):a.tmps[t]?=az (e.sy.den A):=(H.env t e he).1 (tH hp hC)
theorem jE {α:Type 1}(H:kW o n A S F s r a w)(hC:oK a C){x:bu}{k:Sy->Tr α}{out:α}(h:(qm C x k).run s r=az out):∃y:Sy,a.eval x=y.den A/\y.all F/\y.lu A/\(k y).run s r=az out:=by
 cases x with
 |tmp t=>
  simp only[qm,Tr.run] at h;split at h
  .rename_i e he;split at h
   .rename_i hp;refine⟨e.sy,?_,(H.rH t e he (tH hp hC)).1,(H.rH t e he (tH hp hC)).2,h⟩;simp only[dH,cP,Ib H hC he hp,eV]
   cases h
  cases h
 |const v=>exact⟨Hi v,(WD A v).symm,WE F v,T4 A v,h⟩
 |func f=>exact⟨.one (.sR f []),rfl,λc hc=>(by cases hc),tv,h⟩
 |global g=>cases h
theorem jt {α:Type 1}{b:ak}{T:Tr α}{out:α}(h:(jK b T).run s r=az out):b=aC/\T.run s r=az out:=by
 cases b with
 |true=>exact⟨rfl,h⟩
 |false=>cases h
theorem jI {α:Type 1}{j:ah}{k:R2->Tr α}{out:α}(h:(Tr.res j k).run s r=az out):∃x,r j=az x/\(k x).run s r=az out:=by
 grind [Tr.run]
def E9 (P:aY)(o:jO)(A:jU)(S:jv)(F:ah->Prop)(w:aN)(b:ah)(op:Op)(a:Act)(out:Out):Prop:=
 ∃A',lQ F A A'/\(∀o:bf,o.op=op->dM P (· =w) w (out.sy.den A') ((aG a.eval o).run P w))/\out.sy.all (FU F out.re)/\out.sy.lu A'/\tM o S w A' b out.re
theorem kG {op:Op}{out:Out}{n9:ai aO}{p:Prop}(DZ:out.re=[])(nH:out.sy.all F)(hg:out.sy.lu A)(h:l7 P (· =w) (λx=>az (a.eval x)) op n9=az (out.sy.den A,p))(hp:p):E9 P o A S F w b op a out:=by
 refine⟨A,lQ.refl _ _,λo ho=>?_,Sy.mono (λj hj=>.inl hj) nH,hg,by rw[DZ];trivial⟩
 grind [JG,b5]
theorem kg {c:Sc}{out:Out}(h:(one c).run s r=az out):out=⟨[],[],.one c,[]⟩:=(b5 h).symm
theorem oY {p:Prop}{c:Sc}{out:Out}(h:(ya p c).run s r=az out)(hc:∀q∈out.cs,q):out=⟨[p],[],.one c,[]⟩/\p:=by
 have e:=(b5 h).symm;subst e;exact⟨rfl,hc p (by simp)⟩
theorem JR (a b:aj):(a.toList==b.toList)=aE (a=b):=by
 by_cases h:a=b
 .subst h;simp
 rw[cV h];refine aqM.2 λq=>h (aiK q)
theorem alA (n:ah):n ^^^ 1=if n%2=0 then n+1 else n-1:=by
 have h1:(n ^^^ 1)/2=n/2:=by rw[Nat.xor_div_two];simp
 have h2:(n ^^^ 1)%2=(n+1)%2:=by
  have h:(n ^^^ 1)%2 ^ 1=(n%2 ^ 1) ^^^ (1%2 ^ 1):=Nat.xor_mod_two_pow
  grind
 split<;>omega
theorem WG {op:bf}{t t':aV}{x y:bu}{n:af}(ho:op.op= .binOp .xor t x y t')(hx:a.eval x= .int .i64 n)(hy:a.eval y= .int .i64 1)(hn:0<=n/\n<=9223372036854775807):dM P (· =w) w (.int .i64 (if n%2=0 then n+1 else n-1)) ((aG a.eval op).run P w):=by
 obtain⟨m,rfl⟩:=Int.eq_ofNat_of_zero_le hn.1;have hm:m<2 ^ 64:=by omega
 have h1:(aqU .xor .i64 (m:af) 1)=pure (.int .i64 (if(m:af)%2=0 then(m:af)+1 else(m:af)-1)):=by
  show(pure (cj .i64 (aqV.wrap (((BitVec.ofInt 64 (m:af)) ^^^ (BitVec.ofInt 64 1)).toNat:af))):Sem aO)=_;have e1:(BitVec.ofInt 64 (m:af)).toNat=m:=by
   rw[BitVec.toNat_ofInt];omega
  have e2:(BitVec.ofInt 64 1).toNat=1:=by decide
  rw[BitVec.toNat_xor,e1,e2,alA]
  congr 2
  have e3:(((if m%2=0 then m+1 else m-1:ah)):af)=if(m:af)%2=0 then(m:af)+1 else(m:af)-1:=by split<;>split<;>omega
  rw[e3];exact jX.wrap (k:=.i64) ⟨by split<;>omega,by split<;>omega⟩
 have h2:(eqGuard .xor t x y (.int .i64 (m:af)) (.int .i64 1)).run P w= .ok () w:=by simp[eqGuard,bZ]
 simp only[aG,ho,bw,hx,hy,h2,cG];have h3:(binOp .xor t (.int .i64 (m:af)) (.int .i64 1))=aqU .xor .i64 (m:af) 1:=rfl;rw[h3,h1];exact⟨rfl,rfl⟩
theorem Fa {op:bf}{t t' e:aV}{x y:bu}{p:ai ck}(hu:P.underlying t=az (.pointer e))(ho:op.op= .binOp .eql t x y t')(hx:a.eval x= .pointer p)(hy:a.eval y= .pointer aA):dM P (· =w) w (.bool p.isNone) ((aG a.eval op).run P w):=by
 have h1:(aoi t (.pointer p) (.pointer aA)).run P w= .ok p.isNone w:=by
  unfold Op.equal;rw[show anX=(anX-1)+1 from by decide];cases p<;>(unfold Op.equalIn;rw[bw,aH hu];rfl)
 have h2:(eqGuard .eql t x y (.pointer p) (.pointer aA)).run P w= .ok () w:=by simp[eqGuard,Sem.run_pure]
 simp only[aG,ho,Sem.run_bind,hx,hy,h2,Result.andThen_ok,binOp,h1,Sem.run_pure];exact⟨rfl,rfl⟩
theorem Fb {op:bf}{t t' e:aV}{x y:bu}{p:ai ck}(hu:P.underlying t=az (.pointer e))(ho:op.op= .binOp .neq t x y t')(hx:a.eval x= .pointer p)(hy:a.eval y= .pointer aA):Oper.quietUpon P (· =w) w (.bool p.isSome) ((aG a.eval op).run P w):=by
 have h1:(Op.equal t (.pointer p) (.pointer aA)).run P w= .ok p.isNone w:=by
  unfold Op.equal;rw[show Op.maxDepth=(Op.maxDepth-1)+1 from by decide];cases p<;>(unfold Op.equalIn;rw[Sem.run_bind,aH hu];rfl)
 have h2:(eqGuard .neq t x y (.pointer p) (.pointer aA)).run P w= .ok () w:=by simp[eqGuard,Sem.run_pure]
 simp only[aG,ho,Sem.run_bind,hx,hy,h2,Result.andThen_ok,binOp,h1,Sem.run_pure];exact⟨rfl,by cases p<;>rfl⟩
theorem Pg {op:bf}{t t':aV}{x y:bu}{g:Fn}{p c:aq aO}{e1 e2:aq aV}{e3:ak}(hu:P.underlying t=az (.func e1 e2 e3))(ho:op.op= .binOp .eql t x y t')(hx:a.eval x= .func g p c)(hy:a.eval y= .nilFunc):Oper.quietUpon P (· =w) w (.bool aD) ((aG a.eval op).run P w):=by
 have h1:(Op.equal t (.func g p c) .nilFunc).run P w= .ok aD w:=by
  unfold Op.equal;rw[show Op.maxDepth=(Op.maxDepth-1)+1 from by decide];unfold Op.equalIn;rw[Sem.run_bind,aH hu];rfl
 have h2:(eqGuard .eql t x y (.func g p c) .nilFunc).run P w= .ok () w:=by simp[eqGuard,Sem.run_pure]
 simp only[aG,ho,Sem.run_bind,hx,hy,h2,Result.andThen_ok,binOp,h1,Sem.run_pure];exact⟨rfl,rfl⟩
theorem Ph {op:bf}{t t':aV}{x y:bu}{g:Fn}{p c:aq aO}{e1 e2:aq aV}{e3:ak}(hu:P.underlying t=az (.func e1 e2 e3))(ho:op.op= .binOp .neq t x y t')(hx:a.eval x= .func g p c)(hy:a.eval y= .nilFunc):Oper.quietUpon P (· =w) w (.bool aC) ((aG a.eval op).run P w):=by
 have h1:(Op.equal t (.func g p c) .nilFunc).run P w= .ok aD w:=by
  unfold Op.equal;rw[show Op.maxDepth=(Op.maxDepth-1)+1 from by decide];unfold Op.equalIn;rw[Sem.run_bind,aH hu];rfl
 have h2:(eqGuard .neq t x y (.func g p c) .nilFunc).run P w= .ok () w:=by simp[eqGuard,Sem.run_pure]
 simp only[aG,ho,Sem.run_bind,hx,hy,h2,Result.andThen_ok,binOp,h1,Sem.run_pure];exact⟨rfl,rfl⟩
theorem WH (H:kW o n A S F s r a w){op:BinOp}{t t':aV}{x y:bu}{k:dX}{m q:af}{out:Out}(hx:a.eval x= .int k m)(hy:a.eval y= .int k q)(h:(arith op k m q).run s r=az out)(hc:∀p∈out.cs,p):E9 P o A S F w b (.binOp op t x y t') a out/\out.hs=[]:=by
 cases op
 case add=>obtain⟨rfl,hp⟩:=oY h hc;exact⟨kG (n9:=aA) rfl tv tv (by simp only[l7,hx,hy,qL,if_true];rfl) hp,rfl⟩
 case sub=>obtain⟨rfl,hp⟩:=oY h hc;exact⟨kG (n9:=aA) rfl tv tv (by simp only[l7,hx,hy,qL,if_true];rfl) hp,rfl⟩
 case mul=>obtain⟨rfl,hp⟩:=oY h hc;exact⟨kG (n9:=aA) rfl tv tv (by simp only[l7,hx,hy,qL,if_true];rfl) hp,rfl⟩
 case quo=>obtain⟨rfl,hp⟩:=oY h hc;exact⟨kG (n9:=aA) rfl tv tv (by simp only[l7,hx,hy,qL,if_true];rfl) hp,rfl⟩
 case rem=>obtain⟨rfl,hp⟩:=oY h hc;exact⟨kG (n9:=aA) rfl tv tv (by simp only[l7,hx,hy,qL,if_true];rfl) hp,rfl⟩
 case shr=>
  obtain⟨hg,h2⟩:=jt h;rw[bB] at hg;have hk:=bq hg.1;have hb:=bq hg.2;subst hk;subst hb;rw[kg h2];exact⟨kG (n9:=az (.int .u64 (m/2))) rfl tv tv (by simp only[l7,hx,hy,qL];rfl) (abE (by decide)),rfl⟩
 case xor=>
  obtain⟨hg,h2⟩:=jt h;rw[bB] at hg;have hk:=bq hg.1;have hb:=bq hg.2;subst hk;subst hb;obtain⟨rfl,hp⟩:=oY h2 hc;exact⟨⟨A,lQ.refl _ _,λop ho=>WG ho hx hy hp,tv,tv,tv⟩,rfl⟩
 case eql=>rw[kg h];exact⟨kG (n9:=aA) (p:=av) rfl tv tv (by simp only[l7,hx,hy,qL,if_true];rfl) tv,rfl⟩
 case neq=>rw[kg h];exact⟨kG (n9:=aA) (p:=av) rfl tv tv (by simp only[l7,hx,hy,qL,if_true];rfl) tv,rfl⟩
 case lss=>rw[kg h];exact⟨kG (n9:=aA) (p:=av) rfl tv tv (by simp only[l7,hx,hy,qL,if_true];rfl) tv,rfl⟩
 case leq=>rw[kg h];exact⟨kG (n9:=aA) (p:=av) rfl tv tv (by simp only[l7,hx,hy,qL,if_true];rfl) tv,rfl⟩
 case gtr=>rw[kg h];exact⟨kG (n9:=aA) (p:=av) rfl tv tv (by simp only[l7,hx,hy,qL,if_true];rfl) tv,rfl⟩
 case geq=>rw[kg h];exact⟨kG (n9:=aA) (p:=av) rfl tv tv (by simp only[l7,hx,hy,qL,if_true];rfl) tv,rfl⟩
 all_goals cases h
theorem Mp (x y:BE):(abH x y).den=(x.den && y.den):=by
 unfold abH;split
 .simp[BE.den]
 rfl
theorem JS {cs ds:aa Sc}(d:ah):∀ {fs:aa Field} {e:BE},abI P cs ds fs=az e->(apW (d+1) (cs.map (Sc.den A)).toArray (ds.map (Sc.den A)).toArray fs).run P w= .ok e.den w
 |[],e,h=>by cases h;rfl
 |f::fs,e,h=>by
  unfold abI at h;have wC:∀ {l:aa Sc} {x:Sc},l[f.offset]?=az x->((l.map (Sc.den A)).toArray)[f.offset]?=az (x.den A):=λhl=>by rw[anA,cY,hl];rfl
  split at h
  .rename_i k' k a k2 b e' hn hu h1 h2 h3;split at h
   .rename_i hk;have hk:=bq hk;subst hk;cases h;have hp:P.plainKey f.type=aC:=by unfold Program.plainKey;rw[hu]
    have O3:f.name≠ "_" :=by simpa using hn
    simp only[apW,aQ O3,bw,run_part_plain w hp (wC h1),run_part_plain w hp (wC h2),cG,Sc.den,run_equalIn_int w d f.type k k' a b hu,Mp,BE.den]
    by_cases q:a=b
    .subst q;simp[JS d h3]
    simp[q,bZ]
   cases h
  .rename_i a b e' hn hu h1 h2 h3;cases h;have hp:P.plainKey f.type=aC:=by unfold Program.plainKey;rw[hu]
   have O3:f.name≠ "_" :=by simpa using hn
   simp only[apW,aQ O3,bw,run_part_plain w hp (wC h1),run_part_plain w hp (wC h2),cG,Sc.den,run_equalIn_string w d f.type a b hu,Mp,BE.den,JR]
   by_cases q:a=b
   .subst q;simp[JS d h3]
   simp[q,bZ]
  cases h
theorem Ic {t:aV}{cs ds:aa Sc}{k:BE->Tr Out}{out:Out}(h:(Rg P t cs ds k).run s r=az out):∃e:BE,(k e).run s r=az out/\P.eqGuardType P.depth t=aD/\(Op.equalIn 10000 t (.agg (cs.map (Sc.den A)).toArray) (.agg (ds.map (Sc.den A)).toArray)).run P w= .ok e.den w:=by
 unfold Rg at h;split at h
 .rename_i fs hu;obtain⟨hg,h⟩:=jt h;simp only[bB,Bool.not_eq_true'] at hg;split at h
  .rename_i e he;refine⟨e,h,hg.2,?_⟩;have hf:P.fieldsOf t=fs:=by unfold Program.fieldsOf;rw[hu]
   rw[run_equalIn_struct w 9999 t _ _ (by rw[hf];exact hu) hg.1,hf];exact JS 9998 he
  cases h
 cases h
theorem abJ (H:kW o n A S F s r a w){op:BinOp}{t t':aV}{x y:bu}{p q:Sy}{out:Out}(hx:a.eval x=p.den A)(hy:a.eval y=q.den A)(h:(aga P op t p q).run s r=az out)(hc:∀p∈out.cs,p):E9 P o A S F w b (.binOp op t x y t') a out/\out.hs=[]:=by
 unfold aga at h;split at h
 .rename_i cs ds;have hx:a.eval x= .agg (cs.map (Sc.den A)).toArray:=hx;have hy:a.eval y= .agg (ds.map (Sc.den A)).toArray:=hy;split at h
  .obtain⟨e,h,hg,he⟩:=Ic (A:=A) (w:=w) h;rw[kg h];refine⟨⟨A,lQ.refl _ _,λop ho=>?_,tv,tv,tv⟩,rfl⟩;simp only[aG,ho,bw,hx,hy,run_eqGuard_agg w .eql t x y _ _ hg,cG,run_eql_struct,he];exact⟨rfl,rfl⟩
  .obtain⟨e,h,hg,he⟩:=Ic (A:=A) (w:=w) h;rw[kg h];refine⟨⟨A,lQ.refl _ _,λop ho=>?_,tv,tv,tv⟩,rfl⟩;simp only[aG,ho,bw,hx,hy,run_eqGuard_agg w .neq t x y _ _ hg,cG,run_neq_struct,he];exact⟨rfl,rfl⟩
  cases h
 .obtain⟨hk,h2⟩:=jt h;have hk:=bq hk;subst hk;exact WH H hx hy h2 hc
 .rename_i u v;have hx:a.eval x= .string u:=hx;have hy:a.eval y= .string v:=hy;split at h
  .obtain⟨rfl,hp⟩:=oY h hc;exact⟨kG (n9:=aA) rfl tv tv (by simp only[l7,hx,hy,qL];rfl) hp,rfl⟩
  .rw[kg h];exact⟨kG (n9:=aA) (p:=av) rfl tv tv (by simp only[l7,hx,hy,qL,JR];rfl) tv,rfl⟩
  .rw[kg h];exact⟨kG (n9:=aA) (p:=av) rfl tv tv (by simp only[l7,hx,hy,qL,JR];rfl) tv,rfl⟩
  cases h
 .rename_i j;have hx:a.eval x= .pointer (A.p j):=hx;have hy:a.eval y= .pointer aA:=hy;have key:∀ {z:R2} {t':Ty} {d:vz (El t')},r j=az z->Mm z=az ⟨t',d⟩->(A.p j).isNone=(show ai (El t') from d).isNone:=by
   intro z t' d hz hd;have pg:∃T w',uR T w' (.pointer (A.p j)) d:=by
    cases z with
    |ext z=>
     cases z with
     |Br t x=>cases hd;exact⟨S,w,xD (H.jM.ok j _ (show jL A r j=az _ by simp[jL,hz];rfl))⟩
     |par t x=>cases hd;exact⟨o.old,o.w,xD (H.args j _ hz)⟩
     |_=>cases hd
    |_=>cases hd
   have⟨T,w',pg⟩:=pg;cases d with
   |none=>have pg:cO (A.p j)= .pointer aA:=pg;cases hq:A.p j with
    |none=>rfl
    |some _=>rw[hq] at pg;cases pg
   |some y=>have⟨b,_,_,_,_,e,_⟩:=pg;cases hq:A.p j with
    |none=>rw[hq] at e;cases e
    |some _=>rfl
  split at h
  .obtain⟨z,hz,h⟩:=jI h;split at h
   .rename_i t' d hd;rw[kg h];refine⟨⟨A,lQ.refl _ _,λop ho=>?_,tv,tv,tv⟩,rfl⟩;rw[show(Sy.one (.b (.raw (show ai (El t') from d).isNone))).den A= .bool (A.p j).isNone by rw[key hz hd];rfl];exact Fa (by assumption) ho hx hy
   cases h
  .obtain⟨z,hz,h⟩:=jI h;split at h
   .rename_i t' d hd;rw[kg h];refine⟨⟨A,lQ.refl _ _,λop ho=>?_,tv,tv,tv⟩,rfl⟩;rw[show(Sy.one (.b (.raw (show ai (El t') from d).isSome))).den A= .bool (A.p j).isSome by
     have:=key hz hd;rw[<-aqW,<-aqW,<-this];cases A.p j<;>cases d<;>rfl]
    exact Fb (by assumption) ho hx hy
   cases h
  cases h
 .rename_i j off;have hx:a.eval x= .pointer (az ⟨A.b j,off,aA⟩):=hx;have hy:a.eval y= .pointer aA:=hy;split at h
  .rw[kg h];exact⟨⟨A,lQ.refl _ _,λop ho=>Fa (by assumption) ho hx hy,tv,tv,tv⟩,rfl⟩
  .rw[kg h];exact⟨⟨A,lQ.refl _ _,λop ho=>Fb (by assumption) ho hx hy,tv,tv,tv⟩,rfl⟩
  cases h
 .split at h
  .rw[kg h];exact⟨⟨A,lQ.refl _ _,λop ho=>Pg (by assumption) ho hx hy,tv,tv,tv⟩,rfl⟩
  .rw[kg h];exact⟨⟨A,lQ.refl _ _,λop ho=>Ph (by assumption) ho hx hy,tv,tv,tv⟩,rfl⟩
  cases h
 .rename_i u v;have hx:a.eval x= .bool u.den:=hx;have hy:a.eval y= .bool v.den:=hy;split at h
  .rw[kg h];exact⟨kG (n9:=aA) (p:=P.underlying t=az .bool) rfl tv tv (by simp only[l7,hx,hy,qL];rfl) (by assumption),rfl⟩
  .rw[kg h];exact⟨kG (n9:=aA) (p:=P.underlying t=az .bool) rfl tv tv (by simp only[l7,hx,hy,qL];rfl) (by assumption),rfl⟩
  cases h
 cases h
end
theorem kQ.drop {S:jv}{w:aN}:∀(k:ah) {vs:aa aO} {a:aa uT},kQ S w vs a->kQ S w (vs.drop k) (a.drop k)
 |0,_,_,h=>h
 |k+1,[],[],_=>trivial
 |k+1,_::_,_::_,h=>kQ.drop k h.2
 |_+1,[],_::_,h=>h.elim
 |_+1,_::_,[],h=>h.elim
theorem kQ.take {S:jv}{w:aN}:∀(k:ah) {vs:aa aO} {a:aa uT},kQ S w vs a->kQ S w (vs.take k) (a.take k)
 |0,_,_,_=>trivial
 |k+1,[],[],_=>trivial
 |k+1,_::_,_::_,h=>⟨h.1,kQ.take k h.2⟩
 |_+1,[],_::_,h=>h.elim
 |_+1,_::_,[],h=>h.elim
theorem Ei.drop {o:jO}{S:jv}{w:aN}{k:ak}(j:ah){vs:aa aO}{cs:aa uT}(h:Ei o S w k vs cs):Ei o S w k (vs.drop j) (cs.drop j):=by
 cases k
 .exact kQ.drop j h
 exact kQ.drop j h
theorem Ei.take {o:jO}{S:jv}{w:aN}{k:ak}(j:ah){vs:aa aO}{cs:aa uT}(h:Ei o S w k vs cs):Ei o S w k (vs.take j) (cs.take j):=by
 cases k
 .exact kQ.take j h
 exact kQ.take j h
theorem Ei.get {o:jO}{S:jv}{w:aN}{k:ak}{vs:aa aO}{cs:aa uT}(h:Ei o S w k vs cs){j:ah}{c:uT}(hc:cs[j]?=az c):∃v,vs[j]?=az v/\Ei o S w k [v] [c]:=by
 cases k
 .obtain⟨v,h1,h2⟩:=kQ.get h hc;exact⟨v,h1,h2,tv⟩
 obtain⟨v,h1,h2⟩:=kQ.get h hc;exact⟨v,h1,h2,tv⟩
theorem T7 {w w':aN}{b q:ah}(h:w'.heap[b]?=w.heap[b]?):w'.cell? ⟨b,q,aA⟩=w.cell? ⟨b,q,aA⟩:=by
 unfold World.cell?;simp only[h]
section
variable {P:aY}{o:jO}{n:ah}{A:jU}{S:jv}{F:ah->Prop}{s:ah->ai E2}{r:ah->ai R2}{a:Act}{w:aN}{C:aa (ah×ak)}{b:ah}
theorem wE {op:Op}{out:Out}{n9:ai aO}{p:Prop}{A':jU}(hA:lQ F A A')(nH:out.sy.all (FU F out.re))(hg:out.sy.lu A')(yJ:tM o S w A' b out.re)(h:l7 P (· =w) (λx=>az (a.eval x)) op n9=az (out.sy.den A',p))(hp:p):E9 P o A S F w b op a out:=by
 refine⟨A',hA,λo ho=>?_,nH,hg,yJ⟩
 grind [JG,b5]
theorem jH {out aiQ:Out}(h:(Tr.ret aiQ).run s r=az out):out=aiQ:=(b5 h).symm
theorem Fc {j:ah}(h:F j):FU F [] j:=.inl h
theorem Fe {B:ah}{k:ak}(hF:∀j,b<=j->j<B->¬F j){t:aV}{x:bu}{off oN base:ah}{cs:aa uT}{vs:aa aO}{out:Out}(hx:a.eval x= .pointer (az ⟨oN,base+off,aA⟩))(Ff:Ei o S w k vs cs)(uk:∀q,q<vs.length->w.cell? ⟨oN,base+q,aA⟩=vs[q]?)
  (h:(Mn P k b t cs off).run s r=az out) (hB:∀p∈out.re,p.1<B):E9 P o A S F w b (.load t x) a out/\out.hs=[]/\∀p∈out.cs,p:=by
 unfold Mn at h;split at h
 .rename_i fs hu;obtain⟨Q1,h⟩:=jt h;rw[bB] at Q1;have rI:=aou Q1.2;have e:=jH h;subst e;obtain⟨A',k1,k2,k3,k4⟩:=oX _ _ b A F (Ei.take (P.cellsOf t) (Ei.drop off Ff)) hF hB;have hlv:((vs.drop off).take (P.cellsOf t)).length=P.cellsOf t:=by rw[<-k2,bH];exact rI
  refine⟨wE (A':=A') (n9:=az (.agg (((vs.drop off).take (P.cellsOf t))).toArray)) (p:=(P.info? t).isSome=aC/\L4 (· =w) oN (base+off) (P.cellsOf t) ((vs.drop off).take (P.cellsOf t)).toArray) k1 (λc Ab=>(k4 c Ab).1) (λc Ab=>(k4 c Ab).2) k3 ?_ ⟨Q1.1,?_,?_⟩,rfl,λ_ q=>by cases q⟩
  .simp only[l7,hu,hx,Sy.den];rw[k2]
  .simp only[dL];exact hlv
  intro w' Bc q hq;subst Bc;have hq2:off+q<vs.length:=by
   rw[bJ,b9] at hlv;omega
  rw[dz,uk (off+q) hq2,anA,cE,aQ hq,cI]
 .cases h
 .rename_i d JH JI hu;split at h
  .rename_i c kO;obtain⟨v,hv1,hv2⟩:=Ei.get Ff kO;split at h
   .rename_i sc re hce;have e:=jH h;subst e;obtain⟨A',k1,k2,k3,k4⟩:=oX [c] [v] b A F hv2 hF (by rw[hce];exact hB);rw[hce] at k2 k3 k4;have k2:sc.den A'=v:=by simpa using k2
    refine⟨wE (A':=A') (n9:=az v) (p:=xy (· =w) oN (base+off) v) k1 (k4 sc (by simp)).1 (k4 sc (by simp)).2 k3 ?_ ?_,rfl,λ_ q=>by cases q⟩
    .simp only[l7,hx,Sy.den];rw[hu,k2];cases d<;>first|exact(JH _ rfl).elim|exact(JI _ _ rfl).elim|rfl
    intro w' Bc;subst Bc;rw[uk off (cF.1 hv1).1,hv1]
   cases h
  cases h
 cases h
theorem Dy {T:jv}{w':aN}{t:Ty}{oN:ah}{y:El t}(h:qj T w' oN y):∃vs,Data.rd T w' vs y/\vs.length=jD t/\T oN/\∀q,q<vs.length->w'.cell? ⟨oN,0+q,aA⟩=vs[q]?:=by
 have⟨cur,t',fz,cs,h1,h2,h3,h4⟩:=h;refine⟨cs,h3,by rw[Data.len h3,lZ],h1,λq hq=>?_⟩;rw[cZ,aK w' oN q cur t' fz h2];exact h4 q (by rw[<-Data.len h3];exact hq)
theorem WI {B:ah}(H:kW o n A S F s r a w)(hF:∀j,b<=j->j<B->¬F j){t:aV}{x:bu}{p:Sy}{out:Out}(hx:a.eval x=p.den A)(nH:p.all F)(hg:p.lu A)(h:(Wz P b t p).run s r=az out)(hB:∀p∈out.re,p.1<B):E9 P o A S F w b (.load t x) a out/\out.hs=[]:=by
 unfold Wz at h;split at h
 ·
  rename_i j off;obtain⟨y,hy,h⟩:=jI h;have hx:a.eval x= .pointer (az ⟨A.b j,off,aA⟩):=hx;have hr:=H.lq j y hy;have Hj:jL A r j=az (y.den A j):=by simp[jL,hy]
  split at h
  .rename_i bt cs;have hm:jL A r j=az (Rs.of (.box (A.b j) bt (cs.map (Sc.den A)))):=Hj;have hb:w.heap[A.b j]?=az (.cells (cs.map (Sc.den A)).toArray bt (0,0)):=H.jM.ok j _ hm;have uk:∀q,w.cell? ⟨A.b j,q,aA⟩=(cs.map (Sc.den A))[q]?:=λq=>by rw[aK w _ q _ _ _ hb];simp
   split at h
   .rename_i fs hu;obtain⟨Q1,h⟩:=jt h;rw[bB] at Q1;have hlen:=aou Q1.2;have e:=jH h;subst e;refine⟨wE (A':=A) (n9:=az (.agg (((cs.drop off).take (P.cellsOf t)).map (Sc.den A)).toArray)) (p:=(P.info? t).isSome=aC/\L4 (· =w) (A.b j) off (P.cellsOf t) (((cs.drop off).take (P.cellsOf t)).map (Sc.den A)).toArray) (lQ.refl _ _) ?_ ?_ tv ?_ ⟨Q1.1,?_,?_⟩,rfl⟩
    .intro c Ab;exact Sc.mono (λ_=>Fc) (hr.2.1 c (anB (dQ Ab)))
    .intro c Ab;exact hr.2.2 c (anB (dQ Ab))
    .simp only[l7,hu,hx];rfl
    .rw[bJ,b9] at hlen;simp;exact hlen
    intro w' Bc q hq;subst Bc;rw[uk,anA,aoR,aov,cE,aQ hq,cI]
   .cases h
   .rename_i d JH JI hu;split at h
    .rename_i c kO;have e:=kg h;subst e;have qn:=cn kO;refine⟨wE (A':=A) (n9:=az (c.den A)) (p:=xy (· =w) (A.b j) off (c.den A)) (lQ.refl _ _) (Sc.mono (λ_=>Fc) (hr.2.1 c qn)) (hr.2.2 c qn) tv ?_ ?_,rfl⟩
     .simp only[l7,hx];rw[hu];cases d<;>first|exact(JH _ rfl).elim|exact(JI _ _ rfl).elim|rfl
     intro w' Bc;subst Bc;rw[uk,cY,kO];rfl
    cases h
   cases h
  .rename_i t' y;have hp:qj S w (A.b j) y:=H.jM.ok j _ Hj;obtain⟨vs,h1,h2,_,h3⟩:=Dy hp;obtain⟨k1,k2,_⟩:=Fe (P:=P) (k:=aC) (base:=0) hF (by rw[cZ];exact hx) (rD t' h1) h3 h hB;exact⟨k1,k2⟩
  .rename_i t' y;have hp:qj o.old o.w (A.b j) y:=H.args j _ hy;obtain⟨vs,h1,h2,h4,h3⟩:=Dy hp;obtain⟨k1,k2,_⟩:=Fe (P:=P) (k:=aD) (w:=w) (base:=0) hF (by rw[cZ];exact hx) (rD t' h1) (λq hq=>by rw[<-h3 q hq];exact T7 (H.jM.old _ h4)) h hB;exact⟨k1,k2⟩
  cases h
 ·
  rename_i j i sz off;obtain⟨y,hy,h⟩:=jI h;obtain⟨g,f,m,cp,hv,h0,h1⟩:L3 (A.v j) i:=hg;split at h
  .rename_i q e t' ie l;obtain⟨oC,h⟩:=jt h;have oC:=aou oC;subst oC;have hm:ot S w (A.v j) (A.f q) aA e t' ie l:=H.jM.ok j _ (show jL A r j=az _ by simp[jL,hy];rfl);obtain⟨Co,Ie,_⟩:=H.lq j _ hy;have Ie:F q:=Ie;have hlen:m=l.length:=by
    obtain⟨p',c',e,_⟩:=E7 H hy (t:=t') (l:=l) rfl;rw[hv] at e;cases e;rfl
   subst hlen;have hx:a.eval x= .pointer (az ⟨OP (A.v j),OQ (A.v j)+i.toNat*jD t'+off,aA⟩):=hx;split at h
   .rename_i fs hu;split at h
    .rename_i c hc;obtain⟨Q1,h⟩:=jt h;rw[bB] at Q1;have rI:=aou Q1.2;have e:=jH h;subst e;have DY:∀d x,(((jT t' (l.getD i.toNat (Bd t'))).drop off).take (P.cellsOf t))[d]?=az x->(jT t' (l.getD i.toNat (Bd t')))[off+d]?=az x:=λd x hd=>by
      rw[cE] at hd;split at hd
      .rwa[cI] at hd
      cases hd
     obtain⟨k1,k2⟩:=E8 (F:=F) (S:=S) (w:=w) (A:=A) (ie:=ie) hc λd x hd=>by
      exact(CA hm h0 h1 (DY d x hd)).2
     refine⟨wE (A':=A) (n9:=az (.agg (c.map (Sc.den A)).toArray)) (p:=(P.info? t).isSome=aC/\L4 (· =w) (OP (A.v j)) (OQ (A.v j)+i.toNat*jD t'+off) (P.cellsOf t) (c.map (Sc.den A)).toArray) (lQ.refl _ _) (λu hu=>?_) (λu hu=>?_) tv ?_ ⟨Q1.1,?_,?_⟩,rfl⟩
     .obtain⟨d,hd⟩:=anw.1 hu;exact Sc.mono (λ_=>Fc) ((k2 d u hd).2.1 Co Ie)
     .obtain⟨d,hd⟩:=anw.1 hu;exact(k2 d u hd).2.2
     .simp only[l7,hu,hx,Sy.den]
     .simp;exact rI
     intro w' Bc d hd;subst Bc;have Ig:d<c.length:=by omega
     have hcd:c[d]?=az c[d]:=bN Ig;have hxd:(((jT t' (l.getD i.toNat (Bd t'))).drop off).take (P.cellsOf t))[d]?=az (((jT t' (l.getD i.toNat (Bd t'))).drop off).take (P.cellsOf t))[d]:=bN (by rw[<-k1];exact Ig);have:=(CA hm h0 h1 (DY d _ hxd)).1;rw[anA,cY,hcd,cN,(k2 d _ hcd).1,<-this]
     congr 2;omega
    cases h
   .cases h
   .rename_i d JH JI hu;split at h
    .rename_i c kO;split at h
     .rename_i sc hsc;have e:=kg h;subst e;obtain⟨n1,n2⟩:=CA hm h0 h1 kO;obtain⟨k1,k2⟩:=E8 (F:=F) (S:=S) (w:=w) (A:=A) (ie:=ie) hsc λd x hd=>by
       cases d with
       |zero=>
        have:c=x:=by simpa using hd
        subst this;exact n2
       |succ d=>simp at hd
      obtain⟨z1,z2,z3⟩:=k2 0 sc rfl;refine⟨wE (A':=A) (n9:=az (sc.den A)) (p:=xy (· =w) (OP (A.v j)) (OQ (A.v j)+i.toNat*jD t'+off) (sc.den A)) (lQ.refl _ _) (Sc.mono (λ_=>Fc) (z2 Co Ie)) z3 tv ?_ ?_,rfl⟩
      .simp only[l7,hx,Sy.den];rw[hu];cases d<;>first|exact(JH _ rfl).elim|exact(JI _ _ rfl).elim|rfl
      intro w' Bc;subst Bc;rw[z1,eH,<-n1,dz]
     cases h
    cases h
   cases h
  split at h
  .rename_i t' l hl;obtain⟨oC,h⟩:=jt h;have oC:=aou oC;rw[Wx] at oC;have pg:=zq H hy hl;have hlen:m=l.length:=by
    obtain⟨p',c',e,_⟩:=lz pg;rw[hv] at e;cases e;rfl
   subst hlen;obtain⟨vs,Ff,hvl,uk⟩:=JQ H hy hl h0 h1;have hx:a.eval x= .pointer (az ⟨OP (A.v j),OQ (A.v j)+i.toNat*Data.size (El t')+off,aA⟩):=by rw[oC];exact hx
   obtain⟨k1,k2,_⟩:=Fe (P:=P) hF hx Ff (λq hq=>uk q (by rw[<-hvl];exact hq)) h hB;exact⟨k1,k2⟩
  cases h
 cases h
theorem WJ (H:kW o n A S F s r a w)(hC:oK a C){c x y:bu}{out:Out}(h:(WA C c x y).run s r=az out):E9 P o A S F w b (.pick c x y) a out/\out.hs=[]:=by
 have key:∀(e:BE) (v:Sy),a.eval c= .bool e.den->(e.den=aC->a.eval x=v.den A)->(e.den=aD->a.eval y=v.den A)->v.all F->v.lu A->E9 P o A S F w b (.pick c x y) a ⟨[],[],v,[]⟩:=by
  intro e v hc h1 h2 h3 h4;refine⟨A,lQ.refl _ _,λo ho=>?_,Sy.mono (λ_=>Fc) h3,h4,tv⟩;simp only[aG,ho,hc,asBool,bw,bZ,cG];cases hd:e.den with
  |true=>simp only[if_true,h1 hd];exact⟨rfl,rfl⟩
  |false=>simp only[aom,if_false,h2 hd];exact⟨rfl,rfl⟩
 unfold WA at h;split at h
 .rename_i t;simp only[qm,Tr.run] at h;split at h
  .rename_i en VK;split at h
   .rename_i hp;have htm:=Ib H hC VK hp;have Hl:a.eval (.tmp t)=en.sy.den A:=by simp only[Act.eval,Array.getD_eq_getD_getElem?,htm,Option.getD_some]
    split at h
    .rename_i OS;obtain⟨v,e1,e2,e3,h⟩:=jE H hC h;have e:=jH h;subst e;rw[OS] at Hl;exact⟨key (.lit aC) v Hl (λ_=>e1) (λq=>by cases q) e2 e3,rfl⟩
    .rename_i OS;obtain⟨v,e1,e2,e3,h⟩:=jE H hC h;have e:=jH h;subst e;rw[OS] at Hl;exact⟨key (.lit aD) v Hl (λq=>by cases q) (λ_=>e1) e2 e3,rfl⟩
    .rename_i e _ _ OS;rw[OS] at Hl htm;have Hl:a.eval (.tmp t)= .bool e.den:=Hl;have Wc:∀b',e.den=b'->oK a (C++[(t,b')]):=by
      intro b' rN l hl;rcases List.mem_append.1 hl with hl|hl
      .exact hC l hl
      rw[List.mem_singleton] at hl;subst hl;subst rN;exact htm
     split at h
     .have hx:∀q,a.eval (.const (.bool q))= .bool q:=λ_=>rfl
      by_cases hd:e.den=aD
      .obtain⟨v,e1,e2,e3,h⟩:=jE H (Wc aD hd) h;split at h
       .rename_i q;have e':=kg h;subst e';refine⟨key e (.one (.b (.or e q))) Hl (λk=>by rw[hd] at k;cases k) (λ_=>?_) tv tv,rfl⟩;rw[e1];show Value.bool q.den= .bool (e.den||q.den);rw[hd];rfl
       cases h
      have hd:e.den=aC:=by simpa using hd
      have:∃q,out=⟨[],[],.one (.b (.or e q)),[]⟩:=by
       generalize hk:(λr:Sy=>match r with| .one (.b q)=>one (.b (.or e q))|_=>Tr.fail)=k at h;have WK:∀(u:Sy),(k u).run s r=az out->∃q,out=⟨[],[],.one (.b (.or e q)),[]⟩:=by
        intro u hu;subst hk;simp only at hu;split at hu
        .exact⟨_,kg hu⟩
        cases hu
       cases y with
       |tmp t2=>
        simp only[qm,Tr.run] at h;split at h
        .split at h
         .exact WK _ h
         cases h
        cases h
       |const v=>exact WK _ h
       |func f=>exact WK _ h
       |global g=>cases h
      obtain⟨q,rfl⟩:=this;refine⟨key e (.one (.b (.or e q))) Hl (λ_=>?_) (λk=>by rw[hd] at k;cases k) tv tv,rfl⟩;rw[hx];show Value.bool aC= .bool (e.den||q.den);rw[hd];rfl
     .have hx:∀q,a.eval (.const (.bool q))= .bool q:=λ_=>rfl
      by_cases hd:e.den=aC
      .obtain⟨v,e1,e2,e3,h⟩:=jE H (Wc aC hd) h;split at h
       .rename_i q;have e':=kg h;subst e';refine⟨key e (.one (.b (.and e q))) Hl (λ_=>?_) (λk=>by rw[hd] at k;cases k) tv tv,rfl⟩;rw[e1];show Value.bool q.den= .bool (e.den && q.den);rw[hd];rfl
       cases h
      have hd:e.den=aD:=by simpa using hd
      have:∃q,out=⟨[],[],.one (.b (.and e q)),[]⟩:=by
       generalize hk:(λr:Sy=>match r with| .one (.b q)=>one (.b (.and e q))|_=>Tr.fail)=k at h;have WK:∀(u:Sy),(k u).run s r=az out->∃q,out=⟨[],[],.one (.b (.and e q)),[]⟩:=by
        intro u hu;subst hk;simp only at hu;split at hu
        .exact⟨_,kg hu⟩
        cases hu
       cases x with
       |tmp t2=>
        simp only[qm,Tr.run] at h;split at h
        .split at h
         .exact WK _ h
         cases h
        cases h
       |const v=>exact WK _ h
       |func f=>exact WK _ h
       |global g=>cases h
      obtain⟨q,rfl⟩:=this;refine⟨key e (.one (.b (.and e q))) Hl (λk=>by rw[hd] at k;cases k) (λ_=>?_) tv tv,rfl⟩;rw[hx];show Value.bool aD= .bool (e.den && q.den);rw[hd];rfl
     cases h
    cases h
   cases h
  cases h
 cases h
end
section
variable {P:aY}{o:jO}{n:ah}{A:jU}{S:jv}{F:ah->Prop}{s:ah->ai E2}{r:ah->ai R2}{a:Act}{w:aN}{C:aa (ah×ak)}{b:ah}
theorem WL (H:kW o n A S F s r a w)(hC:oK a C){c:Call}{out:Out}(h:(sV P C b (.call c)).run s r=az out)(hc:∀p∈out.cs,p):E9 P o A S F w b (.call c) a out/\out.hs=[]:=by
 simp only[sV] at h;split at h
 .rename_i x qo mg;split at h
  .rename_i hu;obtain⟨p,e1,e2,e3,h⟩:=jE H hC h;split at h
   .rename_i u;rw[kg h];have e1:a.eval x= .string u:=e1;refine⟨kG (n9:=aA) (p:=av) rfl tv tv ?_ tv,rfl⟩;simp only[l7,qo,mg,bO,cC,e1,hu];rfl
   cases h
  .rename_i e hu;obtain⟨p,e1,e2,e3,h⟩:=jE H hC h;split at h
   .rename_i j;obtain⟨y,hy,h⟩:=jI h;split at h
    .rename_i et by_;rw[kg h];have e1:a.eval x=A.v j:=e1;have lU:w.ownsRow 0 et 1 (A.v j) by_.size (Bu by_):=H.jM.ok j _ (show jL A r j=az _ by simp[jL,hy];rfl);have hlen:L0 (A.v j) (by_.size:af):=by
      rcases lU.2 with⟨e,z⟩|⟨g,cap,cur,e,_⟩
      .exact⟨_,_,_,e,by rw[z]⟩
      exact⟨_,_,_,e,rfl⟩
     refine⟨kG (n9:=az (.int .i64 (by_.size:af))) (p:=L0 (A.v j) (by_.size:af)) rfl tv tv ?_ hlen,rfl⟩;simp only[l7,qo,mg,bO,cC,e1,hu];rfl
    split at h
    .rename_i t l hl;rw[kg h];have e1:a.eval x=A.v j:=e1;refine⟨kG (n9:=az (.int .i64 (aM l:af))) (p:=L0 (A.v j) (aM l:af)) rfl tv tv ?_ (let⟨p,c,e,_⟩:=E7 H hy hl;⟨p,_,c,e,rfl⟩),rfl⟩;simp only[l7,qo,mg,bO,cC,e1,hu];rfl
    cases h
   .rw[kg h];have e1:a.eval x= .slice aA 0 0:=e1;refine⟨kG (n9:=az (.int .i64 0)) (p:=L0 (.slice aA 0 0) 0) rfl tv tv ?_ ⟨_,_,_,rfl,rfl⟩,rfl⟩;simp only[l7,qo,mg,bO,cC,e1,hu];rfl
   cases h
  cases h
 .rename_i x y qo mg;obtain⟨p,e1,e2,e3,h⟩:=jE H hC h;obtain⟨q,f1,f2,f3,h⟩:=jE H hC h;split at h
  .rename_i u v _;rw[kg h];have e1:a.eval x= .int .i64 u:=e1;have f1:a.eval y= .int .i64 v:=f1;refine⟨kG (n9:=az (.int .i64 (max u v))) (p:=∀ty w,(ao9 c.argTypes ty [.int .i64 u,.int .i64 v].toArray).run P w= .ok (.int .i64 (max u v)) w) rfl tv tv ?_ (λty w=>af3 ty w),rfl⟩;simp only[l7,qo,mg,bO,cC,e1,f1];rfl
  cases h
 .rename_i x y qo mg;obtain⟨p,e1,e2,e3,h⟩:=jE H hC h;obtain⟨q,f1,f2,f3,h⟩:=jE H hC h;split at h
  .rename_i u v _;rw[kg h];have e1:a.eval x= .int .i64 u:=e1;have f1:a.eval y= .int .i64 v:=f1;refine⟨kG (n9:=az (.int .i64 (min u v))) (p:=∀ty w,(apa c.argTypes ty [.int .i64 u,.int .i64 v].toArray).run P w= .ok (.int .i64 (min u v)) w) rfl tv tv ?_ (λty w=>af4 ty w),rfl⟩;simp only[l7,qo,mg,bO,cC,e1,f1];rfl
  cases h
 cases h
theorem T8 {B:ah}(H:kW o n A S F s r a w)(hC:oK a C)(hF:∀j,b<=j->j<B->¬F j){op:Op}{out:Out}(h:(sV P C b op).run s r=az out)(hc:∀p∈out.cs,p)(hB:∀p∈out.re,p.1<B):E9 P o A S F w b op a out/\out.hs=[]:=by
 cases op
 case move x=>
  obtain⟨p,e1,e2,e3,h⟩:=jE H hC h;rw[jH h];exact⟨kG (n9:=aA) (p:=av) rfl e2 e3 (by simp only[l7,e1];rfl) tv,rfl⟩
 case assign x=>
  obtain⟨p,e1,e2,e3,h⟩:=jE H hC h;rw[jH h];exact⟨kG (n9:=aA) (p:=av) rfl e2 e3 (by simp only[l7,e1];rfl) tv,rfl⟩
 case unOp uo t x=>
  cases uo
  case not=>
   obtain⟨p,e1,e2,e3,h⟩:=jE H hC h;split at h
   .rename_i e;rw[kg h];have e1:a.eval x= .bool e.den:=e1;exact⟨kG (n9:=aA) (p:=av) rfl tv tv (by simp only[l7,e1];rfl) tv,rfl⟩
   cases h
  all_goals cases h
 case extract x i=>
  obtain⟨p,e1,e2,e3,h⟩:=jE H hC h;split at h
  .rename_i ps;have e1:a.eval x= .tuple (ps.map (oy A)).toArray:=e1;split at h
   .rename_i cs Ma;rw[jH h];have hm:=cn Ma;refine⟨kG (n9:=aA) (p:=av) rfl (λc hc=>e2 _ hm c hc) (λc hc=>e3 _ hm c hc) ?_ tv,rfl⟩;simp only[l7,e1,anA,cY,Ma];rfl
   .rename_i c Ma;rw[kg h];have hm:=cn Ma;refine⟨kG (n9:=aA) (p:=av) rfl (e2 _ hm c (by simp)) (e3 _ hm c (by simp)) ?_ tv,rfl⟩;simp only[l7,e1,anA,cY,Ma];rfl
   cases h
  cases h
 case nilCheck x=>
  obtain⟨p,e1,e2,e3,h⟩:=jE H hC h;split at h
  .rename_i j off;rw[kg h];exact⟨kG (n9:=aA) (p:=av) rfl e2 e3 (by simp only[l7,e1,Sy.den,Sc.den]) tv,rfl⟩
  .rename_i j i sz off;rw[kg h];exact⟨kG (n9:=aA) (p:=av) rfl e2 e3 (by simp only[l7,e1,Sy.den,Sc.den]) tv,rfl⟩
  .rename_i j;have e1:a.eval x= .pointer (A.p j):=e1;obtain⟨z,hz,h⟩:=jI h;have fin:∀ {t:Ty} {y:vz (El t)} {k:ak} {T:jv} {w':aN},uR T w' (.pointer (A.p j)) y->(∀oN,A.p j=az ⟨oN,0,aA⟩->∀d:El t,qj T w' oN d->aeJ o S w (A.set b (A.p j) 0 0 oN) b (.ext (if k then .JM t d else .Eh t d)))->
     out=⟨[(show ai (El t) from y).isSome=aC],[],.one (.ptr b 0),[(b,az (.ext (if k then .JM t ((show ai (El t) from y).getD (Bd t)) else .Eh t ((show ai (El t) from y).getD (Bd t)))))]⟩->E9 P o A S F w b (.nilCheck x) a out/\out.hs=[]:=by
    intro t y k T w' hp yJ e;subst e;have hs:(show ai (El t) from y).isSome=aC:=hc _ (by simp);cases y with
    |none=>cases hs
    |some d=>
     have⟨oN,cur,t0,fz,cs,p1,p2,p3,p4,p5⟩:=hp;have p1:A.p j=az ⟨oN,0,aA⟩:=by injection p1
     have zu:¬F b:=hF b (aW _) (hB _ (aU.2 rfl));refine⟨⟨A.set b (A.p j) 0 0 oN,lQ.set zu _ _ _ _,λop ho=>?_,.inr ⟨_,aU.2 rfl⟩,tv,⟨aW _,⟨_,rfl,yJ oN p1 d ⟨cur,t0,fz,cs,p2,p3,p4,p5⟩⟩,tv⟩⟩,rfl⟩;have abK:(Sy.one (.ptr b 0)).den (A.set b (A.p j) 0 0 oN)= .pointer (az ⟨oN,0,aA⟩):=by
      show cO (az ⟨(A.set b (A.p j) 0 0 oN).b b,0,aA⟩)=_;rw[jU.Al]
     rw[abK];simp only[aG,ho,e1,p1];exact⟨rfl,rfl⟩
   split at h
   .rename_i t y;refine fin (k:=aC) (T:=S) (w':=w) (xD (H.jM.ok j _ (show jL A r j=az _ by simp[jL,hz];rfl))) (λoN hb d hd=>?_) (jH h);show qj S w ((A.set b (A.p j) 0 0 oN).b b) d;rw[jU.Al];exact hd
   .rename_i t y;refine fin (k:=aD) (T:=o.old) (w':=o.w) (xD (H.args j _ hz)) (λoN hb d hd=>?_) (jH h);show qj o.old o.w ((A.set b (A.p j) 0 0 oN).b b) d;rw[jU.Al];exact hd
   cases h
  cases h
 case binOp bo t x y t'=>
  obtain⟨p,e1,e2,e3,h⟩:=jE H hC h;obtain⟨q,f1,f2,f3,h⟩:=jE H hC h;exact abJ H e1 f1 h hc
 case convert sT dT x=>
  simp only[sV] at h;split at h
  .rename_i k1 k h1 h2;obtain⟨p,e1,e2,e3,h⟩:=jE H hC h;split at h
   .rename_i k2 m;obtain⟨rfl,hp⟩:=oY h hc;have e1:a.eval x= .int k2 m:=e1;exact⟨kG (n9:=aA) rfl tv tv (by simp only[l7,h1,h2,e1];rfl) hp,rfl⟩
   cases h
  cases h
 case index t x i=>
  simp only[sV] at h;split at h
  .rename_i hu;obtain⟨p,e1,e2,e3,h⟩:=jE H hC h;obtain⟨q,f1,f2,f3,h⟩:=jE H hC h;split at h
   .rename_i u k m _;obtain⟨rfl,hp⟩:=oY h hc;have e1:a.eval x= .string u:=e1;have f1:a.eval i= .int k m:=f1;exact⟨kG (n9:=aA) rfl tv tv (by simp only[l7,hu,e1,f1];rfl) (show j8 m u.size from hp),rfl⟩
   cases h
  cases h
 case indexAddr t x i=>
  simp only[sV] at h;split at h
  .rename_i e hu;obtain⟨p,e1,e2,e3,h⟩:=jE H hC h;obtain⟨q,f1,f2,f3,h⟩:=jE H hC h;split at h
   .rename_i j k m _;obtain⟨y,hy,h⟩:=jI h;split at h
    .rename_i t' l hl;obtain⟨hi,h⟩:=jt h;obtain⟨rfl,hp⟩:=oY h hc;have e1:a.eval x=A.v j:=e1;have f1:a.eval i= .int k m:=f1;have hix:=T6 H hy hl hp.1 hp.2;exact⟨kG (n9:=aA) (p:=(P.info? e).isSome=aC/\L3 (A.v j) m) rfl e2 hix (by simp only[l7,hu,e1,f1];rfl) ⟨hi,hix⟩,rfl⟩
    cases h
   cases h
  cases h
 case fieldAddr t x f=>
  simp only[sV] at h;split at h
  .rename_i fs hu;split at h
   .rename_i fd hfd;obtain⟨hi,h⟩:=jt h;have hi:0<P.cellsOf fd.type:=by simpa using cw▸hi
    obtain⟨p,e1,e2,e3,h⟩:=jE H hC h;split at h
    .rename_i j off;rw[kg h];have e1:a.eval x= .pointer (az ⟨A.b j,off,aA⟩):=e1;exact⟨kG (n9:=aA) (p:=0<P.cellsOf fd.type) rfl e2 tv (by simp only[l7,hu,e1,hfd];rfl) hi,rfl⟩
    .rename_i j i sz off;rw[kg h];have e1:a.eval x= .pointer (az ⟨OP (A.v j),OQ (A.v j)+i.toNat*sz+off,aA⟩):=e1;exact⟨kG (n9:=aA) (p:=0<P.cellsOf fd.type) rfl e2 e3 (by simp only[l7,hu,e1,hfd,Sy.den,Sc.den,dz]) hi,rfl⟩
    cases h
   cases h
  cases h
 case load t x=>
  obtain⟨p,e1,e2,e3,h⟩:=jE H hC h;exact WI H hF e1 e2 e3 h hB
 case field t x f=>
  simp only[sV] at h;split at h
  .rename_i fs hu;split at h
   .rename_i fd hfd;obtain⟨p,e1,e2,e3,h⟩:=jE H hC h;split at h
    .rename_i cs;have e1:a.eval x= .agg (cs.map (Sc.den A)).toArray:=e1;split at h
     .rename_i fs' h3;obtain⟨hi,h⟩:=jt h;rw[jH h];refine⟨kG (n9:=aA) (p:=(P.info? fd.type).isSome=aC) rfl (λc hc=>e2 c (anB (dQ hc))) (λc hc=>e3 c (anB (dQ hc))) ?_ hi,rfl⟩;simp only[l7,hu,e1,hfd,h3,Sy.den,aoR,aov]
      congr 3
      apply cJ;rw[Array.toList_extract,List.extract_eq_take_drop];simp
     .cases h
     .rename_i d JH JI h3;split at h
      .rename_i c kO;rw[kg h];have hm:=cn kO;refine⟨kG (n9:=aA) (p:=av) rfl (e2 c hm) (e3 c hm) ?_ tv,rfl⟩;have hg:((cs.map (Sc.den A)).toArray[fd.offset]?).map (λv=>(v,av))=az (c.den A,av):=by
        rw[anA,cY,kO];rfl
       simp only[l7,hu,e1,hfd,h3];cases d<;>first|exact(JH _ rfl).elim|exact(JI _ _ rfl).elim|exact hg
      cases h
     cases h
    cases h
   cases h
  cases h
 case pick c x y=>exact WJ H hC h
 case call c=>exact WL H hC h hc
 all_goals cases h
end
def uW:R2->ak
 | .ar _ _=>aC
 | .Dv _ _ _=>aC
 | .ext (.par _ _)=>aC
 | .ext (.Eh _ _)=>aC
 |_=>aD
theorem oh {o:jO}{A:jU}{j:ah}:∀ {x:R2},uW x=aD->yI o A j x
 | .ar _ _,h=>by cases h
 | .Dv _ _ _,h=>by cases h
 | .ext (.par _ _),h=>by cases h
 | .ext (.Eh _ _),h=>by cases h
 | .ro _ _,_=>trivial
 | .row _ _ _,_=>trivial
 | .box _ _,_=>trivial
 | .yq _ _ _,_=>trivial
 | .map _ _ _,_=>trivial
 | .iter _ _ _ _ _ _,_=>trivial
 | .ext (.nest _ _ _ _ _ _),_=>trivial
 | .ext (.mj _ _ _ _ _ _),_=>trivial
 | .ext (.Br _ _),_=>trivial
 | .ext (.JM _ _),_=>trivial
 | .ext (.JN _ _ _ _ _),_=>trivial
 | .ext (.Ia _),_=>trivial
 | .ext (.uV _ _),_=>trivial
 | .ext (.nb _ _ _ _ _ _ _),_=>trivial
def sG (r:ah->ai R2)(j:ah)(x:ai R2):ah->ai R2:=λk=>match bp j k with
 |true=>x
 |false=>r k
def jB (r:ah->ai R2):aa (ah×ai R2)->ah->ai R2
 |[]=>r
 |p::l=>sG (jB r l) p.1 p.2
def ua (s:ah->ai E2)(d:ah)(x:ai E2):ah->ai E2:=λk=>match bp d k with
 |true=>x
 |false=>s k
theorem j9 {a b:ah}(h:bp a b=aC):a=b:=aou h
theorem WM {a b:ah}(h:bp a b=aD):a≠b:=Nat.ne_of_beq_eq_false h
theorem mu (r:ah->ai R2)(j:ah)(x:ai R2):sG r j x j=x:=by unfold sG;rw[dR]
theorem m9 {r:ah->ai R2}{j k:ah}{x:ai R2}(h:j≠k):sG r j x k=r k:=by
 grind [sG,j9]
theorem nM (s:ah->ai E2)(j:ah)(x:ai E2):ua s j x j=x:=by unfold ua;rw[dR]
theorem tA {s:ah->ai E2}{j k:ah}{x:ai E2}(h:j≠k):ua s j x k=s k:=by
 grind [ua,j9]
theorem WN (A:jU)(r:ah->ai R2)(j:ah)(x:ai R2):jL A (sG r j x)=oH (jL A r) j (x.map (R2.den A j)):=by
 funext k;unfold jL oH
 grind [mu,m9]
section
variable {P:aY}{o:jO}{n:ah}{A A':jU}{S:jv}{F G:ah->Prop}{s:ah->ai E2}{r:ah->ai R2}{a:Act}{w w':aN}{C:aa (ah×ak)}{b:ah}
theorem Pj (hA:lQ F A A')(hr:∀j x,r j=az x->F j/\x.all F):jL A r=jL A' r:=by
 funext j;unfold jL;cases h:r j with
 |none=>rfl
 |some x=>simp only[cN];rw[R2.congr hA (hr j x h).1 (hr j x h).2]
theorem kW.agree (H:kW o n A S F s r a w)(hA:lQ F A A')(hG:∀j,F j->G j):kW o n A' S G s r a w where
 size:=H.size
 lK:=H.lK
 env t e he:=⟨λhc=>by rw[show(⟨t,e.ch,e.sy.den A'⟩:VJ).val=e.sy.den A from(Sy.congr hA (H.rH t e he hc).1).symm];exact(H.env t e he).1 hc,(H.env t e he).2⟩
 rH t e he hc:=⟨Sy.mono hG (H.rH t e he hc).1,Sy.nj hA (H.rH t e he hc).1 (H.rH t e he hc).2⟩
 lq j x hj:=⟨hG j (H.lq j x hj).1,R2.mono hG (H.lq j x hj).2.1,R2.nj hA (H.lq j x hj).2.1 (H.lq j x hj).2.2⟩
 jM:=by rw[<-Pj hA λj x hj=>⟨(H.lq j x hj).1,(H.lq j x hj).2.1⟩];exact H.jM
 args j x hj:=(H.args j x hj).congr hA (H.lq j x hj).1
 wj:=⟨λj h=>hG j (H.wj.1 j h),H.wj.2.trans (hA.mono H.wj.1)⟩
theorem kW.Rh (H:kW o n A S F s r a w)(j:ah)(x:ai R2)(hj:∀y,x=az y->F j/\y.all F/\y.lu A)(hx:∀y,x=az y->yI o A j y){S':jv}(hf:oz o w' S' (oH (jL A r) j (x.map (R2.den A j)))):kW o n A S' F s (sG r j x) a w' where
 size:=H.size
 lK:=H.lK
 env:=H.env
 rH:=H.rH
 lq k y hk:=by
  by_cases e:j=k
  .subst e;rw[mu] at hk;exact hj y hk
  rw[m9 e] at hk;exact H.lq k y hk
 jM:=by rw[WN];exact hf
 args k y hk:=by
  by_cases e:j=k
  .subst e;rw[mu] at hk;exact hx _ hk
  rw[m9 e] at hk;exact H.args k y hk
 wj:=H.wj
theorem kW.ro (H:kW o n A S F s r a w){re:aa (ah×ai R2)}(hA:lQ F A A')(yJ:tM o S w A' b re):kW o n A' S (FU F re) s (jB r re) a w:=by
 have H1:kW o n A' S (FU F re) s r a w:=H.agree hA λj h=>.inl h;have key:∀(l:aa (ah×ai R2)) (b:ah),tM o S w A' b l->(∀p∈l,p∈re)->kW o n A' S (FU F re) s (jB r l) a w:=by
  intro l
  induction l with
  |nil=>intro b _ _;exact H1
  |cons p l ih=>
   intro b hr hs;have⟨h1,⟨x,hx,pg⟩,h3⟩:=hr;have H2:=ih _ h3 λq hq=>hs q (bl _ hq);show kW o n A' S (FU F re) s (sG (jB r l) p.1 p.2) a w;refine H2.Rh p.1 p.2 (λy hy=>⟨.inr ⟨p.2,hs p (by simp)⟩,?_⟩) (λy hy=>?_) ?_
   .rw[hx] at hy;cases hy;cases x<;>first|exact⟨tv,tv⟩|exact pg.elim|skip
    rename_i z;cases z<;>first|exact⟨tv,tv⟩|exact pg.elim
   .rw[hx] at hy;cases hy;cases x<;>first|exact pg|exact pg.elim|trivial|skip
    rename_i z;cases z<;>first|exact pg|exact pg.elim|trivial
   rw[hx];cases x with
   |ro t l=>exact H2.jM.Wu p.1 pg
   |ar t l=>exact H2.jM.Hh p.1 (r:=yE) tv λ_ q=>q
   |yq k t l=>exact H2.jM.Wu p.1 pg
   |Dv k t l=>exact H2.jM.Hh p.1 (r:=yE) tv λ_ q=>q
   |row _ _ _=>exact pg.elim
   |box _ _=>exact pg.elim
   |map _ _ _=>exact pg.elim
   |iter _ _ _ _ _ _=>exact pg.elim
   |ext z=>
    cases z with
    |Br t x=>exact H2.jM.Wu p.1 pg
    |par t x=>exact H2.jM.Hh p.1 (r:=yE) tv λ_ q=>q
    |JM t x=>exact H2.jM.Hh p.1 (r:=aeF (A'.b p.1) x) pg λ_ q=>q
    |Eh t x=>exact H2.jM.Hh p.1 (r:=yE) tv λ_ q=>q
    |nest _ _ _ _ _ _=>exact pg.elim
    |mj _ _ _ _ _ _=>exact pg.elim
    |JN _ _ _ _ _=>exact pg.elim
    |Ia _=>exact pg.elim
    |uV _ _=>exact pg.elim
    |nb _ _ _ _ _ _ _=>exact pg.elim
 exact key re b yJ λ_ h=>h
theorem kW.put (H:kW o n A S F s r a w){d:ah}{y:Sy}{u:aO}(hd:d<n)(rB:∀t e,s t=az e->∀l∈e.ch,l.1≠d)(hCd:∀l∈C,l.1≠d)(hy:oK a C->y.all F/\y.lu A)(hu:(oK a C->u=y.den A)/\(¬oK a C->u=aL)):kW o n A S F (ua s d (az ⟨C,y⟩)) r (a.put (az d) u) w where
 size:=by simp[eu,H.size]
 lK:=H.lK
 env t e he:=by
  by_cases q:d=t
  .subst q;rw[nM] at he;cases he;have hs:(a.put (az d) u).tmps[d]?=az u:=by
    simp only[eu,anP,if_true];rw[aQ (by rw[H.size];exact hd)]
   have hC:C.all (λl=>l.1 !=d)=aC:=bG.2 λl hl=>by simpa using hCd l hl
   refine⟨λhc=>?_,λhc=>?_⟩
   .show(a.put (az d) u).tmps[d]?=az (y.den A);rw[hs,hu.1 ((tI hC).1 hc)]
   show(a.put (az d) u).tmps[d]?=az aL;rw[hs,hu.2 (λk=>hc ((tI hC).2 k))]
  rw[tA q] at he;refine zm ?_ (H.env t e he);rw[bB,bG];exact⟨by simpa using λk=>q k.symm,λl hl=>by simpa using rB t e he l hl⟩
 rH t e he hc:=by
  by_cases q:d=t
  .subst q;rw[nM] at he;cases he;exact hy ((tI (bG.2 λl hl=>by simpa using hCd l hl)).1 hc)
  rw[tA q] at he;exact H.rH t e he ((tI (bG.2 λl hl=>by simpa using rB t e he l hl)).1 hc)
 lq:=H.lq
 jM:=H.jM
 args:=H.args
 wj:=H.wj
theorem oz.freeze {f:ah->ai Rs}(h:oz o w S f)(j:ah){x y:Rs}(hj:f j=az x)(hn:∀b,¬y.has b)(p9:y.ok (λk=>S k\/x.has k) w):∃S',(∀k,S k->S' k)/\oz o w S' (oH f j (az y)):=by
 refine⟨λk=>S k\/x.has k,λk=>.inl,h.swap (N:=λi=>i=j) (K:=λi=>i=j) (rE.refl _ _) (λ_=>.inl) (λk hk=>?_) (λi ri hi hr=>?_) (λi ri hi hr=>?_) (λi ri b hi hr hb=>?_) (λi k ri rk b hi hk hr _ hb _=>by rw[hi,hk])⟩
 .rcases hk with hk|hk
  .exact .inl hk
  refine .inr ⟨.inl ⟨j,x,rfl,hj,hk⟩,(h.own j x k hj hk).2.1,λi ri hi hr hb=>?_⟩;subst hi;unfold oH at hr;rw[aQ rfl] at hr;cases hr;exact hn k hb
 .unfold oH at hr;rw[aP hi] at hr;exact⟨hi,hr⟩
 .subst hi;unfold oH at hr;rw[aQ rfl] at hr;cases hr;exact p9
 subst hi;unfold oH at hr;rw[aQ rfl] at hr;cases hr;exact(hn b hb).elim
theorem Ih {T:jv}:∀ {cs:aa uT} {vs:aa aO},vs.length=cs.length->(∀(d:ah) x v,cs[d]?=az x->vs[d]?=az v->uU T w v x)->kQ T w vs cs
 |[],[],_,_=>trivial
 |[],_::_,h,_=>by cases h
 |_::_,[],h,_=>by cases h
 |c::cs,v::vs,h,k=>⟨k 0 c v rfl rfl,Ih (by simpa using h) λd x u h1 h2=>k (d+1) x u (by simpa using h1) (by simpa using h2)⟩
theorem Aa.cel {ie:aV}{v:aO}{c:uT}(h:Aa S w ie v c):uU (λk=>S k\/v.ownBlock=az k) w v c:=by
 cases c with
 |l t l=>exact mI.rd h
 |_=>exact h.1.up λ_=>.inl
theorem ot.rd {v:aO}{f:Lit->aO}{e:aV}{t:Ty}{ie:aV}{l:aa (El t)}(h:ot S w v f aA e t ie l):Rd (λk=>S k\/(AG v f aA e t ie l).has k) w v l:=by
 have⟨xs,h1,_,h2⟩:=h.row;refine mI.rd (S:=λk=>S k\/(AG v f aA e t ie l).has k) (e:=e) ⟨xs,by rw[<-lZ];exact h1,by rw[h1.1,lZ],λi hi=>?_⟩|>.up λk hk=>?_
 .have hlen:((xs.drop (i*Data.size (El t))).take (Data.size (El t))).length=(jT t l[i]).length:=by
   have:=cm (jD t) (show i+1<=l.length from hi);rw[cL,<-h1.1] at this;rw[mV,bJ,b9,<-lZ];omega
  refine Eg t (Ih hlen λd x u hx hu=>?_);have hd:d<jD t:=by have:=(cF.1 hx).1;rwa[mV] at this
  rw[<-lZ,cE,aQ hd,cI] at hu;have Ri:(oW t l)[i*jD t+d]?=az x:=by
   rw[Bv hi hd,bD,bN hi];exact hx
  obtain⟨k1,k2⟩:=h2 _ x Ri (by simp);rw[hu] at k1;cases k1;refine k2.cel.up λk hk=>?_;rcases hk with hk|hk
  .exact .inl hk
  refine .inr (.inr ⟨_,?_,by simp,hk⟩);have:=(cF.1 Ri).1;rwa[nK] at this
 rcases hk with hk|hk
 .exact hk
 exact .inr (.inl hk)
theorem xE.at {k:Kc}{α:Type}[Data α]{b:ah}{f:Lit->aO}{ie:aV}{m:jw k (aa α)}(h:xE S w b f aA ie m):rO (λc=>S c\/(Wr (az b) f aA ie m).has c) w b m:=by
 have⟨zs,h1,h2,h3⟩:=h.map;refine⟨zs,h1,h2,λz hz=>?_⟩;obtain⟨k1,k2⟩:=h3 z hz (by simp);refine k2.rd.up λc hc=>?_;rcases hc with hc|hc
 .exact .inl hc
 exact .inr (.inr ⟨z.1,by simp,by rw[<-k1];exact hc⟩)
def An:R2->ai R2
 | .row _ t l=>az (.ro t l)
 | .map k t m=>az (.yq k t m)
 | .ext (.nest _ aA _ t _ l)=>az (.ro t l)
 | .ext (.mj _ k aA t _ m)=>az (.yq k (.list t) m)
 |_=>aA
def numOf:Sc->ai ah
 | .own j=>az j
 | .mp j=>az j
 | .pd j=>az j
 | .ptr j _=>az j
 |_=>aA
theorem WO {x z:R2}(h:An x=az z):uW x=aD:=by
 cases x<;>first|rfl|(cases h;done)|skip
 rename_i y;cases y<;>first|rfl|(cases h;done)
theorem JT {x z:R2}(h:An x=az z):(∃t l,z= .ro t l)\/∃k t m,z= .yq k t m:=by
 cases x with
 |row e t l=>cases h;exact .inl ⟨_,_,rfl⟩
 |map k t m=>cases h;exact .inr ⟨_,_,_,rfl⟩
 |ext y=>
  cases y with
  |nest q hh e t ie l=>
   cases hh with
   |none=>cases h;exact .inl ⟨_,_,rfl⟩
   |some _=>cases h
  |mj q k hh t ie m=>
   cases hh with
   |none=>cases h;exact .inr ⟨_,_,_,rfl⟩
   |some _=>cases h
  |_=>cases h
 |_=>cases h
theorem Pk {x z:R2}{A:jU}{S:jv}{w:aN}{j:ah}(h:An x=az z)(hx:(x.den A j).ok S w):(∀b,¬(z.den A j).has b)/\(z.den A j).ok (λk=>S k\/(x.den A j).has k) w:=by
 cases x with
 |row e t l=>cases h;exact⟨λb q=>(by cases q),mI.rd hx⟩
 |map k t m=>
  cases h;have⟨b,hb,hm⟩:=hx;exact⟨λb q=>(by cases q),JL ⟨az b,by rw[<-hb],.inr hb,hm.up λ_=>.inl⟩⟩
 |ext y=>
  cases y with
  |nest q hh e t ie l=>
   cases hh with
   |none=>cases h;exact⟨λb q=>(by cases q),ot.rd hx⟩
   |some _=>cases h
  |mj q k hh t ie m=>
   cases hh with
   |none=>
    cases h;have⟨b,hb,hm⟩:=hx;refine⟨λb q=>(by cases q),JL ⟨az b,by rw[<-hb],.inr (.inl hb),?_⟩⟩;have:=hm.at
    rw[<-hb] at this;exact this
   |some _=>cases h
  |_=>cases h
 |_=>cases h
def WQ:aa Sc->(aa (ah×ai R2)->Tr Out)->Tr Out
 |[],k=>k []
 |c::l,k=>match numOf c with
  |some j=>.res j λx=>match An x with
   |some z=>WQ l λre=>k ((j,az z)::re)
   |none=>match uW x with
    |true=>.fail
    |false=>WQ l k
  |none=>WQ l k
def Frz (r:ah->ai R2)(re:aa (ah×ai R2)):Prop:=∀p∈re,∃y z,r p.1=az y/\An y=az z/\p.2=az z
def aiR (r:ah->ai R2)(re:aa (ah×ai R2))(l:aa Sc):Prop:=∀c∈l,∀j,numOf c=az j->∀y,r j=az y->uW y=aD/\∀z,An y=az z->(j,az z)∈re
theorem vG:∀(l:aa Sc) (k:aa (ah×ai R2)->Tr Out) {out:Out},(WQ l k).run s r=az out->∃re,Frz r re/\aiR r re l/\(k re).run s r=az out
 |[],k,out,h=>⟨[],λ_ q=>(by cases q),λ_ q=>(by cases q),h⟩
 |c::l,k,out,h=>by
  simp only[WQ] at h;split at h
  .rename_i j hc;simp only[Tr.run] at h;split at h
   .rename_i x hx;split at h
    .rename_i z hz;obtain⟨re,h1,h3,h2⟩:=vG l _ h;refine⟨_,λp hp=>?_,λc' Ab i hi y hy=>?_,h2⟩
     .rcases bg.1 hp with rfl|hp
      .exact⟨x,z,hx,hz,rfl⟩
      exact h1 p hp
     rcases bg.1 Ab with rfl|Ab
     .rw[hc] at hi;cases hi;rw[hx] at hy;cases hy;refine⟨WO hz,λz' Bw=>?_⟩;rw[hz] at Bw;cases Bw;exact aZ
     exact⟨(h3 c' Ab i hi y hy).1,λz' Bw=>bl _ ((h3 c' Ab i hi y hy).2 z' Bw)⟩
    rename_i hz;split at h
    .cases h
    rename_i ha;obtain⟨re,h1,h3,h2⟩:=vG l _ h;refine⟨re,h1,λc' Ab i hi y hy=>?_,h2⟩;rcases bg.1 Ab with rfl|Ab
    .rw[hc] at hi;cases hi;rw[hx] at hy;cases hy;exact⟨ha,λz' Bw=>by rw[hz] at Bw;cases Bw⟩
    exact h3 c' Ab i hi y hy
   cases h
  rename_i hc;obtain⟨re,h1,h3,h2⟩:=vG l _ h;refine⟨re,h1,λc' Ab i hi y hy=>?_,h2⟩;rcases bg.1 Ab with rfl|Ab
  .rw[hc] at hi;cases hi
  exact h3 c' Ab i hi y hy
theorem WR:∀ {re:aa (ah×ai R2)},Frz r re->∀ {j:ah} {y:R2},r j=az y->jB r re j=az y\/∃z,An y=az z/\jB r re j=az z
 |[],_,j,y,h=>.inl h
 |p::re,hf,j,y,h=>by
  by_cases e:p.1=j
  .have e2:jB r (p::re) j=p.2:=by rw[<-e];exact mu _ _ _
   obtain⟨y',z,h1,h2,h3⟩:=hf p (by simp)
   grind
  have e2:jB r (p::re) j=jB r re j:=m9 e;rw[e2];exact WR (λq hq=>hf q (bl _ hq)) h
theorem abL {re:aa (ah×ai R2)}(h:Frz r re){j:ah}{z:R2}(hm:(j,az z)∈re):jB r re j=az z:=by
 induction re with
 |nil=>cases hm
 |cons p re ih=>
  by_cases q:p.1=j
  .have e:jB r (p::re) j=p.2:=by rw[<-q];exact mu _ _ _
   rw[e];obtain⟨y1,z1,h1,h2,h3⟩:=h p (by simp);obtain⟨y2,z2,h4,h5,h6⟩:=h _ hm;have h4:r j=az y2:=h4;rw[q,h4] at h1;cases h1;rw[h2] at h5;cases h5;cases h6;exact h3
  have e:jB r (p::re) j=jB r re j:=m9 q;rw[e];refine ih (λz hz=>h z (bl _ hz)) ?_;rcases bg.1 hm with k|k
  .rw[<-k] at q;exact(q rfl).elim
  exact k
theorem kW.freeze (H:kW o n A S F s r a w):∀ {re:aa (ah×ai R2)},Frz r re->∃S',(∀k,S k->S' k)/\kW o n A S' F s (jB r re) a w
 |[],_=>⟨S,λ_ h=>h,H⟩
 |p::re,h=>by
  obtain⟨S1,h1,H1⟩:=kW.freeze H (re:=re) λq hq=>h q (bl _ hq);obtain⟨y,z,hr,hz,hp⟩:=h p (by simp);have fin:∀x,jB r re p.1=az x->(∃S',(∀k,S1 k->S' k)/\oz o w S' (oH (jL A (jB r re)) p.1 (az (z.den A p.1))))->∃S',(∀k,S k->S' k)/\kW o n A S' F s (jB r (p::re)) a w:=λx hx ⟨S2,k2,hf⟩=>by
   refine⟨S2,λk q=>k2 k (h1 k q),H1.Rh p.1 p.2 (λy hy=>?_) (λy hy=>?_) (by rw[hp];exact hf)⟩
   .rw[hp] at hy;cases hy;rcases JT hz with⟨_,_,rfl⟩|⟨_,_,_,rfl⟩<;>exact⟨(H1.lq p.1 x hx).1,tv,tv⟩
   rw[hp] at hy;cases hy;rcases JT hz with⟨_,_,rfl⟩|⟨_,_,_,rfl⟩<;>trivial
  rcases WR (λq hq=>h q (bl _ hq)) hr with hx|⟨z',Bw,hx⟩
  .have hm:jL A (jB r re) p.1=az (y.den A p.1):=by simp[jL,hx]
   obtain⟨k1,k2⟩:=Pk hz (H1.jM.ok p.1 _ hm);exact fin _ hx (H1.jM.freeze p.1 hm k1 k2)
  rw[hz] at Bw;cases Bw;have hm:jL A (jB r re) p.1=az (z.den A p.1):=by simp[jL,hx]
  refine fin _ hx ⟨S1,λ_ q=>q,H1.jM.Hh p.1 (H1.jM.ok p.1 _ hm) λb q=>?_⟩;rcases JT hz with⟨_,_,rfl⟩|⟨_,_,_,rfl⟩<;>cases q
end
section
variable {P:aY}{o:jO}{n:ah}{A A':jU}{S T:jv}{F G:ah->Prop}{s:ah->ai E2}{r:ah->ai R2}{a:Act}{w w':aN}{C:aa (ah×ak)}{b:ah}
structure JU (T:jv)(w:aN)(A:jU)(j:ah)(x:R2):Prop where
 l:∀t l,aeI x=az ⟨t,l⟩->Rd T w (A.v j) (l:aa (El t))
 m:∀k t m,Pe x=az ⟨k,t,m⟩->Rd T w (.map (A.m j)) (m:jw k (El t))
 p:∀t y,Mm x=az ⟨t,y⟩->Rd T w (.pointer (A.p j)) (y:vz (El t))
 s:∀t y,Wy x=az ⟨t,y⟩->qj T w (A.b j) (y:El t)
def Reads (T:jv)(w:aN)(A:jU)(r:ah->ai R2):Prop:=∀j x,r j=az x->JU T w A j x
def uX (T:jv)(w:aN)(A:jU)(r:ah->ai R2)(cs:aa Sc):Prop:=∀c∈cs,∀j,numOf c=az j->∀x,r j=az x->JU T w A j x
theorem uY {α:Type 1}:∀(t:Ty) (l:aa Sc) (k:El t->aa Sc->Tr α) {out:α},uX T w A r l->(Pf t l k).run s r=az out->∃(x:El t) (u rest:aa Sc),l=u++rest/\Data.rd T w (u.map (Sc.den A)) x/\(k x rest).run s r=az out
 | .int,l,k,out,hR,h=>by
  have h:(agb l k).run s r=az out:=h;unfold agb at h;split at h
  .exact⟨_,[_],_,rfl,rfl,h⟩
  cases h
 | .bool,l,k,out,hR,h=>by
  have h:(WB l k).run s r=az out:=h;unfold WB at h;split at h
  .exact⟨_,[_],_,rfl,rfl,h⟩
  cases h
 | .unit,l,k,out,hR,h=>⟨(),[],l,rfl,rfl,h⟩
 | .str,l,k,out,hR,h=>by
  have h:(agc l k).run s r=az out:=h;unfold agc at h;split at h
  .exact⟨_,[_],_,rfl,rfl,h⟩
  cases h
 | .list t,l,k,out,hR,h=>by
  have h:(WC t l k).run s r=az out:=h;unfold WC at h;split at h
  .obtain⟨x,hx,h⟩:=jI h;split at h
   .rename_i t' y hy;split at h
    .rename_i z hz;obtain⟨e,rfl⟩:=ni hz;cases e;exact⟨y,[_],_,rfl,⟨_,rfl,lz ((hR _ aZ _ rfl x hx).l t y hy)⟩,h⟩
    cases h
   cases h
  .exact⟨[],[_],_,rfl,⟨_,rfl,lz O8⟩,h⟩
  cases h
 | .map q t,l,k,out,hR,h=>by
  have h:(agd q t l k).run s r=az out:=h;unfold agd at h;split at h
  .obtain⟨x,hx,h⟩:=jI h;split at h
   .rename_i k' t' y hy;split at h
    .rename_i z hz;obtain⟨e,rfl⟩:=ni hz;cases e;exact⟨y,[_],_,rfl,⟨_,rfl,AF ((hR _ aZ _ rfl x hx).m q t y hy)⟩,h⟩
    cases h
   cases h
  .exact⟨([]:aa (ko q×El t)),[_],_,rfl,⟨_,rfl,aA,rfl,rfl⟩,h⟩
  cases h
 | .ptr t,l,k,out,hR,h=>by
  have h:(age t l k).run s r=az out:=h;unfold age at h;split at h
  .obtain⟨x,hx,h⟩:=jI h;split at h
   .rename_i t' y hy;split at h
    .rename_i z hz;obtain⟨e,rfl⟩:=ni hz;cases e;exact⟨y,[_],_,rfl,⟨_,rfl,xD ((hR _ aZ _ rfl x hx).p t y hy)⟩,h⟩
    cases h
   cases h
  .split at h
   .obtain⟨x,hx,h⟩:=jI h;split at h
    .rename_i t' y hy;split at h
     .rename_i z hz;obtain⟨e,rfl⟩:=ni hz;cases e;obtain⟨cur,t0,fz,cs,p1,p2,p3,p4⟩:=(hR _ aZ _ rfl x hx).s t y hy;exact⟨(az y:ai (El t)),[_],_,rfl,⟨_,rfl,_,cur,t0,fz,cs,rfl,p1,p2,p3,p4⟩,h⟩
     cases h
    cases h
   cases h
  .exact⟨(aA:ai (El t)),[_],_,rfl,⟨_,rfl,rfl⟩,h⟩
  cases h
 | .pair p q,l,k,out,hR,h=>by
  simp only[Pf] at h;obtain⟨x,u,rest,rfl,h1,h⟩:=uY p l _ hR h;obtain⟨y,u2,aiS,rfl,h2,h⟩:=uY q _ _ (λc hc=>hR c (bV _ hc)) h;exact⟨(x,y),u++u2,aiS,by rw[cx],⟨_,_,by rw[List.map_append],h1,h2⟩,h⟩
def jA:Sy->aa Sc
 | .one c=>[c]
 | .agg cs=>cs
 | .vt _=>[]
theorem qp {α:Type 1}{t:Ty}{y:Sy}{k:El t->Tr α}{out:α}(hR:uX T w A r (jA y))(h:(rZ t y k).run s r=az out):∃x:El t,Rd T w (y.den A) x/\(k x).run s r=az out:=by
 unfold rZ at h;split at h
 .rename_i c hp;obtain⟨x,u,rest,hu,h1,h⟩:=uY t _ _ hR h;split at h
  .rw[bW] at hu;subst hu;refine⟨x,⟨_,h1,?_⟩,h⟩;rw[E3,hp];rfl
  cases h
 .rename_i cs hp;obtain⟨x,u,rest,hu,h1,h⟩:=uY t _ _ hR h;split at h
  .rw[bW] at hu;subst hu;refine⟨x,⟨_,h1,?_⟩,h⟩;rw[E3,hp];rfl
  cases h
 cases h
theorem qj.keep {α:Type}[Data α]{T:jv}{w w':aN}{b:ah}{y:α}(h:qj T w b y)(hk:nC T w w'):qj T w' b y:=let⟨cur,t,fz,cs,h1,h2,h3,h4⟩:=h;⟨cur,t,fz,cs,h1,(hk b h1).trans h2,Data.keep hk h3,h4⟩
theorem qj.up {α:Type}[Data α]{T T':jv}{w:aN}{b:ah}{y:α}(h:qj T w b y)(hs:∀k,T k->T' k):qj T' w b y:=let⟨cur,t,fz,cs,h1,h2,h3,h4⟩:=h;⟨cur,t,fz,cs,hs b h1,h2,Data.up hs h3,h4⟩
theorem yK (H:kW o n A S F s r a w){j:ah}{x:R2}(hj:r j=az x)(ha:uW x=aD):JU (λk=>S k\/(x.den A j).has k) w A j x:=by
 have p9:(x.den A j).ok S w:=H.jM.ok j _ (show jL A r j=az _ by simp[jL,hj]);cases x with
 |ro t' l'=>exact⟨(λt l q=>by cases q;exact Rd.up (λ_=>.inl) p9),(λ_ _ _ q=>by cases q),(λ_ _ q=>by cases q),(λ_ _ q=>by cases q)⟩
 |ar _ _=>cases ha
 |row e t' l'=>exact⟨(λt l q=>by cases q;exact mI.rd p9),(λ_ _ _ q=>by cases q),(λ_ _ q=>by cases q),(λ_ _ q=>by cases q)⟩
 |box _ _=>exact⟨(λ_ _ q=>by cases q),(λ_ _ _ q=>by cases q),(λ_ _ q=>by cases q),(λ_ _ q=>by cases q)⟩
 |yq k' t' l'=>exact⟨(λ_ _ q=>by cases q),(λk t m q=>by cases q;exact Rd.up (λ_=>.inl) p9),(λ_ _ q=>by cases q),(λ_ _ q=>by cases q)⟩
 |Dv _ _ _=>cases ha
 |map k' t' l'=>
  refine⟨(λ_ _ q=>by cases q),(λk t m q=>?_),(λ_ _ q=>by cases q),(λ_ _ q=>by cases q)⟩;cases q;exact(Pk (x:=.map k' t' l') rfl p9).2
 |iter _ _ _ _ _ _=>exact⟨(λ_ _ q=>by cases q),(λ_ _ _ q=>by cases q),(λ_ _ q=>by cases q),(λ_ _ q=>by cases q)⟩
 |ext y=>
  cases y with
  |nest q hh e t' ie l'=>
   cases hh with
   |none=>exact⟨(λt l q=>by cases q;exact ot.rd p9),(λ_ _ _ q=>by cases q),(λ_ _ q=>by cases q),(λ_ _ q=>by cases q)⟩
   |some _=>exact⟨(λ_ _ q=>by cases q),(λ_ _ _ q=>by cases q),(λ_ _ q=>by cases q),(λ_ _ q=>by cases q)⟩
  |mj q k' hh t' ie m'=>
   cases hh with
   |none=>
    refine⟨(λ_ _ q=>by cases q),(λk t m q=>?_),(λ_ _ q=>by cases q),(λ_ _ q=>by cases q)⟩;cases q;exact(Pk (x:=.ext (.mj _ k' aA t' ie m')) rfl p9).2
   |some _=>exact⟨(λ_ _ q=>by cases q),(λ_ _ _ q=>by cases q),(λ_ _ q=>by cases q),(λ_ _ q=>by cases q)⟩
  |Br t' x'=>exact⟨(λ_ _ q=>by cases q),(λ_ _ _ q=>by cases q),(λt y q=>by cases q;exact Rd.up (λ_=>.inl) p9),(λ_ _ q=>by cases q)⟩
  |par _ _=>cases ha
  |JM t' x'=>exact⟨(λ_ _ q=>by cases q),(λ_ _ _ q=>by cases q),(λ_ _ q=>by cases q),(λt y q=>by cases q;exact qj.up (show qj S w (A.b j) x' from p9) λk hk=>.inl hk)⟩
  |Eh _ _=>cases ha
  |JN _ _ _ _ _=>exact⟨(λ_ _ q=>by cases q),(λ_ _ _ q=>by cases q),(λ_ _ q=>by cases q),(λ_ _ q=>by cases q)⟩
  |Ia _=>exact⟨(λ_ _ q=>by cases q),(λ_ _ _ q=>by cases q),(λ_ _ q=>by cases q),(λ_ _ q=>by cases q)⟩
  |uV _ _=>exact⟨(λ_ _ q=>by cases q),(λ_ _ _ q=>by cases q),(λ_ _ q=>by cases q),(λ_ _ q=>by cases q)⟩
  |nb _ _ _ _ _ _ _=>exact⟨(λ_ _ q=>by cases q),(λ_ _ _ q=>by cases q),(λ_ _ q=>by cases q),(λ_ _ q=>by cases q)⟩
theorem JU.up {T T':jv}{j:ah}{x:R2}(h:JU T w A j x)(hs:∀k,T k->T' k):JU T' w A j x:=⟨λt l q=>(h.l t l q).up hs,λk t m q=>(h.m k t m q).up hs,λt y q=>(h.p t y q).up hs,λt y q=>(h.s t y q).up hs⟩
theorem abM (H:kW o n A S F s r a w){j:ah}{x:R2}(hj:r j=az x)(ha:uW x=aC):JU o.old w A j x:=by
 have hk:=H.args j x hj;cases x with
 |ar t' l'=>exact⟨(λt l q=>by cases q;exact Rd.keep H.jM.old hk),(λ_ _ _ q=>by cases q),(λ_ _ q=>by cases q),(λ_ _ q=>by cases q)⟩
 |Dv k' t' l'=>exact⟨(λ_ _ q=>by cases q),(λk t m q=>by cases q;exact Rd.keep H.jM.old hk),(λ_ _ q=>by cases q),(λ_ _ q=>by cases q)⟩
 |ext y=>
  cases y with
  |par t' x'=>exact⟨(λ_ _ q=>by cases q),(λ_ _ _ q=>by cases q),(λt y q=>by cases q;exact Rd.keep H.jM.old hk),(λ_ _ q=>by cases q)⟩
  |Eh t' x'=>exact⟨(λ_ _ q=>by cases q),(λ_ _ _ q=>by cases q),(λ_ _ q=>by cases q),(λt y q=>by cases q;exact qj.keep hk H.jM.old)⟩
  |_=>cases ha
 |_=>cases ha
theorem CB (H:kW o n A S F s r a w):Reads (· <w.heap.size) w A r:=λj x hj=>by
 cases ha:uW x with
 |false=>exact(yK H hj ha).up λk hk=>hk.elim (H.jM.pT k) λq=>(H.jM.own j _ k (show jL A r j=az _ by simp[jL,hj]) q).2.1
 |true=>exact(abM H hj ha).up λk hk=>bR hk.1 H.jM.sJ.size
theorem WS (H:kW o n A S F s r a w){j:ah}{z:R2}(hj:r j=az z)(hz:∃y,An y=az z):JU S w A j z:=by
 have⟨y,hy⟩:=hz;rcases JT hy with⟨t,l,rfl⟩|⟨k,t,m,rfl⟩
 .exact(yK H hj rfl).up λk hk=>hk.elim id λq=>by cases q
 exact(yK H hj rfl).up λk hk=>hk.elim id λq=>by cases q
theorem yL (H:kW o n A S F s r a w){cs:aa Sc}(hc:∀c∈cs,∀j,numOf c=az j->∀y,r j=az y->uW y=aD):uX (JP o w) w A r cs:=λc vR j hcj x hj=>by
 refine(yK H hj (hc c vR j hcj x hj)).up λk hk=>?_;rcases hk with hk|hk
 .rcases H.jM.src k hk with h3|h3
  .exact .inl h3
  exact .inr ⟨h3,H.jM.pT k hk⟩
 obtain⟨h1,h2,_⟩:=H.jM.own j _ k (show jL A r j=az _ by simp[jL,hj]) hk;exact .inr ⟨h1,h2⟩
end
def pq:aa Ty->Type
 |[]=>Unit
 |t::ts=>El t×pq ts
def pW:aa (ak×Ty)->Type
 |[]=>Unit
 |p::ts=>El p.2×pW ts
def Bx (S T:jv)(w:aN):(lS:aa (ak×Ty))->aa aO->pW lS->Prop
 |[],[],_=>av
 |(k,t)::lS,v::vs,x=>(match k with
  |true=>Rd S w v (x.1:El t)
  |false=>Rd T w v (x.1:El t))/\Bx S T w lS vs x.2
 |_,_,_=>False
def CC (S:jv)(w:aN):(ts:aa Ty)->aa aO->pq ts->Prop
 |[],[],_=>av
 |t::ts,v::vs,x=>Rd S w v x.1/\CC S w ts vs x.2
 |_,_,_=>False
def qN (S:jv)(w:aN):(ts:aa Ty)->aO->pq ts->Prop
 |[t],v,x=>Rd S w v x.1
 |ts,v,x=> ∃vs:aa aO,v= .tuple vs.toArray/\CC S w ts vs x
def kr (P:aY)(f:bI)(lS:aa (ak×Ty))(rs:aa Ty)(rF:pW lS->Prop)(fn:pW lS->pq rs):Prop:=
 ∀(o:Orig) (vs:aa aO) (x:pW lS),Bx o.S (· <o.w.heap.size) o.w lS vs x->rF x->aI P f vs.toArray o.w (He o λS v w'=>qN S w' rs v (fn x))
def nA:(ts:aa Ty)->pq ts->ah->aa (ak×aa Sc)×aa (ah×ai R2)
 |[],_,_=>([],[])
 |t::ts,y,b=>let c:=j4 aC b (jT t y.1);let r:=nA ts y.2 (b+c.2.length);((l8 t,c.1)::r.1,c.2++r.2)
def ny (rs:aa Ty)(y:pq rs)(b:ah):Sy×aa (ah×ai R2):=
 match nA rs y b with
 |([(aC,cs)],re)=>(.agg cs,re)
 |([(aD,[c])],re)=>(.one c,re)
 |(ps,re)=>(.vt ps,re)
section
variable {P:aY}{o:jO}{n:ah}{A A':jU}{S T:jv}{F G:ah->Prop}{s:ah->ai E2}{r:ah->ai R2}{a:Act}{w w':aN}{C:aa (ah×ak)}{b:ah}
theorem pJ {k:ak}:∀(cs:aa uT) (b:ah),∀p∈(j4 k b cs).2,b<=p.1/\p.1<b+(j4 k b cs).2.length
 |[],_,_,h=>by cases h
 | .i _::r,b,p,h=>pJ r b p h
 | .b _::r,b,p,h=>pJ r b p h
 | .s _::r,b,p,h=>pJ r b p h
 | .l t l::r,b,p,h=>by
  obtain⟨x,h⟩:∃x,p∈(b,x)::(j4 k (b+1) r).2:=⟨_,h⟩;show b<=p.1/\p.1<b+((j4 k (b+1) r).2.length+1);rcases bg.1 h with rfl|h
  .simp
  have:=pJ r (b+1) p h;omega
 | .p t l::r,b,p,h=>by
  obtain⟨x,h⟩:∃x,p∈(b,x)::(j4 k (b+1) r).2:=⟨_,h⟩;show b<=p.1/\p.1<b+((j4 k (b+1) r).2.length+1);rcases bg.1 h with rfl|h
  .simp
  have:=pJ r (b+1) p h;omega
 | .m q t l::r,b,p,h=>by
  obtain⟨x,h⟩:∃x,p∈(b,x)::(j4 k (b+1) r).2:=⟨_,h⟩;show b<=p.1/\p.1<b+((j4 k (b+1) r).2.length+1);rcases bg.1 h with rfl|h
  .simp
  have:=pJ r (b+1) p h;omega
theorem tM.agree (hA:lQ F A A'):∀ {re:aa (ah×ai R2)} {b:ah},(∀p∈re,F p.1)->tM o S w A b re->tM o S w A' b re
 |[],_,_,_=>trivial
 |p::re,b,hk,h=>by
  have⟨h1,⟨x,hx,hr⟩,h3⟩:=h;have e:=hA p.1 (hk p (by simp));refine⟨h1,⟨x,hx,?_⟩,tM.agree hA (λq hq=>hk q (bl _ hq)) h3⟩;have hF:=hk p (by simp);cases x<;>first|(show Rd _ _ _ _;rw[<-e.1];exact hr)|(show Rd _ _ _ _;rw[<-e.2.2.2];exact hr)|exact hr|skip
  rename_i z;cases z<;>first|exact hr|(show Rd _ _ _ _;rw[<-hA.p hF];exact hr)|(show qj _ _ _ _;rw[<-e.2.1];exact hr)
theorem tM.append:∀ {re re':aa (ah×ai R2)} {b b':ah},tM o S w A b re->(∀p∈re,p.1<b')->b<=b'->tM o S w A b' re'->tM o S w A b (re++re')
 |[],_,_,_,_,_,hb,k=>k.aly hb
 |p::re,re',b,b',h,hl,hb,k=>⟨h.1,h.2.1,tM.append h.2.2 (λq hq=>hl q (bl _ hq)) (by have:=hl p (by simp);omega) k⟩
theorem tN {t:Ty}{v:aO}{x:El t}(h:Rd S w v x):∃vs,kQ S w vs (jT t x)/\v=(if l8 t then .agg vs.toArray else vs.headD aL):=by
 have⟨cs,h1,h2⟩:=h
 grind [rD,E3]
theorem AH {B:ah}:∀(ts:aa Ty) (y:pq ts) (vs:aa aO) (b:ah) (A:jU) (F:ah->Prop),CC S w ts vs y->(∀j,b<=j->j<B->¬F j)->(∀p∈(nA ts y b).2,p.1<B)->
  ∃A',lQ F A A'/\(nA ts y b).1.map (oy A')=vs/\tM o S w A' b (nA ts y b).2/\∀p∈(nA ts y b).1,∀c∈p.2,c.all (FU F (nA ts y b).2)/\c.lu A'
 |[],_,[],b,A,F,_,_,_=>⟨A,lQ.refl _ _,rfl,tv,λ_ h=>by cases h⟩
 |[],_,_::_,_,_,_,h,_,_=>h.elim
 |_::_,_,[],_,_,_,h,_,_=>h.elim
 |t::ts,y,v::vs,b,A,F,h,hF,hB=>by
  obtain⟨cs,kO,hv⟩:=tN h.1;obtain⟨A1,h1,h2,h3,h4⟩:=oX (o:=o) (S:=S) (w:=w) (k:=aC) _ cs b A F kO hF λp hp=>hB p (bU _ hp);have yb:=pJ (k:=aC) (jT t y.1) b;obtain⟨A2,k1,k2,k3,k4⟩:=AH ts y.2 vs (b+(j4 aC b (jT t y.1)).2.length) A1 (FU F (j4 aC b (jT t y.1)).2) h.2 (λj hj hjB hn=>by
   rcases hn with hn|⟨x,hx⟩
   .exact hF j (by omega) hjB hn
   have:=yb _ hx;omega) λp hp=>hB p (bV _ hp)
  have nH:∀c∈(j4 aC b (jT t y.1)).1,c.all (FU F (j4 aC b (jT t y.1)).2):=λc hc=>(h4 c hc).1;have hfu:∀j,FU F (j4 aC b (jT t y.1)).2 j->FU F (nA (t::ts) y b).2 j:=λj hj=>by
   rcases hj with hj|⟨x,hx⟩
   .exact .inl hj
   exact .inr ⟨x,bU _ hx⟩
  refine⟨A2,h1.trans (k1.mono λj hj=>.inl hj),?_,?_,λp hp c hc=>?_⟩
  .show oy A2 (l8 t,(j4 aC b (jT t y.1)).1)::(nA ts y.2 _).1.map (oy A2)=_;rw[k2]
   congr 1
   unfold oy;rw[<-sU k1 nH,h2,hv]
  .exact tM.append (tM.agree k1 (λp hp=>.inr ⟨p.2,hp⟩) h3) (λp hp=>(yb p hp).2) (by omega) k3
  have hp:p=(l8 t,(j4 aC b (jT t y.1)).1)\/p∈(nA ts y.2 (b+(j4 aC b (jT t y.1)).2.length)).1:=bg.1 hp;rcases hp with rfl|hp
  .exact⟨Sc.mono hfu (nH c hc),Sc.nj k1 (nH c hc) (h4 c hc).2⟩
  refine⟨Sc.mono (λj hj=>?_) (k4 p hp c hc).1,(k4 p hp c hc).2⟩;rcases hj with hj|⟨x,hx⟩
  .exact hfu j hj
  exact .inr ⟨x,bV _ hx⟩
theorem Dz:∀(ts:aa Ty) (y:pq ts) (b:ah),(nA ts y b).1.length=ts.length
 |[],_,_=>rfl
 |t::ts,y,b=>by
  show(nA ts y.2 _).1.length+1=ts.length+1;rw[Dz ts y.2]
theorem Mq (rs:aa Ty)(y:pq rs)(b:ah):(ny rs y b).2=(nA rs y b).2:=by
 grind [ny]
theorem Mr {B:ah}{rs:aa Ty}{y:pq rs}{v:aO}(h:qN S w rs v y)(hF:∀j,b<=j->j<B->¬F j)(hB:∀p∈(ny rs y b).2,p.1<B):
  ∃A',lQ F A A'/\(ny rs y b).1.den A'=v/\tM o S w A' b (ny rs y b).2/\(ny rs y b).1.all (FU F (ny rs y b).2)/\(ny rs y b).1.lu A':=by
 have many:∀vs:aa aO,(∀x,rs≠[x])->v= .tuple vs.toArray->CC S w rs vs y->∃A',lQ F A A'/\(ny rs y b).1.den A'=v/\tM o S w A' b (ny rs y b).2/\(ny rs y b).1.all (FU F (ny rs y b).2)/\(ny rs y b).1.lu A':=by
  intro vs qD hv hr;obtain⟨A',h1,h2,h3,h4⟩:=AH rs y vs b A F hr hF (by rw[<-Mq];exact hB);have hl:∀q,(nA rs y b).1≠[q]:=by
   intro q hq;have hl:=Dz rs y b;rw[hq] at hl
   match rs,hl,qD with
   |[t],_,qD=>exact qD t rfl
  have e:ny rs y b=(.vt (nA rs y b).1,(nA rs y b).2):=by
   unfold ny;split
   .rename_i q;exact(hl _ (by rw[q])).elim
   .rename_i q;exact(hl _ (by rw[q])).elim
   rename_i q;rw[q]
  rw[e];exact⟨A',h1,by simp only[Sy.den,h2,hv],h3,λp hp c hc=>(h4 p hp c hc).1,λp hp c hc=>(h4 p hp c hc).2⟩
 match rs,y,h with
 |[],y,h=>have⟨vs,h1,h2⟩:=h;exact many vs (λ_ q=>by cases q) h1 h2
 |t::u::ts,y,h=>have⟨vs,h1,h2⟩:=h;exact many vs (λ_ q=>by cases q) h1 h2
 |[t],y,h=>
  have h:Rd S w v y.1:=h;obtain⟨A',h1,h2,h3,h4⟩:=AH [t] y [v] b A F ⟨h,tv⟩ hF (by rw[<-Mq];exact hB);obtain⟨cs,kO,hv⟩:=tN h;have hlen:∀c∈(nA [t] y b).1,c.1=aD->∃q,c.2=[q]:=by
   intro c hc Ho;have hc:c=(l8 t,(j4 aC b (jT t y.1)).1):=by simpa[nA] using hc
   subst hc;have Ho:l8 t=aD:=Ho;cases t<;>first|exact⟨_,rfl⟩|cases Ho
  have Rj:(∃cs re,nA [t] y b=([(aC,cs)],re))\/∃c re,nA [t] y b=([(aD,[c])],re):=by
   cases hp:l8 t with
   |true=>exact .inl ⟨_,_,by show([(l8 t,_)],_)=_;rw[hp]⟩
   |false=>
    obtain⟨q,hq⟩:=hlen (l8 t,(j4 aC b (jT t y.1)).1) (by simp[nA]) hp;have hq:(j4 aC b (jT t y.1)).1=[q]:=hq;exact .inr ⟨q,_,by show([(l8 t,(j4 aC b (jT t y.1)).1)],_)=_;rw[hp,hq]⟩
  rcases Rj with⟨Ii,re,hq⟩|⟨c,re,hq⟩
  .have e:ny [t] y b=(.agg Ii,re):=by unfold ny;rw[hq]
   rw[hq] at h2 h3 h4;rw[e];exact⟨A',h1,(eZ h2).1,h3,λc hc=>(h4 (aC,Ii) (aU.2 rfl) c hc).1,λc hc=>(h4 (aC,Ii) (aU.2 rfl) c hc).2⟩
  have e:ny [t] y b=(.one c,re):=by unfold ny;rw[hq]
  rw[hq] at h2 h3 h4;rw[e];exact⟨A',h1,(eZ h2).1,h3,(h4 (aD,[c]) (aU.2 rfl) c (aU.2 rfl)).1,(h4 (aD,[c]) (aU.2 rfl) c (aU.2 rfl)).2⟩
end
def WT:(lS:aa (ak×Ty))->aa Sy->(pW lS->Tr Out)->Tr Out
 |[],[],k=>k ()
 |p::lS,y::ys,k=>rZ p.2 y λx=>WT lS ys λxs=>k (x,xs)
 |_,_,_=>.fail
def JV:aa (ak×Ty)->aa Sy->aa Sc
 |(aC,_)::lS,y::ys=>jA y++JV lS ys
 |(aD,_)::lS,_::ys=>JV lS ys
 |_,_=>[]
def WU {lS:aa (ak×Ty)}{rs:aa Ty}(rF:pW lS->Prop)(fn:pW lS->pq rs)(b:ah)(kH:aa (ah×ah))(ys:aa Sy):Tr Out:=
 match kH with
 |[]=>WQ (JV lS ys) λre=>WT lS ys λx=>.ret ⟨[rF x],[],(ny rs (fn x) b).1,(ny rs (fn x) b).2++re⟩
 |_=>.fail
section
variable {P:aY}{o:jO}{n:ah}
def nI (o:jO)(n:ah)(F:ah->Prop)(s:ah->ai E2)(r:ah->ai R2)(a:Act)(out:Out)(v:aO)(w':aN):Prop:=
 ∃A' S',kW o n A' S' (FU F out.re) s (jB r out.re) a w'/\v=out.sy.den A'/\out.sy.all (FU F out.re)/\out.sy.lu A'
end
def yM (P:aY)(f:bI)(tr:ah->aa (ah×ah)->aa Sy->Tr Out):Prop:=
 ∀(o:jO) (n:ah) (A:jU) (S:jv) (F:ah->Prop) (s:ah->ai E2) (r:ah->ai R2) (a:Act) (w:aN) (b B:ah) (kH:aa (ah×ah)) (ys:aa Sy) (out:Out),
  kW o n A S F s r a w->(∀j,b<=j->j<B->¬F j)->(∀y∈ys,y.all F/\y.lu A)->(∀c∈kH,F c.1)->(tr b kH ys).run s r=az out->(∀p∈out.cs,p)->(∀h∈out.hs,∀A w,h.lhs A w=h.rhs A w)->(∀p∈out.re,p.1<B)->
  aI P f (ys.map (Sy.den A)++kH.map (λc=>cO (az ⟨A.b c.1,c.2,aA⟩))).toArray w (λe w'=> ∃v,e= .returned v/\nI o n F s r a out v w')
structure lM (P:aY) where
 f:bI
 tr:ah->aa (ah×ah)->aa Sy->Tr Out
 ok:yM P f tr
def WV (P:aY)(t:aV)(y:Sy)(cs:aa Sc):Hid:=
 ⟨λA w=>(Instr.box t (y.den A)).run P w,λA w=>.ok (.pointer (az ⟨w.heap.size,0,aA⟩)) (w.alloc (.cells (cs.map (Sc.den A)).toArray t))⟩
def Ms (P:aY)(t:aV)(cs:aa Sc):Hid:=
 ⟨λ_ w=>(Instr.alloc t aC (.tuple #[])).run P w,λA w=>.ok (.pointer (az ⟨w.heap.size,0,aA⟩)) (w.alloc (.cells (cs.map (Sc.den A)).toArray t))⟩
def Fg (P:aY)(t len:ah)(e:aV)(ys:aa (ah×Sy))(cs:aa Sc):Hid:=
 ⟨λA w=>(aqI t len (ys.map λy=>(y.1,y.2.den A)).toArray).run P w,λA w=>.ok (.slice (az ⟨w.heap.size,0,aA⟩) len len) (w.alloc (.cells (cs.map (Sc.den A)).toArray e))⟩
def Mt (P:aY)(t:aV)(ys:aa (ah×Sy))(cs:aa Sc):Hid:=
 ⟨λA w=>(ao8 t (ys.map λy=>(y.1,y.2.den A)).toArray).run P w,λA w=>.ok (.agg (cs.map (Sc.den A)).toArray) w⟩
def codeOf (P:aY):ah->aV->ai Ty
 |0,_=>aA
 |k+1,t=>match P.underlying t with
  |some (.int .i64)=>az .int
  |some .bool=>az .bool
  |some .string=>az .str
  |some (.slice e)=>(codeOf P k e).map .list
  |some (.map q e)=>match P.underlying q with
   |some (.int .i64)=>(codeOf P k e).map (.map .int)
   |some .string=>(codeOf P k e).map (.map .str)
   |_=>aA
  |some (.struct fs)=>aeK (fs.toList.map λf=>codeOf P k f.type)
  |_=>aA
where aeK:aa (ai Ty)->ai Ty
 |[az t]=>az t
 |some t::r=>(aeK r).map (.pair t)
 |[]=>az .unit
 |_=>aA
def qO (P:aY)(t e:aV)(sz:ah):ak:=
 match P.underlying t,P.info? e with
 |some (.slice e'),az i=>match i.zero with
  |some z=>bp e' e && bp i.size sz && bp z.cells.size sz && bP 0 sz && eL i.bytes 1000
  |none=>aD
 |_,_=>aD
theorem yN {P:aY}{t e:aV}{sz:ah}(h:qO P t e sz=aC):∃bytes,bytes<=1000/\G8 P t e sz bytes:=by
 unfold qO at h;split at h
 .rename_i e' i hu hi;split at h
  .rename_i z hz;simp only[bB] at h;obtain⟨⟨⟨⟨h1,h2⟩,h3⟩,h4⟩,h5⟩:=h;have h1:=j9 h1;have h2:=j9 h2;have h3:=j9 h3;subst h1;exact⟨i.bytes,by simpa using Nat.le_of_ble_eq_true h5,hu,⟨i,z,hi,hz,h2,rfl,h3⟩,by simpa using cw▸h4⟩
  cases h
 cases h
def Ej (t:Ty):aa Sy->(aa (El t)->Tr Out)->Tr Out
 |[],k=>k []
 |y::ys,k=>rZ t y λx=>Ej t ys λxs=>k (x::xs)
def Pm:ah->aa ah->ak
 |_,[]=>aC
 |k,i::l=>bp i k && Pm (k+1) l
def agf (P:aY)(b t len:ah)(is:aa ah)(ys:aa Sy):Tr Out:=
 match codeOf P 9 (P.elem t) with
 |some ty=>jK (Pm 0 is && (bp is.length len && bp ys.length len && qO P t (P.elem t) (Re ty)) && eL len 1000)
  (WQ (ys.flatMap jA) λre=>Ej ty ys λl=>.ret ⟨[],[Fg P t len (P.elem t) (is.zip ys) (ys.flatMap jA)],.one (.own b),[(b,az (.row (P.elem t) ty l))]++re⟩)
 |none=>.fail
def JW (fs:aq Field):aa (ah×Sy)->aa Sc->ai (aa Sc)
 |[],cs=>az cs
 |(i,y)::l,cs=>match fs[i]? with
  |some fd=>JW fs l (cs.take fd.offset++jA y++cs.drop (fd.offset+(jA y).length))
  |none=>aA
def WW (P:aY)(t:aV)(ys:aa (ah×Sy)):Tr Out:=
 match P.info? t,P.underlying t with
 |some i,az (.struct fs)=>match i.zero with
  |some z=>match JW fs ys (z.cells.toList.map vA) with
   |some cs=>.ret ⟨[],[Mt P t ys cs],.agg cs,[]⟩
   |none=>.fail
  |none=>.fail
 |_,_=>.fail
def Ij:Sc->ak
 | .v x=>x.oneCell'
 | .hd _ _ _=>aD
 |_=>aC
def storeT (P:aY)(t:aV):Sy->Sy->Tr Out
 | .one (.ptr j off),y=>.res j λx=>match x with
  | .box bt cs=>jK (eL (off+(jA y).length) cs.length && bp (P.cellsOf t) (jA y).length && (P.info? t).isSome && (jA y).all Ij && (match y with| .vt _=>aD|_=>aC))
   (.ret ⟨[],[],.one (.v aL),[(j,az (.box bt (cs.take off++jA y++cs.drop (off+(jA y).length))))]⟩)
  |_=>.fail
 |_,_=>.fail
def Fh (P:aY)(b:ah)(t:aV):Tr Out:=
 match P.underlying t,codeOf P 9 t with
 |some (.map kt _),az (.map k ty)=>jK (vF P kt k) (.ret ⟨[],[],.one (.mp b),[(b,az (.map k ty ([]:aa (ko k×El ty))))]⟩)
 |_,_=>.fail
def Hh (P:aY)(t:aV)(p q y:Sy):Tr Out:=
 match P.underlying t,p with
 |some (.map kt et),.one (.mp j)=>.res j λr=>match r with
  | .map k ty m=>match Dx k q with
   |some x=>jK (vF P kt k) (WQ (jA y) λre=>jK (re.all λp=>!Nat.beq p.1 j) (rZ ty y λv=>.ret ⟨[nv k x,(show aa (ko k×El ty) from m).length<=2147483647],[],.one (.v aL),(j,az (.map k ty (nG m x v)))::re⟩))
   |none=>.fail
  |_=>.fail
 |_,_=>.fail
def WX (P:aY)(t LN:aV)(p q:Sy):Tr Out:=
 match P.underlying t,p with
 |some (.map kt et),.one (.mp j)=>.res j λr=>match r with
  | .map k ty m=>match Dx k q with
   |some x=>jK (vF P kt k && bp kt LN) (.ret ⟨[nv k x],[],.vt [],[(j,az (.map k ty (rP m x)))]⟩)
   |none=>.fail
  |_=>.fail
 |_,_=>.fail
def WY (P:aY)(t:aV)(p:Sy):Tr Out:=
 match P.underlying t,p with
 |some (.map kt et),.one (.mp j)=>.res j λr=>match Ml r with
  |some ⟨k,t',m⟩=>jK (vF P kt k) (one (num ((show aa (ko k×El t') from m).length:af)))
  |none=>.fail
 |_,_=>.fail
def agh (P:aY)(t:ai aV):ak:=match t.bind P.underlying with
 |some (.map _ _)=>aC
 |_=>aD
section
variable {P:aY}{o:jO}{n:ah}{A A':jU}{S S' T:jv}{F G:ah->Prop}{s:ah->ai E2}{r:ah->ai R2}{a:Act}{w w':aN}{C:aa (ah×ak)}{b:ah}
theorem mh (r:ah->ai R2):∀x y:aa (ah×ai R2),jB r (x++y)=jB (jB r y) x
 |[],_=>rfl
 |p::x,y=>by show sG (jB r (x++y)) p.1 p.2=_;rw[mh r x y];rfl
theorem uZ {α:Type 1}(H:kW o n A S F s r a w)(hC:oK a C):∀ {l:aa bu} {k:aa Sy->Tr α} {out:α},(Mk C l k).run s r=az out->∃ys:aa Sy,l.map a.eval=ys.map (Sy.den A)/\(∀y∈ys,y.all F/\y.lu A)/\(k ys).run s r=az out
 |[],k,out,h=>⟨[],rfl,λ_ q=>(by cases q),h⟩
 |x::l,k,out,h=>by
  obtain⟨y,e1,e2,e3,h⟩:=jE H hC h;obtain⟨ys,f1,f2,h⟩:=uZ H hC h
  grind
theorem wF (H:kW o n A S F s r a w){re:aa (ah×ai R2)}(hz:Frz r re)(hS:∀k,S k->S' k)(H':kW o n A S' F s (jB r re) a w){l:aa Sc}(hl:aiR r re l):uX S' w A r l:=by
 intro c hc j hcj x hx;obtain⟨ha,hf⟩:=hl c hc j hcj x hx;cases Bw:An x with
 |some z=>
  have h1:=WS H' (abL hz (hf z Bw)) ⟨x,Bw⟩;cases x with
  |row e t l=>cases Bw;exact⟨(λt l q=>by cases q;exact h1.l _ _ rfl),(λ_ _ _ q=>by cases q),(λ_ _ q=>by cases q),(λ_ _ q=>by cases q)⟩
  |map k t m=>cases Bw;exact⟨(λ_ _ q=>by cases q),(λk t m q=>by cases q;exact h1.m _ _ _ rfl),(λ_ _ q=>by cases q),(λ_ _ q=>by cases q)⟩
  |ext y=>
   cases y with
   |nest q hh e t ie l=>
    cases hh with
    |none=>cases Bw;exact⟨(λt l q=>by cases q;exact h1.l _ _ rfl),(λ_ _ _ q=>by cases q),(λ_ _ q=>by cases q),(λ_ _ q=>by cases q)⟩
    |some _=>cases Bw
   |mj q k hh t ie m=>
    cases hh with
    |none=>cases Bw;exact⟨(λ_ _ q=>by cases q),(λk t m q=>by cases q;exact h1.m _ _ _ rfl),(λ_ _ q=>by cases q),(λ_ _ q=>by cases q)⟩
    |some _=>cases Bw
   |_=>cases Bw
  |_=>cases Bw
 |none=>
  have h1:=yK H hx ha;have low:(∀k,(x.den A j).has k->S' k)->JU S' w A j x:=λq=>h1.up λk hk=>hk.elim (hS k) (q k);cases x with
  |ro t' l'=>exact low λk q=>by cases q
  |yq k' t' l'=>exact low λk q=>by cases q
  |box _ _=>exact⟨(λ_ _ q=>by cases q),(λ_ _ _ q=>by cases q),(λ_ _ q=>by cases q),(λ_ _ q=>by cases q)⟩
  |ar _ _=>cases ha
  |Dv _ _ _=>cases ha
  |row _ _ _=>cases Bw
  |map _ _ _=>cases Bw
  |iter _ _ _ _ _ _=>exact⟨(λ_ _ q=>by cases q),(λ_ _ _ q=>by cases q),(λ_ _ q=>by cases q),(λ_ _ q=>by cases q)⟩
  |ext y=>
   cases y with
   |nest q hh e t ie l=>
    cases hh with
    |none=>cases Bw
    |some _=>exact⟨(λ_ _ q=>by cases q),(λ_ _ _ q=>by cases q),(λ_ _ q=>by cases q),(λ_ _ q=>by cases q)⟩
   |mj q k hh t ie m=>
    cases hh with
    |none=>cases Bw
    |some _=>exact⟨(λ_ _ q=>by cases q),(λ_ _ _ q=>by cases q),(λ_ _ q=>by cases q),(λ_ _ q=>by cases q)⟩
   |Br t x=>exact low λk q=>by cases q
   |JM t x=>exact low λk q=>q.elim
   |par _ _=>cases ha
   |Eh _ _=>cases ha
   |JN _ _ _ _ _=>exact⟨(λ_ _ q=>by cases q),(λ_ _ _ q=>by cases q),(λ_ _ q=>by cases q),(λ_ _ q=>by cases q)⟩
   |Ia _=>exact⟨(λ_ _ q=>by cases q),(λ_ _ _ q=>by cases q),(λ_ _ q=>by cases q),(λ_ _ q=>by cases q)⟩
   |uV _ _=>exact⟨(λ_ _ q=>by cases q),(λ_ _ _ q=>by cases q),(λ_ _ q=>by cases q),(λ_ _ q=>by cases q)⟩
   |nb _ _ _ _ _ _ _=>exact⟨(λ_ _ q=>by cases q),(λ_ _ _ q=>by cases q),(λ_ _ q=>by cases q),(λ_ _ q=>by cases q)⟩
theorem CD (hr:Reads T w A r):∀ {lS:aa (ak×Ty)} {ys:aa Sy} {k:pW lS->Tr Out} {out:Out},uX S' w A r (JV lS ys)->(WT lS ys k).run s r=az out->∃x:pW lS,Bx S' T w lS (ys.map (Sy.den A)) x/\(k x).run s r=az out
 |[],[],k,out,_,h=>⟨(),tv,h⟩
 |[],_::_,_,_,_,h=>by cases h
 |_::_,[],_,_,_,h=>by cases h
 |(aC,t)::lS,y::ys,k,out,hk,h=>by
  obtain⟨x,h1,h⟩:=qp (T:=S') (λc hc=>hk c (bU _ hc)) h;obtain⟨xs,h2,h⟩:=CD hr (λc hc=>hk c (bV _ hc)) h;exact⟨(x,xs),⟨h1,h2⟩,h⟩
 |(aD,t)::lS,y::ys,k,out,hk,h=>by
  obtain⟨x,h1,h⟩:=qp (T:=T) (λc _ j _=>hr j) h;obtain⟨xs,h2,h⟩:=CD (lS:=lS) (ys:=ys) hr hk h;exact⟨(x,xs),⟨h1,h2⟩,h⟩
theorem kD {op:bf}{v:aO}{K:Act->aN->Prop}{Q:Exit->Act->aN->Prop}(e:(aG a.eval op).run P w= .ok (.value v) w')(k:K (a.put op.dst v) w'):op.wp P a w K Q:=by
 unfold Oper.wp;rw[e];exact k
theorem kW.new (H:kW o n A S F s r a w)(hF:¬F b){p:ai ck}{m c:ah}{x:Obj}{y:R2}(p9:(y.den (A.set b p m c w.heap.size) b).ok S (w.alloc x))(hb:∀k,(y.den (A.set b p m c w.heap.size) b).has k->k=w.heap.size)(nH:y.all (FU F [(b,az y)]))(qD:uW y=aD)(hg:y.lu (A.set b p m c w.heap.size)):
  kW o n (A.set b p m c w.heap.size) S (FU F [(b,az y)]) s (jB r [(b,az y)]) a (w.alloc x):=by
 have H1:=H.agree (lQ.set (A:=A) hF p m c w.heap.size) (G:=FU F [(b,az y)]) λj h=>.inl h;refine kW.Rh H1 b (az y) (λz hz=>?_) (λz e=>by cases e;exact oh qD) (H1.jM.Wv b x _ p9 hb);cases hz;exact⟨.inr ⟨_,aU.2 rfl⟩,nH,hg⟩
theorem T9 {f:bI}{lS:aa (ak×Ty)}{rs:aa Ty}{rF:pW lS->Prop}{fn:pW lS->pq rs}(ok:kr P f lS rs rF fn):yM P f (WU rF fn):=by
 intro o n A S F s r a w b B kH ys out H hF Pn _ h kO _ hB0;unfold WU at h;cases kH with
 |cons _ _=>cases h
 |nil=>
  obtain⟨re,hz,hl,h⟩:=vG _ _ h;obtain⟨S',hS,H'⟩:=H.freeze hz;obtain⟨xs,hxs,h⟩:=CD (T:=(· <w.heap.size)) (S':=S') (CB H) (wF H hz hS H' hl) h;have e:=jH h;subst e;have JX:rF xs:=kO _ (aU.2 rfl);have Ua:=ok H'.jM.at (ys.map (Sy.den A)) xs hxs JX;rw[cC,bW];refine Ua.mono λe w' ⟨v,he,hR,hB⟩=>⟨v,he,?_⟩;obtain⟨A',k1,k2,k3,k4,k5⟩:=Mr (o:=o) (S:=yA H'.jM.at w') (w:=w') (b:=b) (A:=A) (F:=F) hR hF λp hp=>hB0 p (bU _ hp);have H2:kW o n A (yA H'.jM.at w') F s (jB r re) a w':=⟨H'.size,H'.lK,H'.env,H'.rH,H'.lq,H'.jM.call hB,H'.args,H'.wj⟩;have H3:=H2.ro k1 k3;rw[<-mh] at H3;refine⟨A',_,⟨H3.size,H3.lK,H3.env,λt e he hc=>⟨Sy.mono ?_ (H3.rH t e he hc).1,(H3.rH t e he hc).2⟩,λj x hj=>⟨?_,R2.mono ?_ (H3.lq j x hj).2.1,(H3.lq j x hj).2.2⟩,H3.jM,H3.args,⟨λj hj=>(H3.wj.1 j hj).imp id λ⟨z,hz⟩=>⟨z,bU _ hz⟩,H3.wj.2⟩⟩,k2.symm,Sy.mono ?_ k4,k5⟩
  all_goals first
   |(intro j hj;rcases hj with hj|⟨z,hz⟩;exact .inl hj;exact .inr ⟨z,bU _ hz⟩)
   |(rcases(H3.lq j x hj).1 with hj|⟨z,hz⟩;exact .inl hj;exact .inr ⟨z,bU _ hz⟩)
theorem Po {B:ah}{T:aa (lM P)}(H:kW o n A S F s r a w)(hF:∀j,b<=j->j<B->¬F j){op:bf}{c:Call}{x:bu}{f:bI}{kH:aa (ah×ah)}{con:lM P}{out:Out}(ho:op.op= .call c)(qo:c.callee= .value x)(hx:a.eval x=(Sc.sR f kH).den A)(hf:con.f=f)
  (uO:((P.funcs[f]?).map (λfn=>((fn.name== "runtime.NumGoroutine")||fn.body.isNone)))=az aD) {ys:aa Sy} (mg:c.args.toList.map a.eval=ys.map (Sy.den A)) (Pn:∀y∈ys,y.all F/\y.lu A) (yc:∀c∈kH,F c.1) (h:(con.tr b kH ys).run s r=az out) (kO:∀p∈out.cs,p) (qG:∀h∈out.hs,∀A w,h.lhs A w=h.rhs A w) (hB0:∀p∈out.re,p.1<B)
  {K:Act->aN->Prop} {Q:Exit->Act->aN->Prop} (k:∀v w',nI o n F s r a out v w'->K (a.put op.dst v) w'):op.wp P a w K Q:=by
 have Ua:=con.ok o n A S F s r a w b B kH ys out H hF Pn yc h kO qG hB0;obtain⟨fn,By,hb⟩:=bF.1 uO;simp only[apg] at hb;have O3:fn.name≠ "runtime.NumGoroutine" :=by simpa using hb.1
 have rN:fn.body≠aA:=by intro e;rw[e] at hb;cases hb.2
 have hx:a.eval x= .func (.func f) #[] (kH.map λc=>.pointer (az ⟨A.b c.1,c.2,aA⟩)).toArray:=hx;have Fi:c.args.map a.eval=(ys.map (Sy.den A)).toArray:=by rw[<-mg];apply cJ;rw[dZ]
 have e:(aG a.eval op).run P w= .ok (.enter f (ys.map (Sy.den A)++kH.map (λc=>cO (az ⟨A.b c.1,c.2,aA⟩))).toArray) w:=by
  simp[aG,ho,resolve,qo,Fi,hx,aoK,invoke,callFunc,program,cM,By,O3,rN]
 unfold Oper.wp;rw[e];rw[hf] at Ua;refine Ua.mono λe w' ⟨v,he,hR⟩=>?_;subst he;exact k v w' hR
end
theorem pN {P:aY}{kt:aV}{k:Kc}(h:vF P kt k=aC):P.underlying kt=az (qV k):=by
 unfold vF at h;split at h
 .split at h
  .assumption
  cases h
 split at h
 .assumption
 cases h
theorem wG {A:jU}{k:Kc}{q:Sy}{x:ko k}(h:Dx k q=az x):q.den A=pn k x:=by
 unfold Dx at h;split at h
 .cases h;rfl
 .cases h;rfl
 cases h
theorem Fj (v:aO):numOf (vA v)=aA:=by unfold vA;split<;>rfl
theorem Fk {P:aY}{t:aV}{z:Sy}(h:E5 P t=az z):∀c∈jA z,numOf c=aA:=by
 unfold E5 at h;split at h
 .rename_i i _;obtain⟨v,_,rfl⟩:=bF.1 h;intro c hc;unfold Hi at hc;split at hc
  .obtain⟨u,_,rfl⟩:=bz.1 hc;exact Fj u
  have:=aU.1 hc;subst this;exact Fj _
 cases h
section
variable {P:aY}{o:jO}{n:ah}{A A':jU}{S S':jv}{F G:ah->Prop}{s:ah->ai E2}{r:ah->ai R2}{a:Act}{w w':aN}{C:aa (ah×ak)}{b:ah}
theorem Ub {B:ah}(H:kW o n A S F s r a w)(hF:∀j,b<=j->j<B->¬F j){op:bf}{t:aV}{m x:bu}{ok:ak}{p q:Sy}{out:Out}(ho:op.op= .lookup t m x ok)(hm:a.eval m=p.den A)(hx:a.eval x=q.den A)
  (h:(HZ P b t ok p q).run s r=az out) (kO:∀p∈out.cs,p) (qG:∀h∈out.hs,∀A w,h.lhs A w=h.rhs A w) (hB:∀p∈out.re,p.1<B)
  {K:Act->aN->Prop} {Q:Exit->Act->aN->Prop} (k:∀v w',nI o n F s r a out v w'->K (a.put op.dst v) w'):op.wp P a w K Q:=by
 unfold HZ at h;split at h
 .rename_i kt et hu;split at h
  .rename_i j;obtain⟨R,hR,h⟩:=jI h;split at h
   .rename_i qf kc tn ie mm;split at h
    .rename_i kx WZ;obtain⟨hk,h⟩:=jt h;have hk:=pN hk;have hq:q.den A=pn kc kx:=wG WZ;have hm:a.eval m= .map (A.m j):=hm;obtain⟨Co,Ie,_⟩:=H.lq j _ hR;have Ie:F qf:=Ie;obtain⟨oN,W4,N⟩:∃oN,A.m j=az oN/\xE S w oN (A.f qf) aA ie mm:=H.jM.ok j _ (show jL A r j=az _ by simp[jL,hR];rfl);have⟨zs,n1,n2,n3⟩:=N.map;have e1:jo (zs.map λq=>(q.1,q.2.1)) kx=(jo zs kx).map (·.1):=oU (λy:aO×aa (El tn)=>y.1) zs kx;have e2:jo mm kx=(jo zs kx).map (·.2):=by rw[n2];exact oU (λy:aO×aa (El tn)=>y.2) zs kx
     have e3:(jo (zs.map λq=>(q.1,q.2.1)) kx).isSome=(jo mm kx).isSome:=by rw[e1,e2];cases jo zs kx<;>rfl
     have e4:(jo (zs.map λq=>(q.1,q.2.1)) kx).getD (.slice aA 0 0)=A.f qf (mD kc kx):=by
      rw[e1];cases hl:jo zs kx with
      |none=>rw[N.non kx (by rw[e2,hl];rfl) (by simp)];rfl
      |some y=>exact(n3 _ (qE hl) (by simp)).1
     have main:(r5 P et (.one (.v (.slice aA 0 0)))).lhs A w=(r5 P et (.one (.v (.slice aA 0 0)))).rhs A w->nv kc kx->(aG a.eval op).run P w= .ok (.value (if ok then .tuple #[A.f qf (mD kc kx),.bool (jo mm kx).isSome] else A.f qf (mD kc kx))) w:=by
      intro hz hw;have hz:(zeroValue et).run P w= .ok (.slice aA 0 0) w:=hz;have kT:(eR t (.map (A.m j)) (pn kc kx) ok).run P w= .ok (if ok then .tuple #[A.f qf (mD kc kx),.bool (jo mm kx).isSome] else A.f qf (mD kc kx)) w:=by
       rw[W4];cases ok
       .rw[n1.look hu hk hz hw,e4];rfl
       rw[n1.HZ hu hk hz hw,e3,e4];rfl
      simp only[aG,ho,bw,hm,hx,hq,kT];rfl
     cases ok with
     |true=>
      have e:=jH h;subst e;refine kD (main (qG _ (aU.2 rfl) A w) (kO _ (aU.2 rfl))) (k _ _ ⟨A,S,H.agree (lQ.refl _ _) λ_ q=>.inl q,rfl,λp hp c hc=>?_,λp hp c hc=>?_⟩)
      .rcases bg.1 hp with rfl|hp
       .have:=aU.1 hc;subst this;exact⟨.inl Co,.inl Ie⟩
       have:=aU.1 hp;subst this;have:=aU.1 hc;subst this;trivial
      rcases bg.1 hp with rfl|hp
      .have:=aU.1 hc;subst this;trivial
      have:=aU.1 hp;subst this;have:=aU.1 hc;subst this;trivial
     |false=>
      have e:=jH h;subst e;exact kD (main (qG _ (aU.2 rfl) A w) (kO _ (aU.2 rfl))) (k _ _ ⟨A,S,H.agree (lQ.refl _ _) λ_ q=>.inl q,rfl,⟨.inl Co,.inl Ie⟩,tv⟩)
    cases h
   split at h
   .rename_i kc ty mm Hj;split at h
    .rename_i kx z WZ hz;obtain⟨hk,h⟩:=jt h;have hk:=pN hk;have hq:q.den A=pn kc kx:=wG WZ;have hm:a.eval m= .map (A.m j):=hm;have hzc:=Fk hz;obtain⟨x0,hx0,h⟩:∃x0:El ty,(match pV R with|true=>Rd S w (z.den A) x0|false=>Rd o.old o.w (z.den A) x0)/\_:=by
      cases pV R with
      |true=>exact qp (T:=S) (w:=w) (λc hc j hj=>by rw[hzc c hc] at hj;cases hj) h
      |false=>exact qp (T:=o.old) (w:=o.w) (λc hc j hj=>by rw[hzc c hc] at hj;cases hj) h
     have main:(r5 P et z).lhs A w=(r5 P et z).rhs A w->nv kc kx->∃v,(eR t (.map (A.m j)) (pn kc kx) ok).run P w= .ok (if ok then .tuple #[v,.bool (jo mm kx).isSome] else v) w/\
       (match pV R with|true=>Rd S w v ((jo mm kx).getD x0)|false=>Rd o.old o.w v ((jo mm kx).getD x0)):=by
      intro hz hw;have hz:(zeroValue et).run P w= .ok (z.den A) w:=hz;rcases Mo H hR Hj with⟨h1,h2⟩|⟨oN,zs,h1,h2,h3,h4⟩
      .subst h2;refine⟨z.den A,?_,?_⟩
       .rw[h1,Maps.look_nil ok (xz hk) hu hz (xA hk hw)];rfl
       exact hx0
      have e1:jo (zs.map λq=>(q.1,q.2.1)) kx=(jo zs kx).map (·.1):=oU (λy:aO×El ty=>y.1) zs kx;have e2:jo mm kx=(jo zs kx).map (·.2):=by rw[h3];exact oU (λy:aO×El ty=>y.2) zs kx
      have e3:(jo (zs.map λq=>(q.1,q.2.1)) kx).isSome=(jo mm kx).isSome:=by rw[e1,e2];cases jo zs kx<;>rfl
      refine⟨(jo (zs.map λq=>(q.1,q.2.1)) kx).getD (z.den A),?_,?_⟩
      .rw[h1];cases ok
       .exact h2.look hu hk hz hw
       rw[h2.HZ hu hk hz hw,e3];rfl
      rw[e1,e2];cases hl:jo zs kx with
      |none=>exact hx0
      |some y=>exact h4 _ (qE hl)
     have fin:∀(sy:Sy),(∀v (A':jU),v=(if l8 ty then .agg ((j4 (pV R) b (jT ty ((jo mm kx).getD x0))).1.map (Sc.den A')).toArray else((j4 (pV R) b (jT ty ((jo mm kx).getD x0))).1.map (Sc.den A')).headD aL)->(if ok then anD #[v,.bool (jo mm kx).isSome] else v)=sy.den A')->
       (∀(G:ah->Prop) (A':jU),(∀c∈(j4 (pV R) b (jT ty ((jo mm kx).getD x0))).1,c.all G/\c.lu A')->sy.all G/\sy.lu A')->
       out=⟨[nv kc kx],[r5 P et z],sy,(j4 (pV R) b (jT ty ((jo mm kx).getD x0))).2⟩->op.wp P a w K Q:=by
      intro sy Hp nH e;subst e;obtain⟨v,kT,pg⟩:=main (qG _ (aU.2 rfl) A w) (kO _ (aU.2 rfl));obtain⟨vs,O1,hv⟩:∃vs,Ei o S w (pV R) vs (jT ty ((jo mm kx).getD x0))/\v=(if l8 ty then .agg vs.toArray else vs.headD aL):=by
       cases VM:pV R with
       |true=>rw[VM] at pg;exact tN pg
       |false=>rw[VM] at pg;exact tN pg
      obtain⟨A',k1,k2,k3,k4⟩:=oX _ vs b A F O1 hF hB;have e2:(aG a.eval op).run P w= .ok (.value (if ok then .tuple #[v,.bool (jo mm kx).isSome] else v)) w:=by
       simp only[aG,ho,bw,hm,hx,hq,kT];rfl
      refine kD e2 (k _ _ ⟨A',S,H.ro k1 k3,Hp v A' ?_,(nH _ _ k4).1,(nH _ _ k4).2⟩);rw[k2];exact hv
     cases ok with
     |true=>
      have e:=jH h;refine fin (.vt [(l8 ty,(j4 (pV R) b (jT ty ((jo mm kx).getD x0))).1),(aD,[.b (.raw (jo mm kx).isSome)])]) (λv A' hv=>?_) (λG A' hc=>⟨λp hp c vR=>?_,λp hp c vR=>?_⟩) e
      .show anD #[v,_]= .tuple #[oy A' (l8 ty,_),_];rw[hv];rfl
      .rcases bg.1 hp with rfl|hp
       .exact(hc c vR).1
       have:=aU.1 hp;subst this;have:=aU.1 vR;subst this;trivial
      rcases bg.1 hp with rfl|hp
      .exact(hc c vR).2
      have:=aU.1 hp;subst this;have:=aU.1 vR;subst this;trivial
     |false=>
      dsimp only at h;split at h
      .rename_i cs hp;have e:=jH h;refine fin (.agg (j4 (pV R) b (jT ty ((jo mm kx).getD x0))).1) (λv A' hv=>?_) (λG A' hc=>⟨λc vR=>(hc c vR).1,λc vR=>(hc c vR).2⟩) e;show v=_;rw[hv,aQ hp];rfl
      .rename_i c hp Fl;have e:=jH h;refine fin (.one c) (λv A' hv=>?_) (λG A' hc=>hc c (by rw[Fl];exact aU.2 rfl)) e;show v=_;rw[hv,aP (by rw[hp];decide),Fl];rfl
      cases h
    cases h
   cases h
  cases h
 cases h
theorem Uc (H:kW o n A S F s r a w){op:bf}{c:Call}{t:aV}{x:bu}{p:Sy}{out:Out}(ho:op.op= .call c)(qo:c.callee= .builtin .len)(mg:c.args.toList=[x])(DY:c.argTypes.toList=[t])(hx:a.eval x=p.den A)
  (h:(WY P t p).run s r=az out) {K:Act->aN->Prop} {Q:Exit->Act->aN->Prop} (k:∀v w',nI o n F s r a out v w'->K (a.put op.dst v) w'):op.wp P a w K Q:=by
 have ha:c.args= #[x]:=by apply cJ;exact mg
 have hb:c.argTypes= #[t]:=by apply cJ;exact DY
 unfold WY at h;split at h
 .rename_i kt et j hu;obtain⟨R,hR,h⟩:=jI h;split at h
  .rename_i kc ty mm Hj;obtain⟨hk,h⟩:=jt h;have hk:=pN hk;have e:=kg h;subst e;have hx:a.eval x= .map (A.m j):=hx;have kT:(aol #[t] op.type #[.map (A.m j)]).run P w= .ok (.int .i64 ((show aa (ko kc×El ty) from mm).length:af)) w:=by
    rcases Mo H hR Hj with⟨h1,h2⟩|⟨oN,zs,h1,h2,h3,h4⟩
    .subst h2;rw[h1];exact Maps.len_nil hu op.type
    have:=h2.len hu hk op.type;rw[h1,this,h3];simp only[bH]
   have e2:(aG a.eval op).run P w= .ok (.value (.int .i64 ((show aa (ko kc×El ty) from mm).length:af))) w:=by
    unfold execOp;simp only[ho,resolve,qo,ha,hb,invoke,builtin,bw,bZ,cG,aoq,bO,cC,hx,kT]
   exact kD e2 (k _ _ ⟨A,S,H.agree (lQ.refl _ _) λ_ q=>.inl q,rfl,tv,tv⟩)
  cases h
 cases h
theorem kW.agi (H:kW o n A S F s r a w)(hF:¬F b){kc:Kc}{ty:Ty}{kt:aV}(hk:P.underlying kt=az (qV kc)):
  kW o n (A.jB b (az w.heap.size)) S (FU F [(b,az (.map kc ty ([]:aa (ko kc×El ty))))]) s (jB r [(b,az (.map kc ty ([]:aa (ko kc×El ty))))]) a (w.alloc (.map #[] 0)):=by
 have H1:=H.agree (lQ.jB (A:=A) hF (az w.heap.size)) (G:=FU F [(b,az (.map kc ty ([]:aa (ko kc×El ty))))]) λj h=>.inl h;refine kW.Rh H1 b _ (λz hz=>?_) (λz e=>by cases e;trivial) (H1.jM.Wv b _ _ ⟨w.heap.size,by rw[jU.E4],[],nc.new w hk,rfl,λ_ q=>by cases q⟩ λq hq=>?_)
 .cases hz;exact⟨.inr ⟨_,aU.2 rfl⟩,tv,tv⟩
 have hq:(A.jB b (az w.heap.size)).m b=az q:=hq;rw[jU.E4] at hq;cases hq;rfl
theorem Pp {B:ah}(H:kW o n A S F s r a w)(hF:∀j,b<=j->j<B->¬F j){op:bf}{t:aV}{x:ai bu}{out:Out}(ho:op.op= .makeMap t x)(hx:∀y,x=az y->∃k m,a.eval y= .int k m)
  (h:(Fh P b t).run s r=az out) (hB:∀p∈out.re,p.1<B) {K:Act->aN->Prop} {Q:Exit->Act->aN->Prop} (k:∀v w',nI o n F s r a out v w'->K (a.put op.dst v) w'):op.wp P a w K Q:=by
 unfold Fh at h;split at h
 .rename_i kt et kc ty hu hc;obtain⟨hk,h⟩:=jt h;have hk:=pN hk;have e:=jH h;subst e;have e2:(aG a.eval op).run P w= .ok (.value (.map (az w.heap.size))) (w.alloc (.map #[] 0)):=by
   cases x with
   |none=>
    simp only[aG,ho,bw,dN,run_makeMap];rfl
   |some y=>
    obtain⟨ik,m,hy⟩:=hx y rfl;simp[aG,ho,bw,cN,hy,Instr.makeMap,aH hu,asInt,asIntOf,newObj,cy,cM,bZ]
  have H2:=H.agi (hF b (aW _) (hB _ (aU.2 rfl))) (ty:=ty) hk;refine kD e2 (k _ _ ⟨_,S,H2,?_,.inr ⟨_,aU.2 rfl⟩,tv⟩);show _=Value.map ((A.jB b (az w.heap.size)).m b);rw[jU.E4]
 cases h
theorem kW.aeL (H:kW o n A S F s r a w){j:ah}{kc:Kc}{ty:Ty}{m m':jw kc (El ty)}(hj:r j=az (.map kc ty m)){oN:ah}(hb:A.m j=az oN)(hG:w.grownBy w' (az oN))(hm:rO S w' oN m'):
  kW o n A S F s (sG r j (az (.map kc ty m'))) a w':=by
 have qn:jL A r j=az (Am (A.m j) m):=by show(r j).map _=_;rw[hj];rfl
 have hg:rE w w' (Am (A.m j) m).has:=⟨hG.os,hG.tape,hG.output,hG.size,λk hk hn=>hG.block k hk λe=>hn (by show A.m j=az k;rw[hb,<-e])⟩;have hf1:=H.jM.mut j qn hg;have lU:=H.jM.own j _ oN qn hb;have hf2:=hf1.put j (Am (A.m j) m') ⟨oN,hb,hm⟩ (λb' rN=>by
  have rN:A.m j=az b':=rN;rw[hb] at rN;cases rN;refine⟨lU.1,bR lU.2.1 hG.size,lU.2.2,λi ri hi QZ e=>?_⟩;unfold oH at QZ;rw[aP hi] at QZ;exact hi (H.jM.apart i j ri _ oN QZ qn e hb))
 have Mu:oH (oH (jL A r) j aA) j (az (Am (A.m j) m'))=oH (jL A r) j (az (Am (A.m j) m')):=by
  funext i;unfold oH;split<;>rfl
 rw[Mu] at hf2;exact kW.Rh H j (az (.map kc ty m')) (λz Bw=>by cases Bw;exact⟨(H.lq j _ hj).1,tv,tv⟩) (λz e=>by cases e;trivial) hf2
theorem Ud (H:kW o n A S F s r a w){op:bf}{t:aV}{m x y:bu}{p q z:Sy}{out:Out}(ho:op.op= .mapUpdate t m x y\/op.op= .insert t m x y)(pM:av)(hm:a.eval m=p.den A)(hx:a.eval x=q.den A)(hy:a.eval y=z.den A)
  (h:(Hh P t p q z).run s r=az out) (kO:∀p∈out.cs,p) {K:Act->aN->Prop} {Q:Exit->Act->aN->Prop} (k:∀v w',nI o n F s r a out v w'->K (a.put op.dst v) w'):op.wp P a w K Q:=by
 unfold Hh at h;split at h
 .rename_i kt et j hu;obtain⟨R,hR,h⟩:=jI h;split at h
  .rename_i kc ty mm;split at h
   .rename_i kx WZ;obtain⟨hk,h⟩:=jt h;have hk:=pN hk;obtain⟨re,hz,hl,h⟩:=vG _ _ h;obtain⟨S',hS,H'⟩:=H.freeze hz;obtain⟨DZ,h⟩:=jt h;obtain⟨d,hd,h⟩:=qp (wF H hz hS H' hl) h;have e:=jH h;subst e;have hq:q.den A=pn kc kx:=wG WZ;have hm:a.eval m= .map (A.m j):=hm;have hw:nv kc kx:=kO _ aZ;have hlen:(show aa (ko kc×El ty) from mm).length<=2147483647:=kO _ (bl _ aZ);have hR':jB r re j=az (.map kc ty mm):=by
     have key:∀l:aa (ah×ai R2),(l.all λp=>!Nat.beq p.1 j)=aC->jB r l j=r j:=by
      intro l
      induction l with
      |nil=>intro _;rfl
      |cons p l ih=>
       intro hl;rw[List.all_cons,bB] at hl;have qD:p.1≠j:=λe=>by have:=hl.1;rw[e,dR] at this;cases this
       show sG (jB r l) p.1 p.2 j=_;rw[m9 qD];exact ih hl.2
     rw[key re DZ];exact hR
    have qn:jL A (jB r re) j=az (Am (A.m j) mm):=by show(jB r re j).map _=_;rw[hR'];rfl
    obtain⟨oN,hb,zs,h2,h3,h4⟩:=H'.jM.ok j _ qn;obtain⟨w',kT,LM,hG,_⟩:=h2.put hu hk (by rw[bH];rw[h3] at hlen;simpa using hlen) hw (z.den A);have Fm:(aG a.eval op).run P w= .ok .skip w':=by
     rcases ho with ho|ho<;>(simp only[aG,ho,bw,hm,hx,hy,hq,hb,kT];rfl)
    unfold Oper.wp;rw[Fm];refine k aL _ ?_;have x8:nC S' w w':=λq hq=>hG.block q (H'.jM.pT q hq) λe=>by cases e;exact(H'.jM.own j _ oN qn hb).2.2 hq
    have H2:=H'.aeL hR' hb hG (m':=nG mm kx d) ⟨nG zs kx (z.den A,d),by rw[tK (λy:aO×El ty=>y.1)];exact LM,by rw[tK (λy:aO×El ty=>y.2),h3],λy hy=>by
     rcases yC.1 hy with rfl|⟨hy,_⟩
     .exact hd.keep x8
     exact(h4 y hy).keep x8⟩
    exact⟨A,S',H2.agree (lQ.refl _ _) λ_ q=>.inl q,rfl,tv,tv⟩
   cases h
  cases h
 cases h
theorem Pq (H:kW o n A S F s r a w){op:bf}{c:Call}{t LN:aV}{x y:bu}{p q:Sy}{out:Out}(ho:op.op= .call c)(qo:c.callee= .builtin .delete)(mg:c.args.toList=[x,y])(DY:c.argTypes.toList=[t,LN])
  (hx:a.eval x=p.den A) (hy:a.eval y=q.den A) (h:(WX P t LN p q).run s r=az out) (kO:∀p∈out.cs,p) {K:Act->aN->Prop} {Q:Exit->Act->aN->Prop} (k:∀v w',nI o n F s r a out v w'->K (a.put op.dst v) w'):op.wp P a w K Q:=by
 have ha:c.args= #[x,y]:=by apply cJ;exact mg
 have hb0:c.argTypes= #[t,LN]:=by apply cJ;exact DY
 unfold WX at h;split at h
 .rename_i kt et j hu;obtain⟨R,hR,h⟩:=jI h;split at h
  .rename_i kc ty mm;split at h
   .rename_i kx WZ;obtain⟨hg,h2⟩:=jt h;clear h;rw[bB] at hg;have hk:=pN hg.1;have hkt:=j9 hg.2;subst hkt;have e:=jH h2;subst e;have hq:q.den A=pn kc kx:=wG WZ;have hx:a.eval x= .map (A.m j):=hx;have hw:nv kc kx:=kO _ aZ;have qn:jL A r j=az (Am (A.m j) mm):=by show(r j).map _=_;rw[hR];rfl
    obtain⟨oN,hb,zs,h6,h3,h4⟩:=H.jM.ok j _ qn;obtain⟨w',kT,LM,hG⟩:=h6.drop hu hk hw op.type;have e2:(aG a.eval op).run P w= .ok (.value (.tuple #[])) w':=by
     unfold execOp;simp only[ho,resolve,qo,ha,hb0,invoke,builtin,bw,bZ,cG,aoq,bO,cC,hx,hy,hq,hb,kT]
    have x8:nC S w w':=λq hq=>hG.block q (H.jM.pT q hq) λe=>by cases e;exact(H.jM.own j _ oN qn hb).2.2 hq
    have H2:=H.aeL hR hb hG (m':=rP mm kx) ⟨rP zs kx,by rw[EX (λy:aO×El ty=>y.1)];exact LM,by rw[EX (λy:aO×El ty=>y.2),h3],λy hy=>(h4 y (bX.1 hy).1).keep x8⟩;exact kD e2 (k _ _ ⟨A,S,H2.agree (lQ.refl _ _) λ_ q=>.inl q,rfl,(λ_ q=>by cases q),(λ_ q=>by cases q)⟩)
   cases h
  cases h
 cases h
end
section
variable {P:aY}{w w':aN}{t tx ty e:aV}{size bytes:ah}{v:aO}{n:ah}{xs:aa aO}
theorem vT {α:Type}(cur us:aa α)(a c n:ah)(h:a+n<=cur.length)(hc:c+us.length<=n):
  ((cur.take (a+c)++us++cur.drop (a+c+us.length)).drop a).take n=((cur.drop a).take n).take c++us++((cur.drop a).take n).drop (c+us.length):=by
 apply aow;intro j;simp only[cE,cI,List.getElem?_append,bA,bJ,b9]
 grind
theorem Rk (E:G8 P t e size bytes)(hd:oM w e size v n xs){x:aO}{m:ah}{news:aa aO}(hs:Src P size tx x m news w)(VI:n+m<=maxLen)(AB:(n+m)*bytes<=140737488355328):
  ∃v' w',(anz #[t,tx] ty #[v,x]).run P w= .ok v' w'/\oM w' e size v' (n+m) (xs++news)/\w.grownBy w' v.ownBlock/\(∀b,v'.ownBlock=az b->v.ownBlock=az b\/(w.heap.size<=b/\b<w'.heap.size)):=by
 have⟨i,z,hi,hz,tG,G4,hzs⟩:=E.info;subst tG;subst G4;have hlen:(xs++news).length=(n+m)*i.size:=by rw[bA,hd.1,hs.newsLen,cB]
 have alq:n+m<=9223372036854775807:=by simp only[maxLen] at VI;omega
 have grown:∀(old:ah),old<n+m->∀row:ai ah,
   oM (w.drew.alloc (.cells ((xs++news).toArray++aqZ z.cells (grownCap w (n+m) old e-(n+m))) e)) e i.size (.slice (az ⟨w.heap.size,0,aA⟩) (n+m) (grownCap w (n+m) old e)) (n+m) (xs++news)/\
   w.grownBy (w.drew.alloc (.cells ((xs++news).toArray++aqZ z.cells (grownCap w (n+m) old e-(n+m))) e)) row:=by
  intro old ho row;have hge:=grownCap_ge w (n+m) old e;have vR:grownCap w (n+m) old e<=maxLen:=grownCap_le_maxLen w (n+m) old e VI;refine⟨⟨hlen,.inr ⟨w.heap.size,0,_,_,by rw[dG],heap_alloc_new w.drew _,hge,vR,?_,?_⟩⟩,⟨rfl,rfl,rfl,by simp,λk hk _=>heap_alloc_old w.drew _ hk⟩⟩
  .rw[aqs,dL,size_zeroCells,hzs,hlen,<-cB];exact cm _ (by omega)
  rw[dG,aoh,an9,<-hlen];exact apJ
 rcases hd.2 with⟨rfl,rfl⟩|⟨g,d,cap,cur,rfl,hg,O0,vR,kO,rW⟩
 .have hx:xs=[]:=cH (by simpa using hd.1);subst hx
  by_cases hm:m=0
  .subst hm;have hn:news=[]:=cH (by simpa using hs.newsLen);subst hn;refine⟨.slice aA 0 0,w,?_,oM.nil w e i.size,⟨rfl,rfl,rfl,aW _,λ_ _ _=>rfl⟩,λb q=>by cases q⟩;have hc:=hs.cells;rcases hs.kind with⟨e',hk⟩|hk<;>simp[anz,aH E.under,aH hk,sizeOf,typeInfo,hi,hs.len,hc]
  have hr:=run_append_grow_src (P:=P) w t tx ty e i z E.under hi hz aA 0 0 [] (run_firstCells_none w.drew i.size 0 0 0) x m news hs (by omega) (by omega) (growslice_fits (by omega) AB);have hgr:=grown 0 (by omega) aA;rw[dK] at hgr ⊢;exact⟨_,_,hr,hgr.1,hgr.2,λb q=>by cases q;exact .inr ⟨aW _,by simp⟩⟩
 by_cases Bh:n+m<=cap
 .have V6:d*i.size+n*i.size+news.length<=cur.size:=by
   rw[hs.newsLen,dz,<-cB,<-cB];exact bC (cm _ (by omega)) kO
  have G9:=run_storeCells_at P g (d*i.size+n*i.size) e news 0 cur w hg (by simpa using V6) hs.one;simp only[eH] at G9;have hr:(anz #[t,tx] ty #[.slice (az ⟨g,d*i.size,aA⟩) n cap,x]).run P w= .ok (.slice (az ⟨g,d*i.size,aA⟩) (n+m) cap) (w.setRow g (cur.toList.take (d*i.size+n*i.size)++news++cur.toList.drop (d*i.size+n*i.size+news.length)).toArray):=by
   rcases hs.kind with⟨e',hk⟩|hk<;>simp[anz,aH E.under,aH hk,sizeOf,typeInfo,hi,hs.len,Bh,hs.cells,anW,G9]
  refine⟨_,_,hr,⟨hlen,.inr ⟨g,d,cap,_,rfl,setRow_heap w g cur _ e _ hg,Bh,vR,?_,?_⟩⟩,⟨rfl,rfl,rfl,by simp,λk _ hk=>setRow_other w g k _ (λe=>hk (by simp[aoa,e]))⟩,λb q=>.inl q⟩
  .simp only[dL,bA,bJ,b9,cU];omega
  have:=vT cur.toList news (d*i.size) (n*i.size) ((n+m)*i.size) (by rw[cU,<-cB];exact bC (cm _ (by omega)) kO) (by rw[hs.newsLen,<-cB];exact aW _);have e1:((cur.toList.drop (d*i.size)).take ((n+m)*i.size)).drop (n*i.size+news.length)=[]:=an8 (by rw[bJ,hs.newsLen,<-cB];exact Nat.min_le_left _ _);rw[this,e1,bW,apU,eX (by rw[cB];omega),rW]
 have hold:(Builtin.firstCells i.size n (.slice (az ⟨g,d*i.size,aA⟩) n cap)).run P w.drew= .ok xs.toArray w.drew:=by
  refine run_firstCells_some w.drew i.size n ⟨g,d*i.size,aA⟩ n cap xs hd.1 λj u hu=>?_;have this:w.cell? ⟨g,d*i.size+j,aA⟩=az u:=hd.cell hu;have JF:(⟨g,d*i.size,aA⟩:ck).add j=⟨g,d*i.size+j,aA⟩:=anW _ _ _;rw[JF];simpa using this
 have hr:=run_append_grow_src (P:=P) w t tx ty e i z E.under hi hz (az ⟨g,d*i.size,aA⟩) n cap xs hold x m news hs (by omega) (by omega) (growslice_fits (by omega) AB);have hgr:=grown cap (by omega) (aoa (.slice (az ⟨g,d*i.size,aA⟩) n cap));exact⟨_,_,hr,hgr.1,hgr.2,λb q=>by cases q;exact .inr ⟨aW _,by simp⟩⟩
theorem W5 (hd:oM w e size v n xs){c:ah}{us:aa aO}{u:aO}(hcu:u.cells.toList=us)(hc:c+us.length<=n*size)(hp:0<us.length)(oC:(P.info? t).map (·.size)=az us.length)(h1:∀v∈us,v.oneCell'=aC):
  ∃w',(api t (.pointer (az ⟨OP v,OQ v+c,aA⟩)) u).run P w= .ok () w'/\oM w' e size v n (xs.take c++us++xs.drop (c+us.length))/\w.grownBy w' v.ownBlock/\w'.heap.size=w.heap.size:=by
 rcases hd.2 with⟨_,rfl⟩|⟨g,d,cap,cur,rfl,hg,O0,vR,kO,rW⟩
 .rw[dG] at hc;omega
 have V6:d*size+n*size<=cur.size:=by rw[<-cB];exact bC (cm _ (by omega)) kO
 have kT:=x9 (P:=P) w t e g (d*size+c) cur.toList us u (by simpa using hg) hcu (by have:cur.toList.length=cur.size:=cU;omega) oC h1;refine⟨_,kT,⟨?_,.inr ⟨g,d,cap,_,rfl,setRow_heap w g cur _ e _ hg,O0,vR,?_,?_⟩⟩,⟨rfl,rfl,rfl,by simp,λk _ hk=>setRow_other w g k _ (λe=>hk (by simp[aoa,e]))⟩,by simp⟩
 .rw[bA,bA,bJ,b9,hd.1];omega
 .simp only[dL,bA,bJ,b9,cU];omega
 have:=vT cur.toList us (d*size) c (n*size) (by rw[cU];exact V6) hc;rw[rW] at this;exact this
theorem abN (z:aq aO)(k i j:ah)(hj:j<z.size)(hi:i<k):(madeCells z (k*z.size))[i*z.size+j]?=z[j]?:=by
 have rG:i*z.size+j<k*z.size:=by
  have:=cm z.size (show i+1<=k from hi)
  grind
 unfold madeCells
 grind [Nat.add_comm,Nat.add_mul_mod_self_right,Nat.mod_eq_of_lt,anO]
theorem abO (E:G8 P t e size bytes){kl kc:dX}{l c:af}(h0:0<=l)(hlc:l<=c)(hb:bytes<=1000)(hc:c<=2147483647):
  ∃w' z,(P.info? e).bind (·.zero)=az z/\z.cells.size=size/\(Instr.makeSlice t (.int kl l) (.int kc c)).run P w= .ok (.slice (az ⟨w.heap.size,0,aA⟩) l.toNat c.toNat) w'/\w'=w.alloc (.cells (madeCells z.cells (c.toNat*size)) e)/\
   oM w' e size (.slice (az ⟨w.heap.size,0,aA⟩) l.toNat c.toNat) l.toNat ((madeCells z.cells (c.toNat*size)).toList.take (l.toNat*size)):=by
 have⟨i,z,hi,hz,tG,G4,hzs⟩:=E.info;subst tG;subst G4;have hcb:(i.bytes:af)*c<=281474976710656:=by
  have h2:(i.bytes:af)*c<=1000*2147483647:=Int.mul_le_mul (by omega) hc (by omega) (by omega);omega
 have hr:=run_make (P:=P) w t e i z E.under hi hz kl kc l c h0 hlc hcb (by omega);refine⟨_,z,by rw[hi];exact hz,hzs,hr,rfl,⟨?_,.inr ⟨w.heap.size,0,c.toNat,_,by rw[dG],heap_alloc_new w _,by omega,by simp only[maxLen];omega,?_,by rw[dG,aoh]⟩⟩⟩
 .rw[bJ,cU,size_madeCells];exact eX (cm _ (by omega))
 rw[size_madeCells,cZ];exact aW _
theorem W7 {S:jv}{ty:Ty}{x0:El ty}{z:aq aO}{l c:ah}(hlc:l<=c)(hz:Data.rd S w z.toList x0):kR S w ((madeCells z (c*z.size)).toList.take (l*z.size)) (List.replicate l x0):=by
 have oC:Data.size (El ty)=z.size:=by rw[<-Data.len hz,cU]
 refine⟨?_,λi hi=>?_⟩
 .rw[bJ,cU,size_madeCells,anY,oC];exact eX (cm _ hlc)
 rw[anY] at hi;have e:(((madeCells z (c*z.size)).toList.take (l*z.size)).drop (i*Data.size (El ty))).take (Data.size (El ty))=z.toList:=by
  apply aow;intro j;rw[oC,cE]
  by_cases hj:j<z.size
  .have rG:i*z.size+j<l*z.size:=by
    have:=cm z.size (show i+1<=l from hi);rw[cL] at this;omega
   rw[aQ hj,cI,cE,aQ rG,anV,abN z c i j hj (by omega),anV]
  rw[aP hj,List.getElem?_eq_none (by rw[cU];omega)]
 rw[e,List.getElem_replicate];exact hz
theorem W8 {p:ai ck}{cap:ah}(hd:oM w e size (.slice p n cap) n xs){lo hi m:ah}(h1:lo<=hi)(h2:hi<=n)(h3:hi<=m)(h4:m<=cap):
  oM w e size (sliced p lo hi m size) (hi-lo) ((xs.drop (lo*size)).take ((hi-lo)*size))/\∀b,(sliced p lo hi m size).ownBlock=az b->(Value.slice p n cap).ownBlock=az b:=by
 have hlen:((xs.drop (lo*size)).take ((hi-lo)*size)).length=(hi-lo)*size:=by
  rw[bJ,b9,hd.1,<-apn];exact eX (cm _ (by omega))
 rcases hd.2 with⟨hv,rfl⟩|⟨g,d,als,cur,hv,hg,O0,vR,kO,rW⟩
 .cases hv;have e1:lo=0:=by omega
  have e2:hi=0:=by omega
  have e3:m=0:=by omega
  subst e1;subst e2;subst e3;exact⟨⟨hlen,.inl ⟨rfl,rfl⟩⟩,λb q=>by cases q⟩
 cases hv
 by_cases q:m=lo
 .subst q;have e2:hi=m:=by omega
  subst e2;refine⟨⟨hlen,.inr ⟨g,d,0,cur,by simp[sliced],hg,by omega,by simp[maxLen],?_,?_⟩⟩,λb q=>by simpa[sliced,aoa] using q⟩
  .exact bC (cm _ (by omega)) kO
  simp
 refine⟨⟨hlen,.inr ⟨g,d+lo,m-lo,cur,by simp[sliced,q,anW,cB],hg,by omega,by omega,?_,?_⟩⟩,λb z=>by simpa[sliced,q,anW,aoa] using z⟩
 .exact bC (cm _ (by omega)) kO
 rw[<-rW,apT,apU,apf,cB,eX ?_];rw[<-apn];exact cm _ (by omega)
end
end Go.Proofs.YtnfdimfepbbbpaaGreatDoor
