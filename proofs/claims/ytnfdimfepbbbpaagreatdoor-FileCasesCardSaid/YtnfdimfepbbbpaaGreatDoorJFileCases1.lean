/-
  Texts joined by program: LibA, LibB, LibC, EngA, EngB, EngC, EngD, EngE, EngF, RowA, EngG, EngH, EngI, EngJ, RowB, RowC, RowD, RowE, WordA, WalkW1, TabWf, WalkW2, WordB, WordC, WordL, EngK, EngM, EngP, EngQ, EngT, EngRs, WalkWl.
-/
import Derived.WalkKit
import Derived.WalkSpells
import Derived.WalkLawsBesides
import Derived.Lib.Hide
import Derived.Lib.OthersKept
import Derived.Deep.Quiet
import Derived.KernelRfl
import Derived.Test.YtnfdimfepbbbpaaGreatDoorRows
import Derived.ProofKit
import Derived.OrdersHeld
import Derived.Deep.Slices
import Derived.Carry
import Derived.Test.YtnfdimfepbbbpaaGreatDoorProg
import Derived.Maps.Own
import Derived.Maps.OwnSet
import Derived.Maps.Views
import Derived.Lib.SlKeysI
import Derived.RangeFuncNested
import Derived.RangeFuncLeaves
import Derived.RangeFuncCalls
import Derived.OrdersIn
import Derived.TacticsIn
set_option linter.unusedSimpArgs false
set_option linter.unusedVariables false
set_option maxRecDepth 100000
set_option maxHeartbeats 8000000
namespace Go.Proofs.YtnfdimfepbbbpaaGreatDoor
open Go.RowKit
abbrev iv (x : Int) : Value := .int .i64 x
abbrev pv (b : Nat) : Value := .pointer (some ⟨b, 0, none⟩)
abbrev TT : Prop := True
theorem tv : True := trivial
abbrev Stab:=Nat->Prop
def Keeps (S:Stab)(w w':World):Prop:=∀k,S k->w'.heap[k]?=w.heap[k]?
theorem Keeps.refl (S:Stab)(w:World):Keeps S w w:=fun _ _=>rfl
theorem Keeps.trans {S:Stab}{a b c:World}(h:Keeps S a b)(k:Keeps S b c):Keeps S a c:=fun i hi=>(k i hi).trans (h i hi)
theorem Keeps.mono {S S':Stab}{a b:World}(h:Keeps S a b)(hs:∀k,S' k->S k):Keeps S' a b:=fun i hi=>h i (hs i hi)
theorem Keeps.below {B:Nat}{a b:World}(h:Below B a b):Keeps (· <B) a b:=fun i hi=>h.block i hi
class Data (α:Type) where
 size:Nat
 isAgg:Bool
 rd:Stab->World->List Value->α->Prop
 len:∀ {S w cs a},rd S w cs a->cs.length=size
 up:∀ {S S':Stab} {w cs a},(∀k,S k->S' k)->rd S w cs a->rd S' w cs a
 keep:∀ {S w w' cs a},Keeps S w w'->rd S w cs a->rd S w' cs a
 one:∀ {S w cs a},rd S w cs a->∀u∈cs,u.oneCell'=true
instance:Data Int where
 size:=1
 isAgg:=false
 rd _ _ cs n:=cs=[.int .i64 n]
 len h:=by rw[h];rfl
 up _ h:=h
 keep _ h:=h
 one h u hu:=by rw[h] at hu;simp at hu;subst hu;rfl
instance:Data Bool where
 size:=1
 isAgg:=false
 rd _ _ cs b:=cs=[.bool b]
 len h:=by rw[h];rfl
 up _ h:=h
 keep _ h:=h
 one h u hu:=by rw[h] at hu;simp at hu;subst hu;rfl
instance:Data ByteArray where
 size:=1
 isAgg:=false
 rd _ _ cs s:=cs=[.string s]
 len h:=by rw[h];rfl
 up _ h:=h
 keep _ h:=h
 one h u hu:=by rw[h] at hu;simp at hu;subst hu;rfl
instance {α β:Type} [Data α] [Data β]:Data (α×β) where
 size:=Data.size α+Data.size β
 isAgg:=true
 rd S w cs x:=∃c1 c2,cs=c1++c2/\Data.rd S w c1 x.1/\Data.rd S w c2 x.2
 len:=by rintro S w cs a ⟨c1,c2,rfl,h1,h2⟩;rw[List.length_append,Data.len h1,Data.len h2]
 up:=by rintro S S' w cs a hs ⟨c1,c2,rfl,h1,h2⟩;exact⟨c1,c2,rfl,Data.up hs h1,Data.up hs h2⟩
 keep:=by rintro S w w' cs a hk ⟨c1,c2,rfl,h1,h2⟩;exact⟨c1,c2,rfl,Data.keep hk h1,Data.keep hk h2⟩
 one:=by
  rintro S w cs a ⟨c1,c2,rfl,h1,h2⟩ u hu
  rcases List.mem_append.1 hu with hu|hu
  .exact Data.one h1 u hu
  exact Data.one h2 u hu
def CellsRd {α:Type}[Data α](S:Stab)(w:World)(cur:Array Value)(off:Nat)(l:List α):Prop:=
 ∀i (h:i<l.length),∃cs,Data.rd S w cs l[i]/\∀j,j<Data.size α->cur[off+i*Data.size α+j]?=cs[j]?
def SliceRd {α:Type}[Data α](S:Stab)(w:World)(v:Value)(l:List α):Prop:=
 ∃p c,v= .slice p l.length c/\l.length<=c/\c<=maxLen/\
  (l=[]\/∃g off cur t fz,p=some ⟨g,off,none⟩/\S g/\w.heap[g]?=some (.cells cur t fz)/\CellsRd S w cur off l)
theorem CellsRd.up {α:Type}[Data α]{S S':Stab}{w:World}{cur:Array Value}{off:Nat}{l:List α}(hs:∀k,S k->S' k)(h:CellsRd S w cur off l):CellsRd S' w cur off l:=
 fun i hi=>let⟨cs,h1,h2⟩:=h i hi;⟨cs,Data.up hs h1,h2⟩
theorem CellsRd.keep {α:Type}[Data α]{S:Stab}{w w':World}{cur:Array Value}{off:Nat}{l:List α}(hk:Keeps S w w')(h:CellsRd S w cur off l):CellsRd S w' cur off l:=
 fun i hi=>let⟨cs,h1,h2⟩:=h i hi;⟨cs,Data.keep hk h1,h2⟩
instance {α:Type} [Data α]:Data (List α) where
 size:=1
 isAgg:=false
 rd S w cs l:=∃v,cs=[v]/\SliceRd S w v l
 len:=by rintro S w cs l ⟨v,rfl,_⟩;rfl
 up:=by
  rintro S S' w cs l hs ⟨v,rfl,p,c,rfl,h1,h2,h3⟩
  refine⟨_,rfl,p,c,rfl,h1,h2,?_⟩
  rcases h3 with h3|⟨g,off,cur,t,fz,rfl,hg,hw,hc⟩
  .exact .inl h3
  exact .inr ⟨g,off,cur,t,fz,rfl,hs _ hg,hw,hc.up hs⟩
 keep:=by
  rintro S w w' cs l hk ⟨v,rfl,p,c,rfl,h1,h2,h3⟩
  refine⟨_,rfl,p,c,rfl,h1,h2,?_⟩
  rcases h3 with h3|⟨g,off,cur,t,fz,rfl,hg,hw,hc⟩
  .exact .inl h3
  exact .inr ⟨g,off,cur,t,fz,rfl,hg,(hk g hg).trans hw,hc.keep hk⟩
 one:=by
  rintro S w cs l ⟨v,rfl,p,c,rfl,_⟩ u hu
  simp at hu;subst hu;rfl
def Rd {α:Type}[Data α](S:Stab)(w:World)(v:Value)(a:α):Prop:=∃cs,Data.rd S w cs a/\v=if Data.isAgg α then .agg cs.toArray else cs.headD undef
theorem Rd.up {α:Type}[Data α]{S S':Stab}{w:World}{v:Value}{a:α}(hs:∀k,S k->S' k)(h:Rd S w v a):Rd S' w v a:=let⟨cs,h1,h2⟩:=h;⟨cs,Data.up hs h1,h2⟩
theorem Rd.keep {α:Type}[Data α]{S:Stab}{w w':World}{v:Value}{a:α}(hk:Keeps S w w')(h:Rd S w v a):Rd S w' v a:=let⟨cs,h1,h2⟩:=h;⟨cs,Data.keep hk h1,h2⟩
theorem rd_slice {α:Type}[Data α]{S:Stab}{w:World}{v:Value}{l:List α}(h:Rd S w v l):SliceRd S w v l:=by
 obtain⟨cs,⟨v',rfl,hs⟩,rfl⟩:=h
 exact hs
theorem slice_rd {α:Type}[Data α]{S:Stab}{w:World}{v:Value}{l:List α}(h:SliceRd S w v l):Rd S w v l:=⟨[v],⟨v,rfl,h⟩,rfl⟩
theorem slice_header {α:Type}[Data α]{S:Stab}{w:World}{v:Value}{l:List α}(h:SliceRd S w v l):∃p c,v= .slice p l.length c/\l.length<=c/\c<=maxLen:=
 let⟨p,c,h1,h2,h3,_⟩:=h;⟨p,c,h1,h2,h3⟩
def RowRd {α:Type}[Data α](S:Stab)(w:World)(xs:List Value)(l:List α):Prop:=
 xs.length=l.length*Data.size α/\∀i (h:i<l.length),Data.rd S w ((xs.drop (i*Data.size α)).take (Data.size α)) l[i]
theorem RowRd.nil {α:Type}[Data α](S:Stab)(w:World):RowRd S w [] ([]:List α):=⟨by simp,fun i h=>by simp at h⟩
theorem RowRd.up {α:Type}[Data α]{S S':Stab}{w:World}{xs:List Value}{l:List α}(hs:∀k,S k->S' k)(h:RowRd S w xs l):RowRd S' w xs l:=
 ⟨h.1,fun i hi=>Data.up hs (h.2 i hi)⟩
theorem RowRd.keep {α:Type}[Data α]{S:Stab}{w w':World}{xs:List Value}{l:List α}(hk:Keeps S w w')(h:RowRd S w xs l):RowRd S w' xs l:=
 ⟨h.1,fun i hi=>Data.keep hk (h.2 i hi)⟩
theorem RowRd.append {α:Type}[Data α]{S:Stab}{w:World}{xs ys:List Value}{l m:List α}(h:RowRd S w xs l)(k:RowRd S w ys m):RowRd S w (xs++ys) (l++m):=by
 refine⟨by rw[List.length_append,List.length_append,h.1,k.1,Nat.add_mul],fun i hi=>?_⟩
 by_cases hl:i<l.length
 .rw[List.getElem_append_left hl]
  have h1:i*Data.size α+Data.size α<=xs.length:=by rw[h.1,<-Nat.succ_mul];exact Nat.mul_le_mul_right _ hl
  rw[List.drop_append_of_le_length (by omega),List.take_append_of_le_length (by rw[List.length_drop];omega)]
  exact h.2 i hl
 rw[List.length_append] at hi
 rw[List.getElem_append_right (by omega)]
 have e:i*Data.size α=xs.length+(i-l.length)*Data.size α:=by rw[h.1,<-Nat.add_mul];congr 1;omega
 rw[e,List.drop_append]
 rw[List.drop_of_length_le (by omega),List.nil_append]
 rw[show xs.length+(i-l.length)*Data.size α-xs.length=(i-l.length)*Data.size α by omega]
 exact k.2 (i-l.length) (by omega)
theorem RowRd.single {α:Type}[Data α]{S:Stab}{w:World}{cs:List Value}{a:α}(h:Data.rd S w cs a):RowRd S w cs [a]:=by
 refine⟨by rw[Data.len h];simp,fun i hi=>?_⟩
 have:i=0:=by simp at hi;exact hi
 subst this
 have e:(cs.drop (0*Data.size α)).take (Data.size α)=cs:=by rw[Nat.zero_mul,List.drop_zero,<-Data.len h];exact List.take_length
 rw[e];exact h
theorem RowRd.one {α:Type}[Data α]{S:Stab}{w:World}{xs:List Value}{l:List α}(h:RowRd S w xs l):∀u∈xs,u.oneCell'=true:=by
 intro u hu
 by_cases hz:Data.size α=0
 .have:xs=[]:=List.eq_nil_of_length_eq_zero (by rw[h.1,hz];simp)
  subst this;simp at hu
 obtain⟨j,hj,rfl⟩:=List.getElem_of_mem hu
 have hpos:0<Data.size α:=by omega
 have hi:j/Data.size α<l.length:=by rw[Nat.div_lt_iff_lt_mul hpos,<-h.1];exact hj
 refine Data.one (h.2 _ hi) _ ?_
 have hm:=Nat.mod_lt j hpos
 have hd:=Nat.div_add_mod j (Data.size α)
 rw[Nat.mul_comm] at hd
 refine List.mem_iff_getElem?.2 ⟨j%Data.size α,?_⟩
 rw[List.getElem?_take,if_pos hm,List.getElem?_drop,hd,List.getElem?_eq_getElem hj]
def Own {α:Type}[Data α](S:Stab)(w:World)(e:TypeId)(v:Value)(l:List α):Prop:=
 ∃xs,w.ownsRow 0 e (Data.size α) v l.length xs/\RowRd S w xs l
inductive Res:Type 1 where
 |iter (b:Nat) (s:ByteArray) (pos:Nat)
 |row {α:Type} [Data α] (e:TypeId) (v:Value) (l:List α)
 |box (b:Nat) (t:TypeId) (vs:List Value)
 |ro {α:Type} [Data α] (v:Value) (a:α)
 |obj {α:Type} [Data α] (b:Nat) (I:Obj->Prop) (vals:List (Value×α))
def Res.block:Res->Option Nat
 | .iter b _ _=>some b
 | @Res.row _ _ _ v _=>v.ownBlock
 | .box b _ _=>some b
 | @Res.ro _ _ _ _=>none
 | @Res.obj _ _ b _ _=>some b
def Res.ok (S:Stab)(w:World):Res->Prop
 | .iter b s pos=>w.heap[b]?=some (.stringIter s pos)
 | @Res.row _ _ e v l=>Own S w e v l
 | .box b t vs=>w.heap[b]?=some (.cells vs.toArray t (0,0))
 | @Res.ro _ _ v a=>Rd S w v a
 | @Res.obj _ _ b I vals=>(∃x,w.heap[b]?=some x/\I x)/\∀q∈vals,Rd S w q.1 q.2
structure Orig where
 w:World
 S:Stab
 ok:∀k,S k->k<w.heap.size
abbrev org (w:World):Orig:=⟨w,fun _=>False,fun _ h=>h.elim⟩
abbrev Since (o:Orig)(w':World):Stab:=fun k=>o.S k\/(o.w.heap.size<=k/\k<w'.heap.size)
structure Fr (w0:Orig)(w:World)(S:Stab)(rs:List Res):Prop where
 below:Below w0.w.heap.size w0.w w
 src:∀k,S k->w0.S k\/w0.w.heap.size<=k
 inb:∀k,S k->k<w.heap.size
 ok:∀r∈rs,r.ok S w
 own:∀r∈rs,∀b,r.block=some b->w0.w.heap.size<=b/\b<w.heap.size/\¬S b
 nodup:(rs.filterMap Res.block).Nodup
theorem Fr.start (o:Orig):Fr o o.w o.S []:=
 ⟨Below.refl _ _,fun _ h=>.inl h,o.ok,fun _ h=>by simp at h,fun _ h=>by simp at h,by simp⟩
theorem Fr.org {w0:Orig}{w:World}{S:Stab}{rs:List Res}(h:Fr w0 w S rs):w0.w.heap.size<=w.heap.size:=h.below.size
abbrev Fr.at {w0:Orig}{w:World}{S:Stab}{rs:List Res}(h:Fr w0 w S rs):Orig:=⟨w,S,h.inb⟩
theorem Res.ok_keep {S:Stab}{w w':World}{r:Res}(h:r.ok S w)(hk:Keeps S w w')(hb:∀b,r.block=some b->w'.heap[b]?=w.heap[b]?):r.ok S w':=by
 cases r with
 |iter b s pos=>exact(hb b rfl).trans h
 |row e v l=>
  obtain⟨xs,⟨h1,h2⟩,h3⟩:=h
  refine⟨xs,⟨h1,?_⟩,h3.keep hk⟩
  rcases h2 with h2|⟨g,cap,cur,rfl,hg,hh,rest⟩
  .exact .inl h2
  exact .inr ⟨g,cap,cur,rfl,hg,(hb g rfl).trans hh,rest⟩
 |box b t vs=>exact(hb b rfl).trans h
 |ro v a=>exact Rd.keep hk h
 |obj b I vals=>exact⟨let⟨x,h1,h2⟩:=h.1;⟨x,(hb b rfl).trans h1,h2⟩,fun q hq=>(h.2 q hq).keep hk⟩
theorem Res.ok_up {S S':Stab}{w:World}{r:Res}(h:r.ok S w)(hs:∀k,S k->S' k):r.ok S' w:=by
 cases r with
 |iter b s pos=>exact h
 |row e v l=>obtain⟨xs,h1,h2⟩:=h;exact⟨xs,h1,h2.up hs⟩
 |box b t vs=>exact h
 |ro v a=>exact Rd.up hs h
 |obj b I vals=>exact⟨h.1,fun q hq=>(h.2 q hq).up hs⟩
theorem Fr.on {w0:Orig}{w w':World}{S:Stab}{rs:List Res}(h:Fr w0 w S rs)(hb:Below w.heap.size w w'):Fr w0 w' S rs where
 below:=h.below.trans (hb.mono h.below.size)
 src:=h.src
 inb k hk:=Nat.lt_of_lt_of_le (h.inb k hk) hb.size
 ok r hr:=Res.ok_keep (h.ok r hr) (fun k hk=>hb.block k (h.inb k hk)) (fun b hb'=>hb.block b (h.own r hr b hb').2.1)
 own r hr b hb':=let⟨a,c,d⟩:=h.own r hr b hb';⟨a,Nat.lt_of_lt_of_le c hb.size,d⟩
 nodup:=h.nodup
theorem Fr.call {w0:Orig}{w w':World}{S:Stab}{rs:List Res}(h:Fr w0 w S rs)(hb:Below w.heap.size w w'):Fr w0 w' (fun k=>S k\/(w.heap.size<=k/\k<w'.heap.size)) rs where
 below:=(h.on hb).below
 src k hk:=by
  rcases hk with hk|hk
  .exact h.src k hk
  exact .inr (Nat.le_trans h.below.size hk.1)
 inb k hk:=by
  rcases hk with hk|hk
  .exact(h.on hb).inb k hk
  exact hk.2
 ok r hr:=Res.ok_up ((h.on hb).ok r hr) fun _=>.inl
 own r hr b hb':=by
  obtain⟨a,c,d⟩:=h.own r hr b hb'
  exact⟨a,Nat.lt_of_lt_of_le c hb.size,fun e=>e.elim d (fun e=>by omega)⟩
 nodup:=h.nodup
theorem Fr.ro {α:Type}[Data α]{w0:Orig}{w:World}{S:Stab}{rs:List Res}(h:Fr w0 w S rs){v:Value}{a:α}(hr:Rd S w v a):Fr w0 w S (.ro v a::rs) where
 below:=h.below
 src:=h.src
 inb:=h.inb
 ok r hr':=by
  rcases List.mem_cons.1 hr' with rfl|hr'
  .exact hr
  exact h.ok r hr'
 own r hr' b hb:=by
  rcases List.mem_cons.1 hr' with rfl|hr'
  .cases hb
  exact h.own r hr' b hb
 nodup:=by rw[List.filterMap_cons];exact h.nodup
theorem Fr.put {w0:Orig}{w:World}{S:Stab}{rs:List Res}(h:Fr w0 w S rs)(r:Res)(hr:r.ok S w)
  (hb:∀b,r.block=some b->w0.w.heap.size<=b/\b<w.heap.size/\¬S b/\∀r'∈rs,r'.block≠some b):Fr w0 w S (r::rs) where
 below:=h.below
 src:=h.src
 inb:=h.inb
 ok r' hr':=by
  rcases List.mem_cons.1 hr' with rfl|hr'
  .exact hr
  exact h.ok r' hr'
 own r' hr' b hb':=by
  rcases List.mem_cons.1 hr' with rfl|hr'
  .obtain⟨x,y,z,_⟩:=hb b hb';exact⟨x,y,z⟩
  exact h.own r' hr' b hb'
 nodup:=by
  rw[List.filterMap_cons]
  split
  .exact h.nodup
  rename_i b hb'
  refine List.nodup_cons.2 ⟨fun hm=>?_,h.nodup⟩
  obtain⟨r',hr',e⟩:=List.mem_filterMap.1 hm
  exact(hb b hb').2.2.2 r' hr' e
theorem Fr.fresh {w0:Orig}{w:World}{S:Stab}{rs:List Res}(h:Fr w0 w S rs):w0.w.heap.size<=w.heap.size/\¬S w.heap.size/\∀r∈rs,r.block≠some w.heap.size:=
 ⟨h.below.size,fun hs=>Nat.lt_irrefl _ (h.inb _ hs),fun r hr e=>Nat.lt_irrefl _ (h.own r hr _ e).2.1⟩
theorem below_new (w:World)(o:Obj):Below w.heap.size w (w.alloc o):=(Below.refl _ _).alloc (Nat.le_refl _) _
theorem Fr.alloc {w0:Orig}{w:World}{S:Stab}{rs:List Res}(h:Fr w0 w S rs)(o:Obj):Fr w0 (w.alloc o) S rs:=h.on (below_new w o)
theorem Fr.newBox {w0:Orig}{w:World}{S:Stab}{rs:List Res}(h:Fr w0 w S rs)(vs:List Value)(t:TypeId):Fr w0 (w.alloc (.cells vs.toArray t)) S (.box w.heap.size t vs::rs):=
 (h.alloc _).put _ (heap_alloc_new w _) (fun b hb=>by
  cases hb
  have hf:=h.fresh
  exact⟨hf.1,by simp,hf.2.1,hf.2.2⟩)
theorem Fr.newIter {w0:Orig}{w:World}{S:Stab}{rs:List Res}(h:Fr w0 w S rs)(s:ByteArray):Fr w0 (w.iter s 0) S (.iter w.heap.size s 0::rs):=
 (h.alloc _).put _ (heap_alloc_new w _) (fun b hb=>by
  cases hb
  have hf:=h.fresh
  exact⟨hf.1,by simp,hf.2.1,hf.2.2⟩)
theorem Fr.newRow {α:Type}[Data α]{w0:Orig}{w:World}{S:Stab}{rs:List Res}(h:Fr w0 w S rs)(e:TypeId):Fr w0 w S (.row e (.slice none 0 0) ([]:List α)::rs):=
 h.put _ ⟨[],World.ownsRow_nil _ _ _ _,RowRd.nil _ _⟩ (fun b hb=>by cases hb)
theorem Fr.set {w0:Orig}{w w':World}{S:Stab}{rs:List Res}(h:Fr w0 w S rs)(i:Nat){r:Res}(hi:rs[i]?=some r)(r':Res)(hok:r'.ok S w')
  (hg:w.grownBy w' r.block) (hb:∀b,r'.block=some b->r.block=some b\/(w.heap.size<=b/\b<w'.heap.size)):Fr w0 w' S (rs.set i r'):=by
 have hS:∀k,S k->some k≠r.block:=fun k hk e=>(h.own r (List.mem_of_getElem? hi) k e.symm).2.2 hk
 have hkeep:Keeps S w w':=fun k hk=>hg.block k (h.inb k hk) (hS k hk)
 have hil:i<rs.length:=(List.getElem?_eq_some_iff.1 hi).1
 have hri:rs[i]=r:=(List.getElem?_eq_some_iff.1 hi).2
 have hoth:∀j (hj:j<rs.length),j≠i->∀b,rs[j].block=some b->some b≠r.block:=by
  intro j hj hne b hb' e
  have hn:=h.nodup
  rw[List.Nodup,List.pairwise_filterMap] at hn
  rw[List.pairwise_iff_getElem] at hn
  rcases Nat.lt_or_gt_of_ne hne with hlt|hgt
  .exact hn j i hj hil hlt b hb' b (by rw[hri];exact e.symm) rfl
  exact hn i j hil hj hgt b (by rw[hri];exact e.symm) b hb' rfl
 have hO:∀k,k<w0.w.heap.size->some k≠r.block:=fun k hk e=>by have:=(h.own r (List.mem_of_getElem? hi) k e.symm).1;omega
 refine⟨?_,h.src,fun k hk=>Nat.lt_of_lt_of_le (h.inb k hk) hg.size,?_,?_,?_⟩
 .refine h.below.trans ⟨hg.os,hg.tape,hg.output,hg.size,fun k hk=>?_⟩
  exact hg.block k (Nat.lt_of_lt_of_le hk h.below.size) (hO k hk)
 .intro x hx
  obtain⟨j,hj,rfl⟩:=List.getElem_of_mem hx
  rw[List.length_set] at hj
  rw[List.getElem_set]
  split
  .exact hok
  rename_i hne
  refine Res.ok_keep (h.ok _ (List.getElem_mem hj)) hkeep fun b hb'=>?_
  exact hg.block b (h.own _ (List.getElem_mem hj) b hb').2.1 (hoth j hj (fun e=>hne e.symm) b hb')
 .intro x hx b hb'
  obtain⟨j,hj,rfl⟩:=List.getElem_of_mem hx
  rw[List.length_set] at hj
  rw[List.getElem_set] at hb'
  split at hb'
  .rcases hb b hb' with e|⟨e1,e2⟩
   .obtain⟨a,c,d⟩:=h.own r (List.mem_of_getElem? hi) b e
    exact⟨a,Nat.lt_of_lt_of_le c hg.size,d⟩
   exact⟨Nat.le_trans h.below.size e1,e2,fun hs=>by have:=h.inb b hs;omega⟩
  obtain⟨a,c,d⟩:=h.own _ (List.getElem_mem hj) b hb'
  exact⟨a,Nat.lt_of_lt_of_le c hg.size,d⟩
 have hn:=h.nodup
 rw[List.Nodup,List.pairwise_filterMap,List.pairwise_iff_getElem] at hn ⊢
 intro j k hj hk hjk
 rw[List.length_set] at hj hk
 rw[List.getElem_set,List.getElem_set]
 intro b hb1 b' hb2 e
 subst e
 split at hb1
 .rename_i e1
  rw[if_neg (by omega)] at hb2
  rcases hb b hb1 with e|⟨e2,e3⟩
  .exact hoth k hk (by omega) b hb2 e.symm
  have:=(h.own _ (List.getElem_mem hk) b hb2).2.1;omega
 split at hb2
 .rcases hb b hb2 with e|⟨e2,e3⟩
  .exact hoth j hj (by omega) b hb1 e.symm
  have:=(h.own _ (List.getElem_mem hj) b hb1).2.1;omega
 exact hn j k hj hk hjk b hb1 b hb2 rfl
structure Elem (P:Program)(t e:TypeId)(size bytes:Nat):Prop where
 under:P.underlying t=some (.slice e)
 info:∃i z,P.info? e=some i/\i.zero=some z/\i.size=size/\i.bytes=bytes/\z.cells.size=size
 pos:0<size
theorem elem_of {P:Program}{t e:TypeId}{z:Value}{size bytes:Nat}(hu:P.underlying t=some (.slice e))(h:(P.info? e).map (fun i=>(i.zero,i.size,i.bytes))=some (some z,size,bytes))(hz:z.cells.size=size)(hp:0<size):Elem P t e size bytes:=by
 obtain⟨i,h1,h2,h3,h4⟩:=info_parts h
 exact⟨hu,⟨i,z,h1,h2,h3,h4,hz⟩,hp⟩
theorem run_push {P:Program}{t ty e:TypeId}{size bytes:Nat}(E:Elem P t e size bytes)(w:World)(v:Value)(n:Nat)(xs:List Value)(hown:w.ownsRow 0 e size v n xs)
  (a:Addr) (m c:Nat) (news:List Value) (hl:news.length=m*size) (hnews:∀j u,news[j]?=some u->w.cell? (a.add j)=some u) (h1:∀u∈news,u.oneCell'=true)
  (h63:n+m<=maxLen) (hbytes:(n+m)*bytes<=140737488355328):
  ∃v' w',(Builtin.append_ #[t,t] ty #[v,.slice (some a) m c]).run P w= .ok v' w'/\w'.ownsRow 0 e size v' (n+m) (xs++news)/\w.grownBy w' v.ownBlock/\
   (∀b,v'.ownBlock=some b->v.ownBlock=some b\/(w.heap.size<=b/\b<w'.heap.size)):=by
 obtain⟨i,z,hi,hz,hsize,hby,hzs⟩:=E.info
 by_cases hnil:v= .slice none 0 0\/¬(∃g cap,v= .slice (some ⟨g,0,none⟩) n cap/\n+m<=cap)
 ·
  have hkey:∃base,base=w.heap.size/\True:=⟨_,rfl,tv⟩
  rcases hown.2 with⟨rfl,rfl⟩|⟨g,cap,cur,rfl,hbg,hg,hnc,hcm,hcs,htake⟩
  .have hx:xs=[]:=List.eq_nil_of_length_eq_zero (by simpa using hown.1)
   subst hx
   obtain⟨v',w',hr,h2,h3,h4⟩:=run_append_own (P:=P) w w.heap.size t ty e i z size bytes E.under hi hz hsize hby hzs E.pos (.slice none 0 0) 0 [] (World.ownsRow_nil _ _ _ _) a m c news hl hnews h1 h63 hbytes (Nat.le_refl _)
   refine⟨v',w',hr,⟨h2.1,?_⟩,h3,fun b hb=>.inr (h2.lt b hb)⟩
   rcases h2.2 with h|⟨g,cap,cur,e1,e2,e3⟩
   .exact .inl h
   exact .inr ⟨g,cap,cur,e1,Nat.zero_le _,e3⟩
  have hroom:¬n+m<=cap:=by
   rcases hnil with h|h
   .cases h
   intro hh;exact h ⟨g,cap,rfl,hh⟩
  have holds:∀j u,xs[j]?=some u->w.cell? ((⟨g,0,none⟩:Addr).add j)=some u:=hown.cells (g:=g) rfl
  have h63':n+m<=9223372036854775807:=by simp only[maxLen] at h63;omega
  have hr:=run_append_grow (P:=P) w t ty e i z E.under hi hz ⟨g,0,none⟩ n cap xs (by rw[hsize];exact hown.1) holds a m c news (by rw[hsize];exact hl) hnews (by omega) (by omega) (by rw[hby];exact growslice_fits (by omega) hbytes)
  have hge:=grownCap_ge w (n+m) cap e
  have hcm':grownCap w (n+m) cap e<=maxLen:=grownCap_le_maxLen w (n+m) cap e h63
  refine⟨_,_,hr,⟨by rw[List.length_append,hown.1,hl,Nat.add_mul],.inr ⟨w.heap.size,_,_,rfl,Nat.zero_le _,heap_alloc_new w.drew _,hge,hcm',?_,?_⟩⟩,⟨rfl,rfl,rfl,by simp,fun k hk _=>heap_alloc_old w.drew _ hk⟩,?_⟩
  .simp only[Array.size_append,List.size_toArray,size_zeroCells,hzs,hown.1,hl,<-Nat.add_mul]
   congr 1
   omega
  .simp only[Array.toList_append,List.append_assoc]
   rw[<-List.append_assoc,Nat.add_mul,<-hown.1,<-hl,<-List.length_append]
   exact List.take_left
  intro b hb
  simp[Value.ownBlock] at hb
  subst hb
  exact .inr ⟨Nat.le_refl _,by simp⟩
 have hv:∃g cap,v= .slice (some ⟨g,0,none⟩) n cap/\n+m<=cap:=Classical.byContradiction fun h=>hnil (.inr h)
 obtain⟨g,cap,rfl,hroom⟩:=hv
 rcases hown.2 with⟨h,_⟩|⟨g',cap',cur,hv',hbg,hg,hnc,hcm,hcs,htake⟩
 .cases h
 cases hv'
 have hfit:n*i.size+news.length<=cur.size:=by rw[hl,hcs,hsize,<-Nat.add_mul];exact Nat.mul_le_mul_right _ hroom
 have hr:=run_append_room (P:=P) w t ty e i E.under hi g n cap cur hg a m c news (by rw[hsize];exact hl) hnews h1 hroom hfit
 refine⟨_,_,hr,⟨by rw[List.length_append,hown.1,hl,Nat.add_mul],.inr ⟨g,cap,_,rfl,Nat.zero_le _,setRow_heap w g cur _ e _ hg,hroom,hcm,?_,?_⟩⟩,⟨rfl,rfl,rfl,by simp,fun k _ hk=>setRow_other w g k _ (fun e=>hk (by simp[Value.ownBlock,e]))⟩,fun b hb=>.inl hb⟩
 .simp only[List.size_toArray,List.length_append,List.length_take,List.length_drop,Array.length_toList]
  omega
 rw[hsize,htake,Nat.add_mul,<-hown.1,<-hl,<-List.length_append]
 exact List.take_left
theorem Fr.push {P:Program}{t ty e:TypeId}{α:Type}[Data α]{bytes:Nat}(E:Elem P t e (Data.size α) bytes){w0:Orig}{w:World}{S:Stab}{rs:List Res}(h:Fr w0 w S rs)(i:Nat){v:Value}{l:List α}(hi:rs[i]?=some (.row e v l))
  (a:Addr) (c:Nat) (m:List α) (news:List Value) (hrd:RowRd S w news m) (hnews:∀j u,news[j]?=some u->w.cell? (a.add j)=some u)
  (h63:l.length+m.length<=maxLen) (hbytes:(l.length+m.length)*bytes<=140737488355328):
  ∃v' w',(Builtin.append_ #[t,t] ty #[v,.slice (some a) m.length c]).run P w= .ok v' w'/\Fr w0 w' S (rs.set i (.row e v' (l++m)))/\w.grownBy w' v.ownBlock:=by
 obtain⟨xs,h1,h2⟩:=h.ok _ (List.mem_of_getElem? hi)
 obtain⟨v',w',hr,k1,k2,k3⟩:=run_push E w v l.length xs h1 a m.length c news hrd.1 hnews hrd.one h63 hbytes
 have hS:Keeps S w w':=fun k hk=>k2.block k (h.inb k hk) (fun e=>(h.own _ (List.mem_of_getElem? hi) k e.symm).2.2 hk)
 refine⟨v',w',hr,h.set i hi _ ⟨xs++news,by rw[List.length_append];exact k1,(h2.keep hS).append (hrd.keep hS)⟩ k2 k3,k2⟩
theorem Fr.next {w0:Orig}{w:World}{S:Stab}{rs:List Res}(h:Fr w0 w S rs)(i:Nat){b:Nat}{s:ByteArray}{pos:Nat}(hi:rs[i]?=some (.iter b s pos))(pos':Nat):Fr w0 (w.iterAt b s pos') S (rs.set i (.iter b s pos')):=by
 have hok:=h.ok _ (List.mem_of_getElem? hi)
 refine h.set i hi _ (Lib.iterAt_heap w b s pos pos' hok) ⟨rfl,rfl,rfl,by rw[Lib.iterAt_size];exact Nat.le_refl _,fun k hk hne=>Lib.iterAt_other w b k s pos' (fun e=>hne (by rw[e];rfl))⟩ (fun b' hb'=>.inl hb')
theorem Fr.iter_at {w0:Orig}{w:World}{S:Stab}{rs:List Res}(h:Fr w0 w S rs)(i:Nat){b:Nat}{s:ByteArray}{pos:Nat}(hi:rs[i]?=some (.iter b s pos)):w.heap[b]?=some (.stringIter s pos):=
 h.ok _ (List.mem_of_getElem? hi)
theorem Fr.out {α:Type}[Data α]{w0:Orig}{w:World}{S:Stab}{rs:List Res}(h:Fr w0 w S rs)(i:Nat){e:TypeId}{v:Value}{l:List α}(hi:rs[i]?=some (.row e v l)):Rd (· <w.heap.size) w v l:=by
 obtain⟨xs,h1,h2⟩:=h.ok _ (List.mem_of_getElem? hi)
 refine slice_rd ?_
 rcases h1.2 with⟨rfl,hn⟩|⟨g,cap,cur,rfl,_,hg,hnc,hcm,hcs,htake⟩
 .have:l=[]:=List.eq_nil_of_length_eq_zero hn
  subst this
  exact⟨none,0,rfl,by simp,by simp[maxLen],.inl rfl⟩
 refine⟨_,cap,rfl,hnc,hcm,.inr ⟨g,0,cur,e,(0,0),rfl,(Array.getElem?_eq_some_iff.1 hg).1,hg,fun j hj=>?_⟩⟩
 refine⟨_,Data.up h.inb (h2.2 j hj),fun q hq=>?_⟩
 rw[List.getElem?_take,if_pos hq,List.getElem?_drop,<-htake,List.getElem?_take,if_pos ?_]
 .simp
 have:=Nat.mul_le_mul_right (Data.size α) (show j+1<=l.length from hj)
 rw[Nat.succ_mul] at this
 omega
theorem Fr.give {α:Type}[Data α]{w0:Orig}{w:World}{S:Stab}{rs:List Res}(h:Fr w0 w S rs)(i:Nat){e:TypeId}{v:Value}{l:List α}(hi:rs[i]?=some (.row e v l)):Rd (Since w0 w) w v l:=by
 obtain⟨xs,h1,h2⟩:=h.ok _ (List.mem_of_getElem? hi)
 have hS:∀k,S k->Since w0 w k:=fun k hk=>(h.src k hk).elim .inl fun q=>.inr ⟨q,h.inb k hk⟩
 refine slice_rd ?_
 rcases h1.2 with⟨rfl,hn⟩|⟨g,cap,cur,rfl,_,hg,hnc,hcm,hcs,htake⟩
 .have:l=[]:=List.eq_nil_of_length_eq_zero hn
  subst this
  exact⟨none,0,rfl,by simp,by simp[maxLen],.inl rfl⟩
 obtain⟨hg1,hg2,_⟩:=h.own _ (List.mem_of_getElem? hi) g rfl
 refine⟨_,cap,rfl,hnc,hcm,.inr ⟨g,0,cur,e,(0,0),rfl,.inr ⟨hg1,hg2⟩,hg,fun j hj=>?_⟩⟩
 refine⟨_,Data.up hS (h2.2 j hj),fun q hq=>?_⟩
 rw[List.getElem?_take,if_pos hq,List.getElem?_drop,<-htake,List.getElem?_take,if_pos ?_]
 .simp
 have:=Nat.mul_le_mul_right (Data.size α) (show j+1<=l.length from hj)
 rw[Nat.succ_mul] at this
 omega
theorem Fr.since {w0:Orig}{w:World}{S:Stab}{rs:List Res}(h:Fr w0 w S rs):∀k,S k->Since w0 w k:=fun k hk=>(h.src k hk).elim .inl fun q=>.inr ⟨q,h.inb k hk⟩
theorem Rd.all {α:Type}[Data α]{w0:Orig}{w:World}{S:Stab}{rs:List Res}(h:Fr w0 w S rs){v:Value}{a:α}(hr:Rd S w v a):Rd (· <w.heap.size) w v a:=hr.up h.inb
def InR:IntKind->Int->Prop
 | .i64,n=> -9223372036854775808<=n/\n<=9223372036854775807
 | .i32,n=> -2147483648<=n/\n<=2147483647
 | .u8,n=>0<=n/\n<=255
 | .u32,n=>0<=n/\n<=4294967295
 | .u64,n=>0<=n/\n<=18446744073709551615
 |_,_=>False
theorem InR.wrap {k:IntKind}{n:Int}(h:InR k n):k.wrap n=n:=by
 cases k<;>simp only[InR] at h<;>first|exact h.elim|skip
 all_goals simp only[IntKind.wrap,IntKind.signed,IntKind.bits]
 all_goals simp
 all_goals first|omega|(split<;>omega)
def hdB:Value->Nat
 | .slice (some a) _ _=>a.block
 | .pointer (some a)=>a.block
 |_=>0
def hdO:Value->Nat
 | .slice (some a) _ _=>a.off
 | .pointer (some a)=>a.off
 |_=>0
def LenOk (v:Value)(n:Int):Prop:=∃p m c,v= .slice p m c/\n=(m:Int)
def IdxOk (v:Value)(i:Int):Prop:=∃b o n c,v= .slice (some ⟨b,o,none⟩) n c/\0<=i/\i<n
def CellOk (C:World->Prop)(b o:Nat)(u:Value):Prop:=∀w,C w->w.cell? ⟨b,o,none⟩=some u
def RowOk (C:World->Prop)(b o n:Nat)(us:Array Value):Prop:=us.size=n/\∀w,C w->∀j,j<n->w.cell? ⟨b,o+j,none⟩=us[j]?
def Callable (P:Program) (f:FuncId):Prop:=∃fn,P.funcs[f]?=some fn/\(fn.name== "runtime.NumGoroutine")=false/\fn.body.isNone=false
def CallOk (P:Program)(C:World->Prop)(f:FuncId)(args:Array Value)(v:Value):Prop:=∀w,C w->Calls P f args w (fun e w'=>e= .returned v/\C w')
def StrAt (s:ByteArray)(i:Int):Int:=((s.data.getD i.toNat 0).toNat:Int)
def EqOk (P:Program)(t:TypeId)(x y:Value)(r:Bool):Prop:=∀w,(Op.equal t x y).run P w= .ok r w
def evBin (P:Program)(op:BinOp)(t:TypeId)(x y:Value)(orc:Option Value):Option (Value×Prop):=
 match x,y with
 | .int k a,.int k' b=>
  match op,orc with
  | .shr,some (.int _ u)=>some (.int k u,0<=b/\a.fdiv (2 ^ (min b.toNat k.bits))=u)
  |_,_=>if k=k' then
   match op with
   | .add=>some (.int k (a+b),InR k (a+b))
   | .sub=>some (.int k (a-b),InR k (a-b))
   | .mul=>some (.int k (a*b),InR k (a*b))
   | .quo=>some (.int k (a/b),0<=a/\0<b/\InR k a)
   | .rem=>some (.int k (a%b),0<=a/\0<b)
   | .eql=>some (.bool (decide (a=b)),True)
   | .neq=>some (.bool (!decide (a=b)),True)
   | .lss=>some (.bool (decide (a<b)),True)
   | .leq=>some (.bool (decide (a<=b)),True)
   | .gtr=>some (.bool (decide (b<a)),True)
   | .geq=>some (.bool (decide (b<=a)),True)
   |_=>none
  else none
 | .string a,.string b=>
  match op with
  | .add=>some (.string (a++b),a.size+b.size<=9223372036854775807)
  | .eql=>some (.bool (a.toList==b.toList),True)
  | .neq=>some (.bool (!(a.toList==b.toList)),True)
  |_=>none
 | .bool a,.bool b=>
  match op with
  | .eql=>some (.bool (a==b),P.underlying t=some .bool)
  | .neq=>some (.bool (!(a==b)),P.underlying t=some .bool)
  |_=>none
 | .agg a,.agg b=>
  match op,orc with
  | .eql,some (.bool r)=>some (.bool r,EqOk P t (.agg a) (.agg b) r/\P.eqGuardType P.depth t=false)
  | .neq,some (.bool r)=>some (.bool (!r),EqOk P t (.agg a) (.agg b) r/\P.eqGuardType P.depth t=false)
  |_,_=>none
 |_,_=>none
section
variable {P:Program}
theorem inR_le {k:IntKind}{a b:Int}(h:InR k a)(h0:0<=a)(hb:0<b):InR k (a/b):=by
 have h1:0<=a/b:=Int.ediv_nonneg h0 (by omega)
 have h2:a/b<=a:=Int.ediv_le_self b h0
 cases k<;>simp only[InR] at h ⊢ <;>omega
theorem evBin_ok {op:BinOp}{t:TypeId}{x y:Operand}{a b v:Value}{p:Prop}{orc:Option Value}(h:evBin P op t a b orc=some (v,p))(hp:p)(w:World):
  (do eqGuard op t x y a b;binOp op t a b:Sem Value).run P w= .ok v w:=by
 unfold evBin at h
 split at h
 .rename_i k a k' b
  split at h
  .rename_i u
   simp only[Option.some.injEq,Prod.mk.injEq] at h
   obtain⟨rfl,rfl⟩:=h
   have hg:(eqGuard .shr t x y (.int k a) (.int k' b)).run P w= .ok () w:=by
    unfold eqGuard;split<;>rfl
   rw[Sem.run_bind,hg]
   simp only[Result.andThen,binOp,Op.shift]
   rw[if_neg (by omega),hp.2]
   rfl
  split at h
  .rename_i hk
   subst hk
   have hg:(eqGuard op t x y (.int k a) (.int k b)).run P w= .ok () w:=by
    unfold eqGuard;split<;>rfl
   rw[Sem.run_bind,hg]
   simp only[Result.andThen]
   cases op<;>simp only[Option.some.injEq,Prod.mk.injEq,reduceCtorEq] at h
   all_goals (obtain⟨rfl,rfl⟩:=h)
   all_goals simp only[binOp,ne_eq,not_true_eq_false,if_false,Op.intArith,Op.intDiv,Op.intCmp]
   case add=>rw[hp.wrap];rfl
   case sub=>rw[hp.wrap];rfl
   case mul=>rw[hp.wrap];rfl
   case quo=>
    obtain⟨h0,h1,h2⟩:=hp
    rw[if_neg (by omega),Int.tdiv_eq_ediv_of_nonneg h0,(inR_le h2 h0 h1).wrap];rfl
   case rem=>
    obtain⟨h0,h1⟩:=hp
    rw[if_neg (by omega),Int.tmod_eq_emod_of_nonneg h0];rfl
   case eql=>simp[pure];rfl
   case neq=>simp[pure];rfl
   all_goals rfl
  cases h
 .rename_i a b
  have hg:(eqGuard op t x y (.string a) (.string b)).run P w= .ok () w:=by
   unfold eqGuard;split<;>rfl
  rw[Sem.run_bind,hg]
  simp only[Result.andThen]
  cases op<;>simp only[Option.some.injEq,Prod.mk.injEq,reduceCtorEq] at h
  all_goals (obtain⟨rfl,rfl⟩:=h)
  all_goals simp only[binOp,Op.stringOp]
  case add=>
   rw[if_neg (by
    have:IntKind.max .i64=9223372036854775807:=by decide
    omega)]
   rfl
  all_goals rfl
 .rename_i a b
  have hg:(eqGuard op t x y (.bool a) (.bool b)).run P w= .ok () w:=by
   unfold eqGuard;split<;>rfl
  rw[Sem.run_bind,hg]
  simp only[Result.andThen]
  cases op<;>simp only[Option.some.injEq,Prod.mk.injEq,reduceCtorEq] at h
  all_goals (obtain⟨rfl,rfl⟩:=h)
  all_goals
   simp only[binOp,Sem.run_bind]
   rw[show(Op.equal t (.bool a) (.bool b)).run P w= .ok (a==b) w from run_equal_bool w t a b hp]
   rfl
 .rename_i a b
  have hg:P.eqGuardType P.depth t=false->(eqGuard op t x y (.agg a) (.agg b)).run P w= .ok () w:=by
   intro he
   cases op<;>simp[eqGuard,program,Sem.run,he,Result.andThen]
  split at h
  .simp only[Option.some.injEq,Prod.mk.injEq] at h
   obtain⟨rfl,rfl⟩:=h
   rw[Sem.run_bind,hg hp.2]
   simp only[Result.andThen,binOp,Sem.run_bind,hp.1 w]
   rfl
  .simp only[Option.some.injEq,Prod.mk.injEq] at h
   obtain⟨rfl,rfl⟩:=h
   rw[Sem.run_bind,hg hp.2]
   simp only[Result.andThen,binOp,Sem.run_bind,hp.1 w]
   rfl
  cases h
 cases h
def evOp (P:Program)(C:World->Prop)(g:Operand->Option Value)(op:Op)(orc:Option Value):Option (Value×Prop):=
 match op with
 | .move x=>(g x).map fun v=>(v,True)
 | .assign x=>(g x).map fun v=>(v,True)
 | .unOp .not _ x=>match g x with|some (.bool b)=>some (.bool (!b),True)|_=>none
 | .extract x i=>match g x with|some (.tuple vs)=>(vs[i]?).map fun v=>(v,True)|_=>none
 | .nilCheck x=>match g x with|some (.pointer (some a))=>some (.pointer (some a),True)|_=>none
 | .binOp o t x y _=>match g x,g y with|some a,some b=>evBin P o t a b orc|_,_=>none
 | .convert s d x=>match P.underlying s,P.underlying d with
  |some (.int _),some (.int k)=>match g x with|some (.int _ n)=>some (.int k n,InR k n)|_=>none
  |some (.slice _),some .string=>match g x,orc with|some v,some u=>some (u,∀w,C w->(convert s d v).run P w= .ok u w)|_,_=>none
  |_,_=>none
 | .index t x i=>match P.underlying t,g x,g i with|some .string,some (.string s),some (.int _ n)=>some (.int .u8 (StrAt s n),0<=n/\n<(s.size:Int))|_,_,_=>none
 | .indexAddr t x i=>match P.underlying t,g x,g i with|some (.slice e),some v,some (.int _ n)=>some (.pointer (some ⟨hdB v,hdO v+n.toNat*P.cellsOf e,none⟩),(P.info? e).isSome=true/\IdxOk v n)|_,_,_=>none
 | .fieldAddr t x f=>match P.underlying t,g x with
  |some (.struct fs),some (.pointer (some ⟨b,o,none⟩))=>match fs[f]? with
   |some fd=>some (.pointer (some ⟨b,o+fd.offset,none⟩),0<P.cellsOf fd.type)
   |none=>none
  |_,_=>none
 | .load t x=>match P.underlying t,g x,orc with
  |some (.struct _),some (.pointer (some ⟨b,o,none⟩)),some (.agg us)=>some (.agg us,(P.info? t).isSome=true/\RowOk C b o (P.cellsOf t) us)
  |some (.struct _),_,_=>none
  |some (.array _ _),_,_=>none
  |some _,some (.pointer (some ⟨b,o,none⟩)),some u=>some (u,CellOk C b o u)
  |_,_,_=>none
 | .field t x f=>match P.underlying t,g x with
  |some (.struct fs),some (.agg cs)=>match fs[f]? with
   |some fd=>match P.underlying fd.type with
    |some (.struct _)=>some (.agg (cs.extract fd.offset (fd.offset+P.cellsOf fd.type)),(P.info? fd.type).isSome=true)
    |some (.array _ _)=>none
    |some _=>(cs[fd.offset]?).map fun v=>(v,True)
    |none=>none
   |none=>none
  |_,_=>none
 | .build t ps=>match ps.toList.mapM (fun x=>(g x.2).map fun v=>(x.1,v)),orc with
  |some vs,some v=>some (v,∀w,(Instr.build t vs.toArray).run P w= .ok v w)
  |_,_=>none
 | .slice t x lo hi none=>match g x,lo.map g,hi.map g,orc with
  |some v,some (some l),some (some h),some u=>some (u,∀w,(Instr.sliceAt t v (some l) (some h) none).run P w= .ok u w)
  |some v,some (some l),none,some u=>some (u,∀w,(Instr.sliceAt t v (some l) none none).run P w= .ok u w)
  |some v,none,some (some h),some u=>some (u,∀w,(Instr.sliceAt t v none (some h) none).run P w= .ok u w)
  |some v,none,none,some u=>some (u,∀w,(Instr.sliceAt t v none none none).run P w= .ok u w)
  |_,_,_,_=>none
 | .lookup t m k ok=>match g m,g k,orc with
  |some vm,some vk,some u=>some (u,∀w,C w->(Instr.lookup t vm vk ok).run P w= .ok u w)
  |_,_,_=>none
 | .call c=>match c.callee,c.args.toList.map g with
  | .builtin .max,vs=>match vs.mapM id,orc with|some us,some v=>some (v,∀ty w,(Builtin.max_ c.argTypes ty us.toArray).run P w= .ok v w)|_,_=>none
  | .builtin .min,vs=>match vs.mapM id,orc with|some us,some v=>some (v,∀ty w,(Builtin.min_ c.argTypes ty us.toArray).run P w= .ok v w)|_,_=>none
  | .builtin .len,[some v]=>match(c.argTypes[0]?).bind P.underlying with
   |some .string=>match v with| .string s=>some (.int .i64 s.size,True)|_=>none
   |some (.slice _)=>match orc with|some (.int .i64 n)=>some (.int .i64 n,LenOk v n)|_=>none
   |_=>none
  | .value x,vs=>match g x,vs.mapM id,orc with|some (.func (.func f) first cap),some us,some v=>some (v,Callable P f/\CallOk P C f (first++us.toArray++cap) v)|_,_,_=>none
  |_,_=>none
 |_=>none
theorem run_fieldPlace {fd:Field}{b f:Nat}(w:World)(h0:0<P.cellsOf fd.type):(fieldPlace ⟨b,f,none⟩ fd).run P w= .ok (⟨b,f+fd.offset,none⟩:Addr) w:=by
 have hi:∃i,P.info? fd.type=some i:=by
  cases hh:P.info? fd.type with
  |none=>simp[Program.cellsOf,hh] at h0
  |some i=>exact⟨i,rfl⟩
 obtain⟨i,hi⟩:=hi
 have hs:i.size≠0:=by simp[Program.cellsOf,hi] at h0;omega
 have hadd:(⟨b,f,none⟩:Addr).add fd.offset=⟨b,f+fd.offset,none⟩:=by unfold Addr.add;split<;>simp_all
 simp[fieldPlace,sizeOf,typeInfo,program,Sem.run,hi,hs,hadd]
theorem run_loadCellsFrom (w:World)(b o:Nat)(us:Array Value)(n:Nat)(hn:us.size=n)(h:∀j,j<n->w.cell? ⟨b,o+j,none⟩=us[j]?):
  ∀k i (acc:Array Value),i+k=n->acc=us.extract 0 i->(loadCellsFrom ⟨b,o,none⟩ i k acc).run P w= .ok us w:=by
 intro k
 induction k with
 |zero=>
  intro i acc hi hacc
  subst hacc
  have:i=us.size:=by omega
  subst this
  simp[loadCellsFrom]
 |succ k ih=>
  intro i acc hi hacc
  have hc:=h i (by omega)
  have hadd:(⟨b,o,none⟩:Addr).add i=⟨b,o+i,none⟩:=by unfold Addr.add;split<;>simp_all
  have hlt:i<us.size:=by omega
  rw[Array.getElem?_eq_getElem hlt] at hc
  simp only[loadCellsFrom,load,Sem.run_bind,hadd]
  rw[show(Sem.load .plain ⟨b,o+i,none⟩ Sem.pure:Sem Value).run P w= .ok us[i] w from by simp[Sem.run,hc]]
  simp only[Result.andThen]
  refine ih (i+1) _ (by omega) ?_
  subst hacc
  simp
theorem evOp_len {C:World->Prop}{t:TypeId}{b o:Nat}{us:Array Value}{d:TypeDesc}(w:World)(hw:C w)(hu:P.underlying t=some d)(hd:∃fs,d= .struct fs)(hi:(P.info? t).isSome=true)(hr:RowOk C b o (P.cellsOf t) us):
  (Instr.loadAt t (.pointer (some ⟨b,o,none⟩))).run P w= .ok (.agg us) w:=by
 obtain⟨fs,rfl⟩:=hd
 obtain⟨i,hi⟩:=Option.isSome_iff_exists.1 hi
 have:=run_loadCellsFrom (P:=P) w b o us (P.cellsOf t) hr.1 (hr.2 w hw) (P.cellsOf t) 0 #[] (by omega) (by simp)
 simp[Instr.loadAt,Instr.sureAddr,loadVar,isAgg,run_underlying hu,run_sizeOf w hi,loadCells,this]
theorem load_one {t:TypeId}{b o:Nat}{d:TypeDesc}{u:Value}(w:World)(hu:P.underlying t=some d)(hd1:∀fs,d= .struct fs->False)(hd2:∀n e,d= .array n e->False)(hc:w.cell? ⟨b,o,none⟩=some u):
  (Instr.loadAt t (.pointer (some ⟨b,o,none⟩))).run P w= .ok u w:=by
 cases d<;>first|exact(hd1 _ rfl).elim|exact(hd2 _ _ rfl).elim|simp[Instr.loadAt,Instr.sureAddr,loadVar,isAgg,run_underlying hu,load,Sem.run,hc]
theorem quiet_value {C:World->Prop}{v:Value}{w:World}{s:Sem Value}(h:s.run P w= .ok v w):Oper.quietUpon P C w v ((do pure (.value (<-s)):Sem Next).run P w):=by
 rw[Sem.run_bind,h]
 exact⟨rfl,rfl⟩
theorem quiet_value' {C:World->Prop}{v:Value}{w:World}{s:Sem Value}(h:s.run P w= .ok v w):Oper.quietUpon P C w v ((s.run P w).andThen fun a w'=>.ok (.value a) w'):=by
 rw[h]
 exact⟨rfl,rfl⟩
theorem args_of {g:Operand->Option Value}{ρ:Operand->Value}(hg:∀x u,g x=some u->ρ x=u):∀(l:List Operand) (us:List Value),(l.map g).mapM id=some us->l.map ρ=us
 |[],us,h=>by simp at h;simp[h]
 |x::l,us,h=>by
  simp only[List.map_cons,List.mapM_cons,id_eq,Option.bind_eq_bind,Option.bind_eq_some_iff,Option.pure_def,Option.some.injEq] at h
  obtain⟨u,hu,vs,hvs,rfl⟩:=h
  rw[List.map_cons,hg x u hu,args_of hg l vs hvs]
theorem parts_of {g:Operand->Option Value}{ρ:Operand->Value}(hg:∀x u,g x=some u->ρ x=u):∀(l:List (Nat×Operand)) (us:List (Nat×Value)),l.mapM (fun x=>(g x.2).map fun v=>(x.1,v))=some us->l.map (fun x=>(x.1,ρ x.2))=us
 |[],us,h=>by simp at h;simp[h]
 |x::l,us,h=>by
  simp only[List.mapM_cons,Option.bind_eq_bind,Option.bind_eq_some_iff,Option.pure_def,Option.some.injEq,Option.map_eq_some_iff] at h
  obtain⟨_,⟨u,hu,rfl⟩,vs,hvs,rfl⟩:=h
  rw[List.map_cons,hg x.2 u hu,parts_of hg l vs hvs]
theorem args_arr {g:Operand->Option Value}{ρ:Operand->Value}(hg:∀x u,g x=some u->ρ x=u)(a:Array Operand)(us:List Value)(h:(a.toList.map g).mapM id=some us):a.map ρ=us.toArray:=by
 have:=args_of hg a.toList us h
 rw[<-this]
 apply Array.ext'
 rw[Array.toList_map]
theorem evOp_ok {C:World->Prop}{g:Operand->Option Value}{ρ:Operand->Value}{o:Oper}{orc:Option Value}{v:Value}{p:Prop}(hg:∀x u,g x=some u->ρ x=u)
  (h:evOp P C g o.op orc=some (v,p)) (hp:p) (w:World) (hw:C w):Oper.quietUpon P C w v ((execOp ρ o).run P w):=by
 cases hop:o.op<;>rw[hop] at h
 all_goals first|(cases h;done)|skip
 case move x=>
  simp only[evOp] at h
  simp only[execOp,hop]
  obtain⟨u,hu,e⟩:=Option.map_eq_some_iff.1 h
  cases e
  rw[hg x _ hu]
  exact⟨rfl,rfl⟩
 case assign x=>
  simp only[evOp] at h
  simp only[execOp,hop]
  obtain⟨u,hu,e⟩:=Option.map_eq_some_iff.1 h
  cases e
  rw[hg x _ hu]
  exact⟨rfl,rfl⟩
 case unOp uo t x=>
  cases uo
  all_goals first|(cases h;done)|skip
  simp only[evOp] at h
  split at h
  .rename_i b hb
   cases h
   simp only[execOp,hop,hg x _ hb]
   exact⟨rfl,rfl⟩
  cases h
 case extract x i=>
  simp only[evOp] at h
  split at h
  .rename_i vs hb
   obtain⟨u,hu,e⟩:=Option.map_eq_some_iff.1 h
   cases e
   simp only[execOp,hop,hg x _ hb]
   exact quiet_value (by simp[Instr.extract,hu])
  cases h
 case nilCheck x=>
  simp only[evOp] at h
  split at h
  .rename_i a hb
   cases h
   simp only[execOp,hop,hg x _ hb]
   exact⟨rfl,rfl⟩
  cases h
 case binOp bo t x y t'=>
  simp only[evOp] at h
  split at h
  .rename_i a b ha hb
   simp only[execOp,hop,hg x _ ha,hg y _ hb]
   exact quiet_value (evBin_ok h hp w)
  cases h
 case convert sT dT x=>
  simp only[evOp] at h
  split at h
  .rename_i k1 k h1 h2
   split at h
   .rename_i k2 n h3
    cases h
    simp only[execOp,hop,hg x _ h3]
    refine quiet_value ?_
    have:k.wrap n=n:=hp.wrap
    simp[convert,run_underlying h1,run_underlying h2,Conv.intToInt,this]
   cases h
  .split at h
   .rename_i u' h3
    cases h
    simp only[execOp,hop,hg x _ h3]
    exact quiet_value (hp w hw)
   cases h
  cases h
 case index t x i=>
  simp only[evOp] at h
  split at h
  .rename_i s k n h1 h2 h3
   cases h
   simp only[execOp,hop,hg x _ h2,hg i _ h3]
   refine quiet_value ?_
   obtain⟨h0,h4⟩:=hp
   have hlt:n.toNat<s.size:=by omega
   have hat:s[n.toNat]?=some (s[n.toNat]'hlt):=by simp[hlt]
   have hst:StrAt s n=((s[n.toNat]'hlt).toNat:Int):=by
    unfold StrAt
    congr 2
    rw[Array.getD_eq_getD_getElem?,Array.getElem?_eq_getElem hlt]
    rfl
   simp[Instr.index,asIntOf,run_underlying h1,h0,hat,hst]
  cases h
 case indexAddr t x i=>
  simp only[evOp] at h
  split at h
  .rename_i e v' k n h1 h2 h3
   cases h
   simp only[execOp,hop,hg x _ h2,hg i _ h3]
   refine quiet_value ?_
   obtain⟨hi,b,f,m,c,rfl,h0,h4⟩:=hp
   obtain⟨i,hi⟩:=Option.isSome_iff_exists.1 hi
   have hadd:∀q,(⟨b,f,none⟩:Addr).add q=⟨b,f+q,none⟩:=by intro q;unfold Addr.add;split<;>simp_all
   simp[Instr.indexAt,asIntOf,run_underlying h1,h0,h4,run_sizeOf w hi,hadd,hdB,hdO]
  cases h
 case fieldAddr t x f=>
  simp only[evOp] at h
  split at h
  .rename_i fs b q h1 h2
   split at h
   .rename_i fd hfd
    cases h
    simp only[execOp,hop,hg x _ h2]
    refine quiet_value ?_
    simp[Instr.fieldAt,run_underlying h1,hfd,Instr.sureAddr,run_fieldPlace w hp]
   cases h
  cases h
 case load t x=>
  simp only[evOp] at h
  split at h
  .rename_i fs b q us h1 h2
   cases h
   simp only[execOp,hop,hg x _ h2]
   exact quiet_value (evOp_len w hw h1 ⟨_,rfl⟩ hp.1 hp.2)
  .cases h
  .cases h
  .rename_i d b q u hn1 hn2 h1 h2
   cases h
   simp only[execOp,hop,hg x _ h2]
   exact quiet_value (load_one w h1 hn1 hn2 (hp w hw))
  cases h
 case field t x f=>
  simp only[evOp] at h
  split at h
  .rename_i fs cs h1 h2
   split at h
   .rename_i fd hfd
    split at h
    .rename_i fs' h3
     cases h
     simp only[execOp,hop,hg x _ h2]
     refine quiet_value ?_
     obtain⟨i,hi⟩:=Option.isSome_iff_exists.1 hp
     simp[Instr.field,run_underlying h1,hfd,asAgg,part,isAgg,run_underlying h3,run_sizeOf w hi]
    .cases h
    .rename_i d hn1 hn2 h3
     obtain⟨u,hu,e⟩:=Option.map_eq_some_iff.1 h
     cases e
     simp only[execOp,hop,hg x _ h2]
     refine quiet_value ?_
     have hag:(isAgg fd.type).run P w= .ok false w:=by
      cases d<;>first|exact(hn1 _ rfl).elim|exact(hn2 _ _ rfl).elim|simp[isAgg,run_underlying h3]
     simp[Instr.field,run_underlying h1,hfd,asAgg,part,hag,hu]
    cases h
   cases h
  cases h
 case build t ps=>
  simp only[evOp] at h
  split at h
  .rename_i vs v' hvs
   cases h
   have e:ps.map (fun x=>(x.1,ρ x.2))=vs.toArray:=by
    have:=parts_of hg ps.toList vs hvs
    rw[<-this]
    apply Array.ext'
    rw[Array.toList_map]
   simp only[execOp,hop]
   refine quiet_value ?_
   have:=hp w
   rw[<-e] at this
   exact this
  cases h
 case slice t x lo hi mx=>
  cases mx with
  |some m=>simp only[evOp] at h;cases h
  |none=>
   simp only[evOp] at h
   simp only[execOp,hop]
   split at h
   .rename_i v' l hh u h1 h2 h3
    cases h
    obtain⟨lx,rfl,g2⟩:=Option.map_eq_some_iff.1 h2
    obtain⟨hx,rfl,g3⟩:=Option.map_eq_some_iff.1 h3
    refine quiet_value ?_
    simp only[Option.map_some,Option.map_none,hg _ _ h1,hg _ _ g2,hg _ _ g3]
    exact hp w
   .rename_i v' l u h1 h2 h3
    cases h
    obtain⟨lx,rfl,g2⟩:=Option.map_eq_some_iff.1 h2
    cases Option.map_eq_none_iff.1 h3
    refine quiet_value ?_
    simp only[Option.map_some,Option.map_none,hg _ _ h1,hg _ _ g2]
    exact hp w
   .rename_i v' hh u h1 h2 h3
    cases h
    obtain⟨hx,rfl,g3⟩:=Option.map_eq_some_iff.1 h3
    cases Option.map_eq_none_iff.1 h2
    refine quiet_value ?_
    simp only[Option.map_some,Option.map_none,hg _ _ h1,hg _ _ g3]
    exact hp w
   .rename_i v' u h1 h2 h3
    cases h
    cases Option.map_eq_none_iff.1 h2
    cases Option.map_eq_none_iff.1 h3
    refine quiet_value ?_
    simp only[Option.map_some,Option.map_none,hg _ _ h1]
    exact hp w
   cases h
 case lookup t m k ok=>
  simp only[evOp] at h
  split at h
  .rename_i vm vk u h1 h2
   cases h
   simp only[execOp,hop,hg _ _ h1,hg _ _ h2]
   exact quiet_value (hp w hw)
  cases h
 case call c=>
  simp only[evOp] at h
  split at h
  .rename_i vs hc
   split at h
   .rename_i us v' hus
    cases h
    have ha:=args_arr hg c.args us hus
    simp only[execOp,hop,resolve,hc,Sem.run_bind,Sem.run_pure,Result.andThen_ok,ha,invoke,builtin]
    exact quiet_value' (hp _ w)
   cases h
  .rename_i vs hc
   split at h
   .rename_i us v' hus
    cases h
    have ha:=args_arr hg c.args us hus
    simp only[execOp,hop,resolve,hc,Sem.run_bind,Sem.run_pure,Result.andThen_ok,ha,invoke,builtin]
    exact quiet_value' (hp _ w)
   cases h
  .rename_i v' hc hl
   split at h
   .rename_i hu
    split at h
    .rename_i s
     cases h
     obtain⟨t,ht0,ht1⟩:=Option.bind_eq_some_iff.1 hu
     have ha:=args_arr hg c.args [.string s] (by rw[hl];rfl)
     simp only[execOp,hop,resolve,hc,Sem.run_bind,Sem.run_pure,Result.andThen_ok,ha,invoke,builtin]
     refine quiet_value' (s:=Builtin.len_ c.argTypes o.type #[.string s]) ?_
     simp[Builtin.len_,ht0,run_underlying ht1,goInt]
    cases h
   .rename_i e hu
    split at h
    .rename_i n
     cases h
     obtain⟨t,ht0,ht1⟩:=Option.bind_eq_some_iff.1 hu
     obtain⟨q,m,cp,rfl,rfl⟩:=hp
     have ha:=args_arr hg c.args [.slice q m cp] (by rw[hl];rfl)
     simp only[execOp,hop,resolve,hc,Sem.run_bind,Sem.run_pure,Result.andThen_ok,ha,invoke,builtin]
     refine quiet_value' (s:=Builtin.len_ c.argTypes o.type #[.slice q m cp]) ?_
     simp[Builtin.len_,ht0,run_underlying ht1,goInt]
    cases h
   cases h
  .rename_i x vs hc
   split at h
   .rename_i f first cap us v' hx hus
    cases h
    obtain⟨⟨fn,hf,hn,hb⟩,hcall⟩:=hp
    have ha:=args_arr hg c.args us hus
    have e:(execOp ρ o).run P w= .ok (.enter f (first++us.toArray++cap)) w:=by
     have hn':fn.name≠ "runtime.NumGoroutine" :=by simpa using hn
     have hb':fn.body≠none:=by intro e;rw[e] at hb;cases hb
     simp[execOp,hop,resolve,hc,ha,hg _ _ hx,Deferred.ofValue,invoke,callFunc,program,Sem.run,hf,hn',hb']
    rw[e]
    exact⟨rfl,hcall w hw⟩
   cases h
  cases h
end
structure Ent where
 slot:Nat
 ch:List (Nat×Bool)
 val:Value
abbrev Env:=List Ent
def litOk (a:Act)(l:Nat×Bool):Prop:=a.tmps[l.1]?=some (.bool l.2)
def chOk (a:Act)(C:List (Nat×Bool)):Prop:=∀l∈C,litOk a l
def EntOk (a:Act)(e:Ent):Prop:=(chOk a e.ch->a.tmps[e.slot]?=some e.val)/\(¬chOk a e.ch->a.tmps[e.slot]?=some undef)
def EnvOk (n:Nat)(a:Act)(env:Env):Prop:=a.tmps.size=n/\a.defers=[]/\∀e∈env,EntOk a e
def look (env:Env)(t:Nat):Option Ent:=env.find? (fun e=>e.slot==t)
def getOp (env:Env)(C:List (Nat×Bool)):Operand->Option Value
 | .tmp t=>match look env t with
  |some e=>if e.ch.isPrefixOf C then some e.val else none
  |none=>none
 | .const v=>some v
 | .func f=>some (.func (.func f) #[] #[])
 | .global g=>some (.pointer (some ⟨g,0,none⟩))
theorem look_ok {env:Env}{t:Nat}{e:Ent}(h:look env t=some e):e∈env/\e.slot=t:=
 ⟨List.mem_of_find?_eq_some h,by have:=List.find?_some h;simpa using this⟩
theorem chOk_prefix {a:Act}{C D:List (Nat×Bool)}(h:C.isPrefixOf D=true)(hd:chOk a D):chOk a C:=by
 obtain⟨t,rfl⟩:=List.isPrefixOf_iff_prefix.1 h
 exact fun l hl=>hd l (List.mem_append_left _ hl)
theorem getOp_ok {n:Nat}{a:Act}{env:Env}{C:List (Nat×Bool)}(ha:EnvOk n a env)(hC:chOk a C)(x:Operand)(u:Value)(h:getOp env C x=some u):a.eval x=u:=by
 cases x with
 |tmp t=>
  simp only[getOp] at h
  split at h
  .rename_i e he
   split at h
   .rename_i hp
    cases h
    obtain⟨h1,rfl⟩:=look_ok he
    have:=(ha.2.2 e h1).1 (chOk_prefix hp hC)
    simp only[Act.eval,Array.getD_eq_getD_getElem?,this,Option.getD_some]
   cases h
  cases h
 |const v=>cases h;rfl
 |func f=>cases h;rfl
 |global g=>cases h;rfl
def chainOf (ops:Array Oper)(env:Env)(o:Oper):Option (List (Nat×Bool)):=
 match o.guard with
 |none=>some []
 |some (i,b)=>match(ops[i]?).bind (·.dst) with
  |some j=>(look env j).map fun e=>e.ch++[(j,b)]
  |none=>none
def impl (env:Env):List (Nat×Bool)->Prop->Prop
 |[],p=>p
 |(j,b)::r,p=>match look env j with
  |some ⟨_,_,.bool c⟩=>c=b->impl env r p
  |_=>impl env r p
def evPick (env:Env)(C:List (Nat×Bool))(c x y:Operand):Option Value:=
 match c,getOp env C c with
 | .tmp t,some (.bool cb)=>match getOp env (C++[(t,true)]) x,getOp env (C++[(t,false)]) y with
  |some (.bool p),some (.bool q)=>match x,y with
   | .const (.bool true),_=>some (.bool (cb||q))
   |_,.const (.bool false)=>some (.bool (cb && p))
   |_,_=>some (.bool (bif cb then p else q))
  |_,_=>none
 |_,_=>none
def evStep (P:Program)(W:World->Prop)(n:Nat)(ops:Array Oper)(env:Env)(orc:List (Nat×Value))(o:Oper):Option (Env×Prop):=
 match chainOf ops env o,o.dst with
 |some C,some d=>
  if d<n/\C.all (fun l=>l.1 !=d)=true then
   match(match o.op with
    | .pick c x y=>(evPick env C c x y).map fun v=>(v,True)
    |op=>evOp P W (getOp env C) op (orc.lookup d)) with
   |some (v,p)=>some (⟨d,C,v⟩::env.filter (fun e=>e.slot !=d && e.ch.all (fun l=>l.1 !=d)),impl env C p)
   |none=>none
  else none
 |_,_=>none
def evRun (P:Program)(W:World->Prop)(n:Nat)(ops:Array Oper)(orc:List (Nat×Value)):List Oper->Env->Option (Env×Prop)
 |[],env=>some (env,True)
 |o::r,env=>match evStep P W n ops env orc o with
  |some (env',p)=>match evRun P W n ops orc r env' with
   |some (env'',q)=>some (env'',p/\q)
   |none=>none
  |none=>none
theorem litOk_put {a:Act}{l:Nat×Bool}{d:Nat}{v:Value}(h:l.1≠d):litOk (a.put (some d) v) l↔litOk a l:=by
 simp only[litOk,Act.put,Array.getElem?_setIfInBounds]
 rw[if_neg (fun e=>h e.symm)]
theorem chOk_put {a:Act}{C:List (Nat×Bool)}{d:Nat}{v:Value}(h:C.all (fun l=>l.1 !=d)=true):chOk (a.put (some d) v) C↔chOk a C:=by
 rw[List.all_eq_true] at h
 exact⟨fun hc l hl=>(litOk_put (by simpa using h l hl)).1 (hc l hl),fun hc l hl=>(litOk_put (by simpa using h l hl)).2 (hc l hl)⟩
theorem entOk_put {a:Act}{e:Ent}{d:Nat}{v:Value}(h:(e.slot !=d && e.ch.all (fun l=>l.1 !=d))=true)(he:EntOk a e):EntOk (a.put (some d) v) e:=by
 rw[Bool.and_eq_true] at h
 have hs:(a.put (some d) v).tmps[e.slot]?=a.tmps[e.slot]?:=by
  simp only[Act.put,Array.getElem?_setIfInBounds]
  rw[if_neg (fun q=>by simp[q] at h)]
 refine⟨fun hc=>?_,fun hc=>?_⟩
 .rw[hs];exact he.1 ((chOk_put h.2).1 hc)
 rw[hs];exact he.2 (fun k=>hc ((chOk_put h.2).2 k))
theorem envOk_put {n:Nat}{a:Act}{env:Env}{d:Nat}{C:List (Nat×Bool)}{v:Value}(ha:EnvOk n a env)(hd:d<n)(hC:C.all (fun l=>l.1 !=d)=true){u:Value}(hu:(chOk a C->u=v)/\(¬chOk a C->u=undef)):
  EnvOk n (a.put (some d) u) (⟨d,C,v⟩::env.filter (fun e=>e.slot !=d && e.ch.all (fun l=>l.1 !=d))):=by
 refine⟨by simp[Act.put,ha.1],ha.2.1,fun e he=>?_⟩
 rcases List.mem_cons.1 he with rfl|he
 .have hs:(a.put (some d) u).tmps[d]?=some u:=by
   simp only[Act.put,Array.getElem?_setIfInBounds,if_true]
   rw[if_pos (by rw[ha.1];exact hd)]
  refine⟨fun hc=>?_,fun hc=>?_⟩
  .show(a.put (some d) u).tmps[d]?=some v
   rw[hs,hu.1 ((chOk_put hC).1 hc)]
  show(a.put (some d) u).tmps[d]?=some undef
  rw[hs,hu.2 (fun k=>hc ((chOk_put hC).2 k))]
 obtain⟨h1,h2⟩:=List.mem_filter.1 he
 exact entOk_put h2 (ha.2.2 e h1)
theorem impl_elim {n:Nat}{a:Act}{env:Env}(ha:EnvOk n a env):∀ {C:List (Nat×Bool)} {p:Prop},impl env C p->chOk a C->p
 |[],p,h,_=>h
 |(j,b)::r,p,h,hc=>by
  have hr:chOk a r:=fun l hl=>hc l (List.mem_cons_of_mem _ hl)
  simp only[impl] at h
  split at h
  .rename_i s e c hl
   obtain⟨h1,h2⟩:=look_ok hl
   have hj:a.tmps[j]?=some (.bool b):=hc (j,b) List.mem_cons_self
   have he:=ha.2.2 _ h1
   simp only at h2
   subst h2
   have hch:chOk a e:=Classical.byContradiction fun hn=>by
    have:=he.2 hn
    simp only at this
    rw[hj] at this
    simp[undef] at this
   have hv:=he.1 hch
   simp only at hv
   rw[hj] at hv
   simp at hv
   exact impl_elim ha (h hv.symm) hr
  exact impl_elim ha h hr
theorem wanted_iff {n:Nat}{a:Act}{env:Env}{ops:Array Oper}{o:Oper}{C:List (Nat×Bool)}(ha:EnvOk n a env)(h:chainOf ops env o=some C):Region.wanted o (yielded ops a.tmps)=true↔chOk a C:=by
 unfold chainOf at h
 unfold Region.wanted
 split at h
 .rename_i hg
  cases h
  simp[hg,chOk]
 rename_i i b hg
 split at h
 .rename_i j hj
  obtain⟨e,he,rfl⟩:=Option.map_eq_some_iff.1 h
  obtain⟨h1,rfl⟩:=look_ok he
  have hen:=ha.2.2 e h1
  simp only[hg,beq_iff_eq]
  have hy:yielded ops a.tmps i=some b↔a.tmps[e.slot]?=some (.bool b):=by
   unfold yielded
   rw[hj]
   simp only[Option.bind_some]
   constructor
   .intro hh
    split at hh
    .rename_i c hc;cases hh;exact hc
    cases hh
   intro hh;rw[hh]
  rw[hy]
  constructor
  .intro hh l hl
   rcases List.mem_append.1 hl with hl|hl
   .have hch:chOk a e.ch:=Classical.byContradiction fun hn=>by
     have:=hen.2 hn
     rw[hh] at this
     simp[undef] at this
    exact hch l hl
   simp at hl;subst hl;exact hh
  intro hh
  exact hh (e.slot,b) (List.mem_append_right _ (by simp))
 cases h
theorem evPick_ok {P:Program}{W:World->Prop}{n:Nat}{a:Act}{env:Env}{C:List (Nat×Bool)}{o:Oper}{c x y:Operand}{v:Value}(ha:EnvOk n a env)(hC:chOk a C)(ho:o.op= .pick c x y)(h:evPick env C c x y=some v)(w:World):Oper.quietUpon P W w v ((execOp a.eval o).run P w):=by
 unfold evPick at h
 split at h
 .rename_i t cb hc
  split at h
  .rename_i p q hx hy
   have ec:=getOp_ok ha hC _ _ hc
   have key:∀r:Bool,(cb=true->r=p)->(cb=false->r=q)->v= .bool r->Oper.quietUpon P W w v ((execOp a.eval o).run P w):=by
    intro r h1 h2 hv
    subst hv
    have hlit:litOk a (t,cb):=by
     simp only[getOp] at hc
     split at hc
     .rename_i e he
      split at hc
      .rename_i hp
       obtain⟨m1,rfl⟩:=look_ok he
       have:=(ha.2.2 e m1).1 (chOk_prefix hp hC)
       have hv:=Option.some.inj hc
       unfold litOk
       rw[this,hv]
      cases hc
     cases hc
    simp only[execOp,ho,ec,asBool,Sem.run_bind,Sem.run_pure,Result.andThen_ok]
    cases cb with
    |true=>
     have ex:=getOp_ok ha (C:=C++[(t,true)]) (fun l hl=>by rcases List.mem_append.1 hl with hl|hl;exact hC l hl;simp at hl;subst hl;exact hlit) _ _ hx
     rw[h1 rfl]
     simp only[if_true,ex]
     exact⟨rfl,rfl⟩
    |false=>
     have ey:=getOp_ok ha (C:=C++[(t,false)]) (fun l hl=>by rcases List.mem_append.1 hl with hl|hl;exact hC l hl;simp at hl;subst hl;exact hlit) _ _ hy
     rw[h2 rfl]
     simp only[Bool.false_eq_true,if_false,ey]
     exact⟨rfl,rfl⟩
   split at h
   .cases h
    cases hx
    exact key _ (fun e=>by rw[e];simp) (fun e=>by rw[e];simp) rfl
   .cases h
    cases hy
    exact key _ (fun e=>by rw[e];simp) (fun e=>by rw[e];simp) rfl
   cases h
   exact key _ (fun e=>by rw[e];rfl) (fun e=>by rw[e];rfl) rfl
  cases h
 cases h
theorem evStep_ok {P:Program}{W:World->Prop}{n:Nat}{ops:Array Oper}{a:Act}{env env':Env}{orc:List (Nat×Value)}{o:Oper}{p:Prop}(ha:EnvOk n a env)
  (h:evStep P W n ops env orc o=some (env',p)) (hp:p) {Q:Act->Prop} (hQ:∀a',EnvOk n a' env'->Q a'):
  if Region.wanted o (yielded ops a.tmps) then o.quiet P a W Q else Q (a.put o.dst undef):=by
 unfold evStep at h
 split at h
 .rename_i C d hC hd
  split at h
  .rename_i hdn
   split at h
   .rename_i v p' hv
    cases h
    have hw:=wanted_iff ha hC
    by_cases hch:chOk a C
    .rw[if_pos (hw.2 hch)]
     have hp':=impl_elim ha hp hch
     refine⟨v,fun w hw=>?_,?_⟩
     .unfold Oper.quietAt
      split at hv
      .rename_i c x y ho
       obtain⟨u,hu,e⟩:=Option.map_eq_some_iff.1 hv
       cases e
       exact evPick_ok ha hch ho hu w
      exact evOp_ok (fun x u hx=>getOp_ok ha hch x u hx) hv hp' w hw
     rw[hd]
     exact hQ _ (envOk_put ha hdn.1 hdn.2 ⟨fun _=>rfl,fun hn=>(hn hch).elim⟩)
    rw[if_neg (fun hh=>hch (hw.1 hh)),hd]
    exact hQ _ (envOk_put ha hdn.1 hdn.2 ⟨fun hh=>(hch hh).elim,fun _=>rfl⟩)
   cases h
  cases h
 cases h
theorem evRun_ok {P:Program}{W:World->Prop}{n:Nat}{ops:Array Oper}{orc:List (Nat×Value)}:∀ {l:List Oper} {a:Act} {env env':Env} {p:Prop} (ha:EnvOk n a env)
  (h:evRun P W n ops orc l env=some (env',p)) (hp:p) {Q:Act->Prop} (hQ:∀a',EnvOk n a' env'->Q a'),wpQuiet P ops W Q l a
 |[],a,env,env',p,ha,h,hp,Q,hQ=>by
  simp only[evRun,Option.some.injEq,Prod.mk.injEq] at h
  obtain⟨rfl,rfl⟩:=h
  exact hQ a ha
 |o::r,a,env,env',p,ha,h,hp,Q,hQ=>by
  simp only[evRun] at h
  split at h
  .rename_i env1 p1 h1
   split at h
   .rename_i env2 q h2
    cases h
    exact evStep_ok ha h1 hp.1 (fun a' ha'=>evRun_ok ha' h2 hp.2 hQ)
   cases h
  cases h
def keepEnv (keep:List (Nat×Value)):Env:=keep.map fun x=>⟨x.1,[],x.2⟩
theorem keep_ok {n:Nat}{a:Act}{env:Env}(keep:List (Nat×Value))(ha:EnvOk n a env)(h:∀x∈keep,look env x.1=some ⟨x.1,[],x.2⟩):EnvOk n a (keepEnv keep):=by
 refine⟨ha.1,ha.2.1,fun e he=>?_⟩
 obtain⟨x,hx,rfl⟩:=List.mem_map.1 he
 exact ha.2.2 _ (look_ok (h x hx)).1
def sub:Code->List Nat->Code
 |c,[]=>c
 | .seq x y,k::p=>if k=0 then sub x p else sub y p
 | .cond _ x y,k::p=>if k=0 then sub x p else sub y p
 | .block _ b,_::p=>sub b p
 | .loop b,_::p=>sub b p
 | .scope b,_::p=>sub b p
 | .rangeFunc _ _ x y,k::p=>if k=0 then sub x p else sub y p
 |_,_::_=>.skip
def isSeq:Code->Bool| .seq _ _=>true|_=>false
def isLoop:Code->Bool| .loop _=>true|_=>false
def isRet:Code->Bool| .ret=>true|_=>false
def isSkip:Code->Bool| .skip=>true|_=>false
def condOf:Code->Option Operand| .cond c _ _=>some c|_=>none
def blockOf:Code->Option Nat| .block i _=>some i|_=>none
def exitOf:Code->Option Nat| .exit i=>some i|_=>none
def drawOf:Code->Option Bool| .region _ _ d=>some d|_=>none
def opsOf:Code->Array Oper| .region _ o _=>o|_=> #[]
theorem sub_nil (c:Code):sub c []=c:=by cases c<;>rfl
theorem sub_seq0 (x y:Code):sub (.seq x y) [0]=x:=by simp only[sub];cases x<;>rfl
theorem sub_seq1 (x y:Code):sub (.seq x y) [1]=y:=by simp only[sub];cases y<;>rfl
theorem sub_cond0 (c:Operand)(x y:Code):sub (.cond c x y) [0]=x:=by simp only[sub];cases x<;>rfl
theorem sub_cond1 (c:Operand)(x y:Code):sub (.cond c x y) [1]=y:=by simp only[sub];cases y<;>rfl
theorem sub_block0 (i:Nat)(x:Code):sub (.block i x) [0]=x:=by simp only[sub]
theorem sub_loop0 (x:Code):sub (.loop x) [0]=x:=by simp only[sub]
theorem sub_snoc (k:Nat):∀(p:List Nat) (B:Code),sub B (p++[k])=sub (sub B p) [k]
 |[],B=>by cases B<;>rfl
 |j::p,B=>by
  cases B with
  |seq x y=>simp only[List.cons_append,sub];split<;>exact sub_snoc k p _
  |cond c x y=>simp only[List.cons_append,sub];split<;>exact sub_snoc k p _
  |block i b=>exact sub_snoc k p b
  |loop b=>exact sub_snoc k p b
  |scope b=>exact sub_snoc k p b
  |rangeFunc f ps x y=>simp only[List.cons_append,sub];split<;>exact sub_snoc k p _
  |_=>rfl
abbrev Post:=Exit->Act->World->Prop
theorem least_of {p:Nat->Prop}:∀n,p n->∃m,p m/\∀k,p k->m<=k:=by
 intro n
 induction n using Nat.strongRecOn with
 |_ n ih=>
  intro hn
  by_cases h:∃k,k<n/\p k
  .obtain⟨k,hk,hpk⟩:=h;exact ih k hk hpk
  exact⟨n,hn,fun k hk=>Nat.le_of_not_lt fun hlt=>h ⟨k,hlt,hk⟩⟩
section
variable {P:Program}{B:Code}{p:List Nat}{Q:Post}{a:Act}{w:World}
theorem go_seq (k:∀K:Act->World->Prop,(∀a w,(sub B (p++[1])).wp P Q a w->K a w)->(sub B (p++[0])).wp P (Exit.then K Q) a w)(h:isSeq (sub B p)=true:=by kernel_rfl):(sub B p).wp P Q a w:=by
 cases hc:sub B p<;>rw[hc] at h<;>first|(cases h;done)|skip
 rename_i x y
 refine wp_seq_k fun K hK=>?_
 have:=k K (fun a w h=>hK a w (by rw[sub_snoc,hc,sub_seq1] at h;exact h))
 rw[sub_snoc,hc,sub_seq0] at this
 exact this
theorem go_cond {n:Nat}{env:Env}(ha:EnvOk n a env)(c:Operand)(b:Bool)
  (ht:b=true->(sub B (p++[0])).wp P Q a w) (hf:b=false->(sub B (p++[1])).wp P Q a w) (h:condOf (sub B p)=some c:=by kernel_rfl) (hb:getOp env [] c=some (.bool b):=by kernel_rfl):(sub B p).wp P Q a w:=by
 cases hc:sub B p<;>rw[hc] at h<;>first|(cases h;done)|skip
 rename_i c' x y
 simp only[condOf,Option.some.injEq] at h
 subst h
 refine wp_cond_split (getOp_ok ha (fun _ hl=>by simp at hl) _ _ hb) (fun e=>?_) (fun e=>?_)
 .have:=ht e;rw[sub_snoc,hc,sub_cond0] at this;exact this
 have:=hf e;rw[sub_snoc,hc,sub_cond1] at this;exact this
theorem go_block (i:Nat)(k:(sub B (p++[0])).wp P (Exit.inBlock i Q) a w)(h:blockOf (sub B p)=some i:=by kernel_rfl):(sub B p).wp P Q a w:=by
 cases hc:sub B p<;>rw[hc] at h<;>first|(cases h;done)|skip
 rename_i j b
 simp only[blockOf,Option.some.injEq] at h
 subst h
 rw[sub_snoc,hc,sub_block0] at k
 exact wp_block k
theorem go_exit (i:Nat)(k:Q (.exit i) a w)(h:exitOf (sub B p)=some i:=by kernel_rfl):(sub B p).wp P Q a w:=by
 cases hc:sub B p<;>rw[hc] at h<;>first|(cases h;done)|skip
 simp only[exitOf,Option.some.injEq] at h
 subst h
 exact wp_exit k
theorem go_ret_ (k:Q .ret a w)(h:isRet (sub B p)=true:=by kernel_rfl):(sub B p).wp P Q a w:=by
 cases hc:sub B p<;>rw[hc] at h<;>first|(cases h;done)|skip
 exact wp_ret k
theorem go_skip (k:Q .normal a w)(h:isSkip (sub B p)=true:=by kernel_rfl):(sub B p).wp P Q a w:=by
 cases hc:sub B p<;>rw[hc] at h<;>first|(cases h;done)|skip
 exact wp_skip k
theorem go_loop_ (X:Type)(I:X->Act->World->Prop)(μ:X->Nat)(x0:X)(h0:I x0 a w)
  (round:∀x a w,I x a w->(sub B (p++[0])).wp P (Exit.then (fun a' w'=> ∃x',I x' a' w'/\μ x'<μ x) Q) a w) (h:isLoop (sub B p)=true:=by kernel_rfl):(sub B p).wp P Q a w:=by
 cases hc:sub B p<;>rw[hc] at h<;>first|(cases h;done)|skip
 rename_i b
 rw[sub_snoc,hc,sub_loop0] at round
 classical
 have hL:∀a w,(∃x,I x a w)->∃m,(∃x,I x a w/\μ x=m)/\∀k,(∃x,I x a w/\μ x=k)->m<=k:=fun a w ⟨x,hx⟩=>least_of (p:=fun m=> ∃x,I x a w/\μ x=m) (μ x) ⟨x,hx,rfl⟩
 let m:Act->World->Nat:=fun a w=>if h:∃x,I x a w then Classical.choose (hL a w h) else 0
 have hm:∀a w,(∃x,I x a w)->(∃x,I x a w/\μ x=m a w)/\∀k,(∃x,I x a w/\μ x=k)->m a w<=k:=by
  intro a w h
  have:=Classical.choose_spec (hL a w h)
  simp only[m,dif_pos h]
  exact this
 refine wp_loop (fun a w=> ∃x,I x a w) m ⟨x0,h0⟩ fun a w hI=>?_
 obtain⟨⟨x,hx,hmx⟩,_⟩:=hm a w hI
 refine wp_mono (round x a w hx) fun e a' w' q=>?_
 cases e with
 |normal=>
  obtain⟨x',hx',hlt⟩:=q
  refine⟨⟨x',hx'⟩,?_⟩
  have:=(hm a' w' ⟨x',hx'⟩).2 (μ x') ⟨x',hx',rfl⟩
  omega
 |_=>exact q
abbrev On (w:World):World->Prop:=fun w'=>Below w.heap.size w w'
theorem On.self (w:World):On w w:=Below.refl _ _
theorem region_list (k:wpList P (opsOf (sub B p)) Q ((opsOf (sub B p)).toList.drop 0) a w)(hd:drawOf (sub B p)=some false:=by kernel_rfl):(sub B p).wp P Q a w:=by
 cases hc:sub B p<;>rw[hc] at hd<;>first|(cases hd;done)|skip
 rename_i id ops d
 simp only[drawOf,Option.some.injEq] at hd
 subst hd
 rw[hc] at k
 exact wp_region_list k
theorem wpList_quiet {ops:Array Oper}{C:World->Prop}{K:Act->Prop}{rest:List Oper}:∀(l:List Oper) (a:Act) (w:World),C w->wpQuiet P ops C K l a->(∀a' w',C w'->K a'->wpList P ops Q rest a' w')->wpList P ops Q (l++rest) a w
 |[],a,w,hw,h,k=>k a w hw h
 |o::l,a,w,hw,h,k=>by
  simp only[wpQuiet] at h
  simp only[List.cons_append,wpList]
  split
  .rename_i hwant
   rw[if_pos hwant] at h
   exact .inl (Oper.wp_of_quiet hw (fun a' w' hw' hK=>wpList_quiet l a' w' hw' hK k) h)
  rename_i hwant
  rw[if_neg hwant] at h
  exact wpList_quiet l _ w hw h k
theorem list_q {ops:Array Oper}{n i m:Nat}{env env':Env}{pr:Prop}(orc:List (Nat×Value))(keep:List (Nat×Value))(ha:EnvOk n a env)
  (h:evRun P (On w) n ops orc ((ops.toList.drop i).take m) env=some (env',pr)) (hk:∀x∈keep,look env' x.1=some ⟨x.1,[],x.2⟩) (hp:pr)
  (k:∀a' w',EnvOk n a' (keepEnv keep)->Below w.heap.size w w'->wpList P ops Q (ops.toList.drop (i+m)) a' w'):wpList P ops Q (ops.toList.drop i) a w:=by
 have:=wpList_quiet (P:=P) (Q:=Q) (rest:=ops.toList.drop (i+m)) (K:=fun a'=>EnvOk n a' (keepEnv keep)) ((ops.toList.drop i).take m) a w (On.self w) (evRun_ok ha h hp fun a' ha'=>keep_ok keep ha' hk) (fun a' w' hw' ha'=>k a' w' ha' hw')
 rw[<-List.drop_drop,List.take_append_drop] at this
 exact this
theorem list_end {ops:Array Oper}{i:Nat}(k:Q .normal a w)(h:decide (ops.size<=i)=true:=by kernel_rfl):wpList P ops Q (ops.toList.drop i) a w:=by
 rw[List.drop_of_length_le (by simpa using of_decide_eq_true h)]
 exact k
def opAt (ops:Array Oper)(i:Nat):Option (Op×Option Tmp×Option (Nat×Bool)):=(ops.toList[i]?).map fun o=>(o.op,o.dst,o.guard)
theorem op_at {ops:Array Oper}{i:Nat}{op:Op}{dst:Option Tmp}{R:Act->World->Prop}(h:opAt ops i=some (op,dst,none))
  (k:∀o:Oper,o.op=op->o.dst=dst->o.wp P a w R Q):wpOp P ops Q i R a w:=by
 obtain⟨o,ho,he⟩:=Option.map_eq_some_iff.1 h
 simp only[Prod.mk.injEq] at he
 obtain⟨h1,h2,h3⟩:=he
 have ho':ops[i]?=some o:=by simpa using ho
 unfold wpOp
 simp only[ho',Region.wanted,h3,if_true]
 exact .inl (k o h1 h2)
theorem list_at {ops:Array Oper}(i:Nat)(h:wpOp P ops Q i (wpList P ops Q (ops.toList.drop (i+1))) a w)(hi:decide (i<ops.size)=true:=by kernel_rfl):wpList P ops Q (ops.toList.drop i) a w:=by
 have hi':i<ops.toList.length:=by rw[Array.length_toList];exact of_decide_eq_true hi
 rw[List.drop_eq_getElem_cons hi']
 have ho:ops[i]?=some ops.toList[i]:=by simp[List.getElem?_eq_getElem hi']
 unfold wpOp at h
 simp only[ho] at h
 simp only[wpList]
 exact h
theorem env_set {n d:Nat}{v:Value}(keep:List (Nat×Value)){env:Env}(ha:EnvOk n a env)(hd:d<n)(hk:∀x∈keep,x.1≠d/\look env x.1=some ⟨x.1,[],x.2⟩):EnvOk n (a.put (some d) v) (keepEnv ((d,v)::keep)):=by
 refine⟨by simp[Act.put,ha.1],ha.2.1,fun e he=>?_⟩
 obtain⟨x,hx,rfl⟩:=List.mem_map.1 he
 rcases List.mem_cons.1 hx with rfl|hx
 .have hs:(a.put (some d) v).tmps[d]?=some v:=by
   simp only[Act.put,Array.getElem?_setIfInBounds,if_true]
   rw[if_pos (by rw[ha.1];exact hd)]
  exact⟨fun _=>hs,fun hn=>(hn (fun l hl=>by simp at hl)).elim⟩
 obtain⟨h1,h2⟩:=hk x hx
 have:=ha.2.2 _ (look_ok h2).1
 exact entOk_put (by simpa using h1) this
theorem ret_one {fn:Func}{R:Ending->World->Prop}{n:Nat}{env:Env}(t:Nat)(v:Value)(ha:EnvOk n a env)(k:R (.returned v) w)(hr:fn.results= #[.tmp t]:=by kernel_rfl)(hv:getOp env [] (.tmp t)=some v:=by kernel_rfl):bodyPost P fn R .ret a w:=by
 have hnil:chOk a []:=fun l hl=>by simp at hl
 refine bodyPost_ret (v:=v) ?_ ha.2.1 k
 rw[results_tmp hr]
 have:=getOp_ok ha hnil _ _ hv
 simp only[Act.eval] at this
 rw[this]
theorem ret_two {fn:Func}{R:Ending->World->Prop}{n:Nat}{env:Env}(t1 t2:Nat)(v1 v2:Value)(ha:EnvOk n a env)(k:R (.returned (.tuple #[v1,v2])) w)(hr:fn.results= #[.tmp t1,.tmp t2]:=by kernel_rfl)(hv1:getOp env [] (.tmp t1)=some v1:=by kernel_rfl)(hv2:getOp env [] (.tmp t2)=some v2:=by kernel_rfl):bodyPost P fn R .ret a w:=by
 have hnil:chOk a []:=fun l hl=>by simp at hl
 refine bodyPost_ret (v:=.tuple #[v1,v2]) ?_ ha.2.1 k
 rw[results_tmp2 hr]
 have h1:=getOp_ok ha hnil _ _ hv1
 have h2:=getOp_ok ha hnil _ _ hv2
 simp only[Act.eval] at h1 h2
 rw[h1,h2]
theorem enter {f:FuncId}(fn:Func)(n:Nat){args:List Value}{R:Ending->World->Prop}(hf:P.funcs[f]?=some fn)
  (k:∀a,EnvOk n a (keepEnv ((List.range args.length).zip args))->(sub (fn.body.getD .skip) []).wp P (bodyPost P fn R) a w) (hb:fn.body.isSome=true:=by kernel_rfl) (hn:fn.ntmps=n:=by kernel_rfl) (hl:decide (args.length<=n)=true:=by kernel_rfl):Calls P f args.toArray w R:=by
 obtain⟨B,hb⟩:=Option.isSome_iff_exists.1 hb
 rw[hb] at k
 have hl:=of_decide_eq_true hl
 refine calls_of_wp hf hb ?_
 rw[<-sub_nil B]
 refine k _ ⟨?_,rfl,fun e he=>?_⟩
 .simp;omega
 obtain⟨x,hx,rfl⟩:=List.mem_map.1 he
 obtain⟨j,hj,rfl⟩:=List.getElem_of_mem hx
 have hj':j<args.length:=by simp at hj;exact hj
 refine⟨fun _=>?_,fun hn=>(hn (fun l hl=>by simp at hl)).elim⟩
 simp only[List.getElem_zip,List.getElem_range]
 rw[Array.getElem?_append_left (by simpa using hj')]
 simp[hj']
end
def RunOk (P:Program)(W:World->Prop)(n:Nat)(ops:Array Oper)(orc:List (Nat×Value))(l:List Oper)(env:Env)(keep:List (Nat×Value))(pr:Prop):Prop:=
 ∃env',evRun P W n ops orc l env=some (env',pr)/\∀x∈keep,look env' x.1=some ⟨x.1,[],x.2⟩
theorem looks_of {env:Env}:∀ {keep:List (Nat×Value)},(keep.map fun x=>look env x.1)=(keep.map fun x=>some ⟨x.1,[],x.2⟩)->∀x∈keep,look env x.1=some ⟨x.1,[],x.2⟩
 |[],_,x,hx=>by simp at hx
 |y::r,h,x,hx=>by
  simp only[List.map_cons,List.cons.injEq] at h
  rcases List.mem_cons.1 hx with rfl|hx
  .exact h.1
  exact looks_of h.2 x hx
abbrev RunEq (P:Program)(W:World->Prop)(n:Nat)(ops:Array Oper)(orc:List (Nat×Value))(l:List Oper)(env:Env)(keep:List (Nat×Value))(pr:Prop):Prop:=
 (evRun P W n ops orc l env).map (fun r=>((keep.map fun x=>look r.1 x.1),r.2))=some ((keep.map fun x=>some ⟨x.1,[],x.2⟩),pr)
theorem runOk_of {P:Program}{W:World->Prop}{n:Nat}{ops:Array Oper}{orc:List (Nat×Value)}{l:List Oper}{env:Env}{keep:List (Nat×Value)}{pr:Prop}
  (h:RunEq P W n ops orc l env keep pr):RunOk P W n ops orc l env keep pr:=by
 obtain⟨⟨env',p⟩,h1,h2⟩:=Option.map_eq_some_iff.1 h
 simp only[Prod.mk.injEq] at h2
 obtain⟨h2,rfl⟩:=h2
 exact⟨env',h1,looks_of h2⟩
theorem callable_of {P:Program} {f:FuncId} (h:(P.funcs[f]?).map (fun fn=>((fn.name== "runtime.NumGoroutine")||fn.body.isNone))=some false:=by kernel_rfl):Callable P f:=by
 obtain⟨fn,h1,h2⟩:=Option.map_eq_some_iff.1 h
 simp only[Bool.or_eq_false_iff] at h2
 exact⟨fn,h1,h2.1,h2.2⟩
abbrev Ans (v:Value)(w:World):Ending->World->Prop:=fun e w'=>e= .returned v/\Below w.heap.size w w'
theorem callOk_of {P:Program}{w:World}{f:FuncId}{args:Array Value}{v:Value}(h:∀w',Below w.heap.size w w'->Calls P f args w' (Ans v w')):CallOk P (On w) f args v:=
 fun w' hw'=>(h w' hw').mono fun e w'' ⟨he,hb⟩=>⟨he,hw'.trans (hb.mono hw'.size)⟩
theorem str_T {a b:ByteArray}(h:(a.toList==b.toList)=true):a=b:=by
 have:=beq_iff_eq.1 h
 rw[ByteArray.toList_eq,ByteArray.toList_eq] at this
 cases a;cases b
 congr 1
 exact Array.ext' this
theorem nT {b:Bool}(h:(!b)=true):b=false:=by simpa using h
theorem nF {b:Bool}(h:(!b)=false):b=true:=by simpa using h
theorem aT {a b:Bool}(h:(a && b)=true):a=true/\b=true:=by simpa using h
theorem aF {a b:Bool}(h:(a && b)=false):a=false\/b=false:=by cases a<;>simp_all
theorem oT {a b:Bool}(h:(a||b)=true):a=true\/b=true:=by simpa using h
theorem oF {a b:Bool}(h:(a||b)=false):a=false/\b=false:=by simpa using h
section
variable {P:Program}{B:Code}{p:List Nat}{Q:Post}{a:Act}{w:World}
theorem q_list0 {ops:Array Oper}{n:Nat}{env:Env}{w0:Orig}{S:Stab}{rs:List Res}(i m:Nat)(orc:List (Nat×Value))(keep:List (Nat×Value))(pr:Prop)(ha:EnvOk n a env)(H:Fr w0 w S rs)(hp:pr)
  (h:RunOk P (On w) n ops orc ((ops.toList.drop i).take m) env keep pr)
  (k:∀a' w',EnvOk n a' (keepEnv keep)->Fr w0 w' S rs->Below w.heap.size w w'->wpList P ops Q (ops.toList.drop (i+m)) a' w'):wpList P ops Q (ops.toList.drop i) a w:=
 let⟨_,h1,h2⟩:=h
 list_q orc keep ha h1 h2 hp fun a' w' h1 h2=>k a' w' h1 (H.on h2) h2
theorem q_list {ops:Array Oper}{n:Nat}{env:Env}{w0:Orig}{S:Stab}{rs:List Res}(i m:Nat)(orc:List (Nat×Value))(keep:List (Nat×Value))(pr:Prop)(ha:EnvOk n a env)(H:Fr w0 w S rs)(hp:pr)
  (k:∀a' w',EnvOk n a' (keepEnv keep)->Fr w0 w' S rs->Below w.heap.size w w'->wpList P ops Q (ops.toList.drop (i+m)) a' w')
  (h:RunEq P (On w) n ops orc ((ops.toList.drop i).take m) env keep pr:=by delta RunEq;kernel_rfl):wpList P ops Q (ops.toList.drop i) a w:=
 q_list0 i m orc keep pr ha H hp (runOk_of h) k
theorem q_reg {n:Nat}{env:Env}{w0:Orig}{S:Stab}{rs:List Res}(orc:List (Nat×Value))(keep:List (Nat×Value))(pr:Prop)(ha:EnvOk n a env)(H:Fr w0 w S rs)(hp:pr)
  (k:∀a' w',EnvOk n a' (keepEnv keep)->Fr w0 w' S rs->Below w.heap.size w w'->Q .normal a' w') (hd:drawOf (sub B p)=some false:=by kernel_rfl)
  (h:RunEq P (On w) n (opsOf (sub B p)) orc (opsOf (sub B p)).toList env keep pr:=by delta RunEq;kernel_rfl):(sub B p).wp P Q a w:=by
 refine region_list ?_ hd
 refine q_list0 0 (opsOf (sub B p)).toList.length orc keep pr ha H hp ?_ fun a' w' h1 h2 h3=>?_
 .rw[List.drop_zero,List.take_length];exact runOk_of h
 exact list_end (k a' w' h1 h2 h3) (by simp)
abbrev KeepEq (n d:Nat)(env:Env)(keep:List (Nat×Value)):Prop:=(decide (d<n),keep.map fun x=>(x.1 !=d,look env x.1))=(true,keep.map fun x=>(true,some ⟨x.1,[],x.2⟩))
theorem env_put {n d:Nat}{v:Value}{o:Oper}(keep:List (Nat×Value)){env:Env}(ha:EnvOk n a env)(hdst:o.dst=some d)(hk:KeepEq n d env keep):EnvOk n (a.put o.dst v) (keepEnv ((d,v)::keep)):=by
 rw[hdst]
 obtain⟨hd,hk⟩:=Prod.mk.inj hk
 refine env_set keep ha (of_decide_eq_true hd) fun y hy=>?_
 have:=List.map_inj_left.1 hk y hy
 simp only[Prod.mk.injEq,bne_iff_ne,ne_eq] at this
 exact this
theorem env_sub {n:Nat}{env:Env}(keep:List (Nat×Value))(ha:EnvOk n a env)(h:(keep.map fun x=>look env x.1)=(keep.map fun x=>some ⟨x.1,[],x.2⟩):=by kernel_rfl):EnvOk n a (keepEnv keep):=
 keep_ok keep ha (looks_of h)
theorem q_range {ops:Array Oper}{N:Act->World->Prop}{n:Nat}{env:Env}(i d:Nat)(t:TypeId)(x:Operand)(s:ByteArray){w0:Orig}{S:Stab}{rs:List Res}(keep:List (Nat×Value))(ha:EnvOk n a env)(H:Fr w0 w S rs)
  (ht:P.underlying t=some .string)
  (k:∀b a' w',Fr w0 w' S (.iter b s 0::rs)->EnvOk n a' (keepEnv ((d,.pointer (some ⟨b,0,none⟩))::keep))->Below w.heap.size w w'->w.heap.size<=b->N a' w')
  (h:opAt ops i=some (.range t x,some d,none):=by kernel_rfl) (hx:getOp env [] x=some (.string s):=by kernel_rfl) (hk:KeepEq n d env keep:=by delta KeepEq;kernel_rfl):wpOp P ops Q i N a w:=by
 refine op_at h fun o ho hdst=>?_
 have e:(execOp a.eval o).run P w= .ok (.value (.pointer (some ⟨w.heap.size,0,none⟩))) (w.iter s 0):=by
  simp only[execOp,ho,getOp_ok ha (fun l hl=>by simp at hl) _ _ hx,Sem.run_bind,run_range_string w t s ht]
  rfl
 unfold Oper.wp
 rw[e,Oper.upon_value]
 exact k w.heap.size _ _ (H.newIter s) (env_put keep ha hdst hk) (below_new _ _) (Nat.le_refl _)
theorem q_next {ops:Array Oper}{N:Act->World->Prop}{n:Nat}{env:Env}{w0:Orig}{S:Stab}{rs:List Res}(i d:Nat)(x:Operand)(j b:Nat)(s:ByteArray)(pos:Nat)(keep:List (Nat×Value))(ha:EnvOk n a env)(H:Fr w0 w S rs)
  (hj:rs[j]?=some (.iter b s pos))
  (kt:pos<s.size->∀a' w',Fr w0 w' S (rs.set j (.iter b s (pos+(Utf8.decode s pos).2)))->EnvOk n a' (keepEnv ((d,.tuple #[.bool true,.int .i64 pos,.int .i32 (Utf8.decode s pos).1])::keep))->w.grownBy w' (some b)->N a' w')
  (kf:¬pos<s.size->∀a',EnvOk n a' (keepEnv ((d,.tuple #[.bool false])::keep))->N a' w)
  (h:opAt ops i=some (.next x true,some d,none):=by kernel_rfl) (hx:getOp env [] x=some (.pointer (some ⟨b,0,none⟩)):=by kernel_rfl) (hk:KeepEq n d env keep:=by delta KeepEq;kernel_rfl):wpOp P ops Q i N a w:=by
 refine op_at h fun o ho hdst=>?_
 have hit:=H.iter_at j hj
 have hset:∀ {v:Value},EnvOk n (a.put o.dst v) (keepEnv ((d,v)::keep)):=by
  intro v
  exact env_put keep ha hdst hk
 unfold Oper.wp
 by_cases hp:pos<s.size
 .have e:(execOp a.eval o).run P w= .ok (.value (.tuple #[.bool true,.int .i64 pos,.int .i32 (Utf8.decode s pos).1])) (w.iterAt b s (pos+(Utf8.decode s pos).2)):=by
   simp only[execOp,ho,getOp_ok ha (fun l hl=>by simp at hl) _ _ hx,Sem.run_bind,Lib.run_next_any_at w b s pos o.type hit hp]
   rfl
  rw[e,Oper.upon_value]
  exact kt hp _ _ (H.next j hj _) hset ⟨rfl,rfl,rfl,by rw[Lib.iterAt_size];exact Nat.le_refl _,fun k hk hne=>Lib.iterAt_other w b k s _ (fun e=>hne (by rw[e]))⟩
 have e:(execOp a.eval o).run P w= .ok (.value (.tuple #[.bool false])) w:=by
  simp only[execOp,ho,getOp_ok ha (fun l hl=>by simp at hl) _ _ hx,Sem.run_bind,Lib.run_next_end_at w b s pos o.type hit hp]
  rfl
 rw[e,Oper.upon_value]
 exact kf hp _ hset
end
theorem width_pos (s:ByteArray)(pos:Nat)(h:pos<s.size):1<=(Utf8.decode s pos).2:=by
 by_cases ha:(s[pos]'h).toNat<128
 .rw[decode_ascii s pos h ha]
  exact Nat.le_refl _
 exact(decode_high s pos h (by omega)).2
section
variable {P:Program}
theorem slice_str_lh {t:TypeId}{s:ByteArray}{k k':IntKind}{l h:Int}(ht:P.underlying t=some .string)(w:World)(h0:0<=l)(h1:l<=h)(h2:h<=s.size):
  (Instr.sliceAt t (.string s) (some (.int k l)) (some (.int k' h)) none).run P w= .ok (.string (s.extract l.toNat h.toNat)) w:=by
 have a:(Instr.sliceBound (.int k' h) s.size .sliceAlen).run P w= .ok h.toNat w:=run_sliceBound _ _ _ _ _ (by omega) h2
 have b:(Instr.sliceBound (.int k l) h.toNat .sliceB).run P w= .ok l.toNat w:=run_sliceBound _ _ _ _ _ h0 (by omega)
 simp[Instr.sliceAt,Instr.slice,run_underlying ht,Instr.sliceBounds,a,b]
theorem slice_str_l {t:TypeId}{s:ByteArray}{k:IntKind}{l:Int}(ht:P.underlying t=some .string)(w:World)(h0:0<=l)(h1:l<=s.size):
  (Instr.sliceAt t (.string s) (some (.int k l)) none none).run P w= .ok (.string (s.extract l.toNat s.size)) w:=by
 have b:(Instr.sliceBound (.int k l) s.size .sliceB).run P w= .ok l.toNat w:=run_sliceBound _ _ _ _ _ h0 h1
 simp[Instr.sliceAt,Instr.slice,run_underlying ht,Instr.sliceBounds,b]
theorem Fr.drop {w0:Orig}{w:World}{S:Stab}{rs:List Res}(h:Fr w0 w S rs)(i:Nat):Fr w0 w S (rs.eraseIdx i) where
 below:=h.below
 src:=h.src
 inb:=h.inb
 ok r hr:=h.ok r (List.mem_of_mem_eraseIdx hr)
 own r hr:=h.own r (List.mem_of_mem_eraseIdx hr)
 nodup:=List.Nodup.sublist ((List.eraseIdx_sublist rs i).filterMap _) h.nodup
theorem Fr.perm {w0:Orig}{w:World}{S:Stab}{rs rs':List Res}(h:Fr w0 w S rs)(hp:rs.Perm rs'):Fr w0 w S rs' where
 below:=h.below
 src:=h.src
 inb:=h.inb
 ok r hr:=h.ok r (hp.mem_iff.2 hr)
 own r hr:=h.own r (hp.mem_iff.2 hr)
 nodup:=(hp.filterMap _).nodup_iff.1 h.nodup
theorem Fr.swap {w0:Orig}{w:World}{S:Stab}{a b:Res}{rs:List Res}(h:Fr w0 w S (a::b::rs)):Fr w0 w S (b::a::rs):=h.perm (List.Perm.swap b a rs)
theorem Fr.same {w0:Orig}{w:World}{S:Stab}{rs rs':List Res}(h:Fr w0 w S rs)(e:rs=rs'):Fr w0 w S rs':=e▸h
variable {B:Code}{p:List Nat}{Q:Post}{a:Act}{w:World}
theorem q_lit {ops:Array Oper}{N:Act->World->Prop}{n:Nat}{env:Env}{w0:Orig}{S:Stab}{rs:List Res}(i d:Nat)(t len:Nat)(parts:Array (Nat×Operand))(e:TypeId)(vals:List (Nat×Value))(cs:List Value)(keep:List (Nat×Value))(ha:EnvOk n a env)(H:Fr w0 w S rs)
  (k:∀b a' w',Fr w0 w' S (.box b e cs::rs)->EnvOk n a' (keepEnv ((d,.slice (some ⟨b,0,none⟩) len len)::keep))->Below w.heap.size w w'->w.heap.size<=b->N a' w')
  (h:opAt ops i=some (.buildSlice t len parts,some d,none):=by kernel_rfl) (hv:parts.toList.mapM (fun x=>(getOp env [] x.2).map fun v=>(x.1,v))=some vals:=by kernel_rfl)
  (hrun:∀w:World,(Instr.buildSlice t len vals.toArray).run P w= .ok (.slice (some ⟨w.heap.size,0,none⟩) len len) (w.alloc (.cells cs.toArray e)):=by intro w;kernel_rfl)
  (hk:KeepEq n d env keep:=by delta KeepEq;kernel_rfl):wpOp P ops Q i N a w:=by
 refine op_at h fun o ho hdst=>?_
 have e1:parts.map (fun x=>(x.1,a.eval x.2))=vals.toArray:=by
  have:=parts_of (ρ:=a.eval) (fun x u hx=>getOp_ok ha (fun l hl=>by simp at hl) x u hx) parts.toList vals hv
  rw[<-this]
  apply Array.ext'
  rw[Array.toList_map]
 have e2:(execOp a.eval o).run P w= .ok (.value (.slice (some ⟨w.heap.size,0,none⟩) len len)) (w.alloc (.cells cs.toArray e)):=by
  have:=hrun w
  rw[<-e1] at this
  simp only[execOp,ho,Sem.run_bind]
  rw[show(Array.map (fun x=>match x with|(i,x)=>(i,a.eval x)) parts)=parts.map (fun x=>(x.1,a.eval x.2)) from rfl,this]
  rfl
 unfold Oper.wp
 rw[e2,Oper.upon_value]
 exact k w.heap.size _ _ (H.newBox cs e) (env_put keep ha hdst hk) (below_new _ _) (Nat.le_refl _)
theorem q_push {ops:Array Oper}{N:Act->World->Prop}{n:Nat}{env:Env}{t e:TypeId}{α:Type}[Data α]{bytes:Nat}{w0:Orig}{S:Stab}{rs:List Res}(i d:Nat)(x y:Operand)(j q b m c:Nat)(v:Value)(l:List α)(news:List α)(cs:List Value)(keep:List (Nat×Value))(ha:EnvOk n a env)(H:Fr w0 w S rs)
  (E:Elem P t e (Data.size α) bytes)
  (hj:rs[j]?=some (.row e v l)) (hq:rs[q]?=some (.box b e cs)) (hrd:RowRd S w cs news) (hm:m=news.length)
  (hlen:l.length+news.length<=2147483647) (hb:bytes<=1000)
  (k:∀v' a' w',Fr w0 w' S (rs.set j (.row e v' (l++news)))->EnvOk n a' (keepEnv ((d,v')::keep))->w.grownBy w' v.ownBlock->N a' w')
  (h:opAt ops i=some (.call {callee:=.builtin .append,args:= #[x,y],argTypes:= #[t,t]},some d,none):=by kernel_rfl) (hx:getOp env [] x=some v:=by kernel_rfl) (hy:getOp env [] y=some (.slice (some ⟨b,0,none⟩) m c):=by kernel_rfl)
  (hk:KeepEq n d env keep:=by delta KeepEq;kernel_rfl):wpOp P ops Q i N a w:=by
 subst hm
 refine op_at h fun o ho hdst=>?_
 have hnil:chOk a []:=fun l hl=>by simp at hl
 have hbox:w.heap[b]?=some (.cells cs.toArray e (0,0)):=H.ok _ (List.mem_of_getElem? hq)
 have hnew:∀r u,cs[r]?=some u->w.cell? ((⟨b,0,none⟩:Addr).add r)=some u:=by
  intro r u hu
  have hadd:(⟨b,0,none⟩:Addr).add r=⟨b,r,none⟩:=by unfold Addr.add;split<;>simp_all
  rw[hadd,cell_of_row _ _ _ _ _ _ hbox]
  simpa using hu
 obtain⟨v',w',hr,hf,hG⟩:=H.push (P:=P) (ty:=o.type) E j hj ⟨b,0,none⟩ c news cs hrd hnew (by simp only[maxLen];omega) (by have:=Nat.mul_le_mul hlen hb;omega)
 unfold Oper.wp execOp
 simp only[ho,resolve,invoke,builtin,Sem.run_bind,Sem.run_pure,Result.andThen_ok,List.map_toArray,List.map_cons,List.map_nil,getOp_ok ha hnil _ _ hx,getOp_ok ha hnil _ _ hy,hr]
 exact k v' _ w' hf (env_put keep ha hdst hk) hG
end
end Go.Proofs.YtnfdimfepbbbpaaGreatDoor
namespace Go.Proofs.YtnfdimfepbbbpaaGreatDoor
open Go.RowKit
class Flat (α:Type) extends Data α where
 enc:α->List Value
 fix:∀ {S w cs a},toData.rd S w cs a->cs=enc a
instance:Flat Int:={(inferInstance:Data Int) with enc:=fun n=>[.int .i64 n],fix:=fun h=>h}
instance:Flat Bool:={(inferInstance:Data Bool) with enc:=fun n=>[.bool n],fix:=fun h=>h}
instance:Flat ByteArray:={(inferInstance:Data ByteArray) with enc:=fun n=>[.string n],fix:=fun h=>h}
instance {α β:Type} [Flat α] [Flat β]:Flat (α×β):=
 {(inferInstance:Data (α×β)) with
  enc:=fun x=>Flat.enc x.1++Flat.enc x.2
  fix:=by rintro S w cs a ⟨c1,c2,rfl,h1,h2⟩;rw[Flat.fix h1,Flat.fix h2]}
theorem Fr.get {α:Type}[Data α]{w0:Orig}{w:World}{S:Stab}{rs:List Res}(h:Fr w0 w S rs)(j:Nat){v:Value}{a:α}(hj:rs[j]?=some (.ro v a)):Rd (· <w.heap.size) w v a:=
 Rd.up h.inb (h.ok _ (List.mem_of_getElem? hj))
abbrev Giv (o:Orig)(R:Stab->Value->World->Prop):Ending->World->Prop:=fun e w'=> ∃v,e= .returned v/\R (Since o w') v w'/\Below o.w.heap.size o.w w'
section
variable {P:Program}{Q:Post}{a:Act}{w:World}
end
end Go.Proofs.YtnfdimfepbbbpaaGreatDoor
namespace Go.Proofs.YtnfdimfepbbbpaaGreatDoor
open Go.ChangeShapes Go.WideShapes Go.ChangeAt Go.RowKit
theorem Tryz.own:ownKnob Tryz.prog.godebug=none:=by kernel_rfl
theorem Tryz.laidOut:laidOutB Tryz.prog=true:=by kernel_rfl
theorem post_of_below {H:Type}{enc:TypeId×Value->H}{P:Program}{f:Func}{s:ChangeSpec}{apart fresh handsOn:Bool}{W W':World}{args:Array Value}{v:Value}{ds gs:List (DataW H)}{before pa pv:List MemPlace}
  (hW:DataW.Whole enc P f.params.toList s.vars apart W args.toList ds gs before)
  (hres:∀(b:Nat) (sp:Nat->Bool) (hd:Bool),DataW.TrodAll enc P W' b sp hd f.resultTypes.toList (v.resultList f.resultTypes.size) (s.fn H (ds++gs)).results [])
  (hargs:DataW.TrodAll enc P W' 0 (fun b=>decide (b<W.heap.size)) true f.params.toList args.toList (s.fn H (ds++gs)).args pa)
  (hvars:DataW.TrodVars enc P W' (fun b=>decide (b<W.heap.size)) s.vars (s.fn H (ds++gs)).vars pv)
  (hps:before=pa++pv) (hb:Below W.heap.size W W'):s.post enc P f apart fresh handsOn false W args v W':=by
 refine⟨ds,gs,before,[],pa,pv,hW,hres _ _ _,hargs,hvars,World.keptBut_mono (fun p hp=>⟨hp,?_⟩) (hb.frame (· ∈before)),fun h=>by cases h⟩
 rw[hps,List.mem_append] at hp
 exact Or.inr hp
theorem wf_i64 {n:Int}(h:(Lit.int .i64 n).wf=true): -9223372036854775808<=n/\n<=9223372036854775807:=by
 simpa[Lit.wf,IntKind.min,IntKind.max,IntKind.signed,IntKind.bits] using h
theorem max_ok {P:Program}{ats:Array TypeId}{k:IntKind}{a b:Int}(ty:TypeId)(w:World):(Builtin.max_ ats ty [.int k a,.int k b].toArray).run P w= .ok (.int k (max a b)) w:=by
 have e:(if b>a then b else a)=max a b:=by split<;>omega
 simp[Builtin.max_,Builtin.max2,e]
theorem min_ok {P:Program}{ats:Array TypeId}{k:IntKind}{a b:Int}(ty:TypeId)(w:World):(Builtin.min_ ats ty [.int k a,.int k b].toArray).run P w= .ok (.int k (min a b)) w:=by
 have e:(if b<a then b else a)=min a b:=by split<;>omega
 simp[Builtin.min_,Builtin.min2,e]
theorem shr_one {a:Int}{n:Nat}(h:1<=n):0<=(1:Int)/\a.fdiv (2 ^ (min (1:Int).toNat n))=a/2:=by
 refine⟨by decide,?_⟩
 rw[show min (1:Int).toNat n=1 by omega]
 exact Int.fdiv_eq_ediv_of_nonneg a (by decide)
theorem box_at {w:World}{o:Orig}{S:Stab}{rs:List Res}(H:Fr o w S rs)(j:Nat){b:Nat}{t:TypeId}{vs:List Value}(hj:rs[j]?=some (.box b t vs)):
  ∀w',On w w'->w'.heap[b]?=some (.cells vs.toArray t (0,0)):=by
 intro w' hw'
 have h:w.heap[b]?=some (.cells vs.toArray t (0,0)):=H.ok _ (List.mem_of_getElem? hj)
 rw[hw'.block b (H.own _ (List.mem_of_getElem? hj) b rfl).2.1]
 exact h
theorem box_cell {w:World}{o:Orig}{S:Stab}{rs:List Res}(H:Fr o w S rs)(j:Nat){b:Nat}{t:TypeId}{vs:List Value}(hj:rs[j]?=some (.box b t vs))(i:Nat){u:Value}(hu:vs[i]?=some u:=by kernel_rfl):CellOk (On w) b i u:=by
 intro w' hw'
 rw[cell_of_row w' b i _ t _ (box_at H j hj w' hw')]
 simpa using hu
section
variable {P:Program}{Q:Post}{a:Act}{w:World}
theorem run_storeAt_box (w:World)(t e:TypeId)(b o:Nat)(vs us:List Value)(u:Value)(hb:w.heap[b]?=some (.cells vs.toArray e (0,0)))(hc:u.cells.toList=us)(ho:o+us.length<=vs.length)
  (hsz:(P.info? t).map (·.size)=some us.length) (h1:∀v∈us,v.oneCell'=true):
  (Instr.storeAt t (.pointer (some ⟨b,o,none⟩)) u).run P w= .ok () (w.setRow b (vs.take o++us++vs.drop (o+us.length)).toArray):=by
 obtain⟨i,hi,hs⟩:=Option.map_eq_some_iff.1 hsz
 have hcs:u.cells.size=us.length:=by rw[<-hc,Array.length_toList]
 have hcl:P.cellsOf t=us.length:=by simp[Program.cellsOf,hi,hs]
 have:=run_storeCells_at (P:=P) b o e us 0 vs.toArray w hb (by simpa using ho) h1
 simp only[Nat.add_zero] at this
 simp only[Instr.storeAt,Instr.sureAddr,storeVar,Sem.run_bind,Sem.run_pure,Result.andThen_ok,run_sizeOf w hi,hs,hcs,hcl,ne_eq,not_true_eq_false,if_false,hc]
 exact this
end
def But (w:World)(m:Option Nat)(w':World):Prop:=w.heap.size<=w'.heap.size/\∀k,k<w.heap.size->some k≠m->w'.heap[k]?=w.heap[k]?
theorem But.refl (w:World)(m:Option Nat):But w m w:=⟨Nat.le_refl _,fun _ _ _=>rfl⟩
theorem But.drew (w:World)(m:Option Nat):But w m {w with drawn:=w.drawn+1}:=⟨Nat.le_refl _,fun _ _ _=>rfl⟩
theorem But.grown {w w1 w2:World}{m row:Option Nat}(h:But w m w1)(hg:w1.grownBy w2 row)(hr:∀b,row=some b->some b=m\/w.heap.size<=b):But w m w2:=by
 refine⟨Nat.le_trans h.1 hg.size,fun k hk hm=>?_⟩
 rw[hg.block k (Nat.lt_of_lt_of_le hk h.1) (fun e=>by
  rcases hr k e.symm with h1|h1
  .exact hm h1
  omega)]
 exact h.2 k hk hm
theorem But.below {w w1 w2:World}{m:Option Nat}(h:But w m w1)(hb:Below w1.heap.size w1 w2):But w m w2:=
 ⟨Nat.le_trans h.1 hb.size,fun k hk hm=>(hb.block k (Nat.lt_of_lt_of_le hk h.1)).trans (h.2 k hk hm)⟩
def Calm (Q:Exit->Act->World->Prop):Exit->Act->World->Prop
 | .panic _,_,_=>False
 | .normal,a,w=>Q .normal a w
 |e,a,w=>Q e a w
section
variable {P:Program}{ops:Array Oper}{Q:Exit->Act->World->Prop}{D:World->Prop}
def Mix (P:Program)(ops:Array Oper)(Q:Exit->Act->World->Prop)(D:World->Prop)(hd:List Nat):Nat->Array Bool->Act->World->Prop
 |0,listed,a,w=>Region.ready .any ops listed=[]/\Q .normal a w
 |n+1,listed,a,w=>(Region.ready .any ops listed=[]->Q .normal a w)/\
  ∀i∈Region.ready .any ops listed,wpOp P ops Q i (fun a' w'=>(i∈hd->D w')/\Mix P ops Q D hd n (listed.setIfInBounds i true) a' w') a w
theorem Mix.any {hd:List Nat}:∀(n:Nat) (listed:Array Bool) (a:Act) (w:World),Mix P ops Q D hd n listed a w->wpAny P .any ops Q n listed a w
 |0,_,_,_,h=>h
 |n+1,_,_,_,h=>⟨h.1,fun i hi=>wpOp_mono (fun a' w' q=>Mix.any n _ a' w' q.2) (h.2 i hi)⟩
def tailB (ops:Array Oper)(hd:List Nat):Bool:=(List.range ops.size).all fun j=>hd.contains j||hd.all fun i=>match ops[j]? with
 |some o=>o.after.any fun e=>Region.binds .any e && e.on==i
 |none=>true
def stillB:Op->Bool
 | .move _| .assign _| .nilCheck _| .unOp .. | .extract .. | .binOp .. | .convert .. | .index .. | .indexAddr .. | .fieldAddr .. | .load .. | .field .. | .build .. | .slice .. | .pick .. =>true
 | .call c=>match c.callee with
  | .builtin .len=>true
  | .builtin .max=>true
  | .builtin .min=>true
  |_=>false
 |_=>false
def takeB (ops:Array Oper)(hd:List Nat):List Nat->Array Bool->Bool
 |[],_=>true
 |i::r,listed=>hd.contains i && (match ops[i]? with|some o=>stillB o.op|none=>false) && Region.free .any ops listed i && (Region.ready .any ops listed).contains i && takeB ops hd r (listed.setIfInBounds i true)
def marks (listed:Array Bool):List Nat->Array Bool
 |[]=>listed
 |i::r=>marks (listed.setIfInBounds i true) r
end
section
variable {P:Program}{B:Code}{p:List Nat}{Q:Exit->Act->World->Prop}{a:Act}{w:World}
abbrev MixEq (P:Program)(D:World->Prop)(m:Nat)(ops:Array Oper)(hd is:List Nat)(listed listed':Array Bool)(orc:List (Nat×Value))(env:Env)(keep:List (Nat×Value))(pr:Prop):Prop:=
 ((takeB ops hd is listed,tailB ops hd,Region.noSelect ops,marks listed is),(evRun P D m ops orc (is.filterMap fun i=>ops[i]?) env).map (fun r=>((keep.map fun x=>look r.1 x.1),r.2)))=((true,true,true,listed'),some ((keep.map fun x=>some ⟨x.1,[],x.2⟩),pr))
end
abbrev Old (o:Orig)(S:Stab):Stab:=fun k=>k<o.w.heap.size\/S k
theorem Fr.old {o:Orig}{w:World}{S:Stab}{rs:List Res}(H:Fr o w S rs){k:Nat}(h:Old o S k):k<w.heap.size:=by
 rcases h with h|h
 .exact Nat.lt_of_lt_of_le h H.below.size
 exact H.inb k h
theorem Fr.keeps {o:Orig}{w:World}{S:Stab}{rs:List Res}(H:Fr o w S rs)(m:Option Nat)(hm:m=none\/∃r∈rs,r.block=m):∀w',But w m w'->Keeps (Old o S) w w':=by
 intro w' hw' k hk
 refine hw'.2 k (H.old hk) fun e=>?_
 rcases hm with rfl|⟨r,hr,hb⟩
 .cases e
 obtain⟨h1,h2,h3⟩:=H.own r hr k (hb.trans e.symm)
 rcases hk with hk|hk
 .omega
 exact h3 hk
theorem Fr.apart {o:Orig}{w:World}{S:Stab}{rs:List Res}(H:Fr o w S rs)(i j:Nat)(hij:i≠j){ri rj:Res}(hi:rs[i]?=some ri)(hj:rs[j]?=some rj){b:Nat}(hb:ri.block=some b):rj.block≠some b:=by
 intro hb'
 obtain⟨hil,hie⟩:=List.getElem?_eq_some_iff.1 hi
 obtain⟨hjl,hje⟩:=List.getElem?_eq_some_iff.1 hj
 have hn:=H.nodup
 rw[List.Nodup,List.pairwise_filterMap,List.pairwise_iff_getElem] at hn
 rcases Nat.lt_or_gt_of_ne hij with hlt|hgt
 .exact hn i j hil hjl hlt b (by rw[hie];exact hb) b (by rw[hje];exact hb') rfl
 exact hn j i hjl hil hgt b (by rw[hje];exact hb') b (by rw[hie];exact hb) rfl
theorem cells_atC {α:Type}[Data α]{T:Stab}{C:World->Prop}{w:World}{v:Value}{l:List α}(hC:∀w',C w'->Keeps T w w')(h:Rd T w v l){i:Int}(h0:0<=i)(h1:i<(l.length:Int))(d:α):
  ∃cs,Data.rd T w cs (l.getD i.toNat d)/\∀j,j<Data.size α->∀w',C w'->w'.cell? ⟨hdB v,hdO v+i.toNat*Data.size α+j,none⟩=cs[j]?:=by
 obtain⟨p,c,rfl,_,_,h3⟩:=rd_slice h
 rcases h3 with rfl|⟨g,off,cur,t,fz,rfl,hg,hw,hc⟩
 .simp at h1;omega
 have hi:i.toNat<l.length:=by omega
 obtain⟨cs,hr,hj⟩:=hc i.toNat hi
 refine⟨cs,?_,fun j hj' w' hw'=>?_⟩
 .rw[List.getD_eq_getElem?_getD,List.getElem?_eq_getElem hi];exact hr
 show w'.cell? ⟨g,off+i.toNat*Data.size α+j,none⟩=_
 rw[cell_of_row w' g _ cur t fz ((hC w' hw' g hg).trans hw)]
 exact hj j hj'
theorem Fr.drawn {o:Orig}{w:World}{S:Stab}{rs:List Res}(H:Fr o w S rs):Fr o {w with drawn:=w.drawn+1} S rs:=H.on ⟨rfl,rfl,rfl,Nat.le_refl _,fun _ _=>rfl⟩
section
variable {P:Program}{Q:Exit->Act->World->Prop}{a:Act}{w:World}
end
section
variable {P:Program}{Q:Post}{a:Act}{w:World}
end
theorem rd_nil {α:Type}[Data α]{S:Stab}{w:World}:Rd S w (.slice none 0 0) ([]:List α):=
 slice_rd ⟨none,0,rfl,by simp,by simp[maxLen],.inl rfl⟩
theorem Fr.lit {α:Type}[Data α]{w0:Orig}{w:World}{S:Stab}{rs:List Res}(h:Fr w0 w S rs)(j:Nat){b:Nat}{e:TypeId}{cs:List Value}(hj:rs[j]?=some (.box b e cs)){l:List α}(hrd:RowRd S w cs l){n:Nat}(hn:l.length=n)(hm:n<=maxLen):Rd (· <w.heap.size) w (.slice (some ⟨b,0,none⟩) n n) l:=by
 subst hn
 have hb:w.heap[b]?=some (.cells cs.toArray e (0,0)):=h.ok _ (List.mem_of_getElem? hj)
 refine slice_rd ⟨_,_,rfl,Nat.le_refl _,hm,.inr ⟨b,0,cs.toArray,e,(0,0),rfl,(Array.getElem?_eq_some_iff.1 hb).1,hb,fun i hi=>?_⟩⟩
 refine⟨_,Data.up h.inb (hrd.2 i hi),fun q hq=>?_⟩
 rw[List.getElem?_take,if_pos hq,List.getElem?_drop]
 simp
section
variable {P:Program}{Q:Post}{a:Act}{w:World}
end
end Go.Proofs.YtnfdimfepbbbpaaGreatDoor
namespace Go.Proofs.YtnfdimfepbbbpaaGreatDoor
open Go.ChangeShapes Go.WideShapes Go.ChangeAt Go.RowKit
def Opens (P:Program)(t:TypeId){α:Type}[Data α](ok:α->Prop):Prop:=
 ∀ {H:Type} {enc:TypeId×Value->H} {w:World} {base:Nat} {sp:Nat->Bool} {hd:Bool} {fuel:Nat} {cs:List Value} {x:DataW H×List MemPlace},
  DataW.trod enc P w base sp hd fuel t cs=some x->∃a:α,Data.rd (· <w.heap.size) w cs a/\ok a
def In64 (n:Int):Prop:= -9223372036854775808<=n/\n<=9223372036854775807
theorem opens_int {P:Program}{t:TypeId}(ht:P.underlying t=some (.int .i64)):Opens P t In64:=by
 intro H enc w base sp hd fuel cs x h
 obtain⟨n,rfl,_,hw⟩:=DataW.trod_int ht h
 exact⟨n,rfl,wf_i64 hw⟩
theorem opens_pair {P:Program}{t:TypeId}{f0 f1:Field}{α β:Type}[Data α][Data β]{ok0:α->Prop}{ok1:β->Prop}(ht:P.underlying t=some (.struct #[f0,f1]))(h0:Opens P f0.type ok0)(h1:Opens P f1.type ok1)
  (o0:f0.offset=0) (o1:f1.offset=Data.size α) (c0:P.cellsOf f0.type=Data.size α) (c1:P.cellsOf f1.type=Data.size β) (ct:P.cellsOf t=Data.size α+Data.size β):Opens P t (α:=α×β) fun x=>ok0 x.1/\ok1 x.2:=by
 intro H enc w base sp hd fuel cs x h
 obtain⟨xs,n,_,_,hcs,hxs,hf⟩:=DataW.trod_struct ht h
 match xs,hxs with
 |[y0,y1],_=>
  have g0:=hf 0 f0 rfl
  have g1:=hf 1 f1 rfl
  rw[o0,c0,List.drop_zero] at g0
  rw[o1,c1] at g1
  obtain⟨a,ra,ka⟩:=h0 (x:=y0) g0
  obtain⟨b,rb,kb⟩:=h1 (x:=y1) g1
  refine⟨(a,b),⟨_,_,?_,ra,rb⟩,ka,kb⟩
  have e1:(cs.drop (Data.size α)).take (Data.size β)=cs.drop (Data.size α):=List.take_of_length_le (by rw[List.length_drop,hcs,ct];omega)
  rw[e1,List.take_append_drop]
theorem opens_slice {P:Program}{t e:TypeId}{α:Type}[Data α]{ok:α->Prop}(ht:P.underlying t=some (.slice e))(h:Opens P e ok)(hc:P.cellsOf e=Data.size α)(hp:0<Data.size α):Opens P t (α:=List α) fun l=> ∀a∈l,ok a:=by
 intro H enc w base sp hd fuel cs x hx
 rcases Go.Deep.open_slice ht hx with⟨rfl,_⟩|⟨a,len,cap,m,n,D,Pl,rfl,hb,hl,hm,hmm,rfl,hel⟩
 .exact⟨[],⟨_,rfl,none,0,rfl,by simp,by simp[maxLen],.inl rfl⟩,by simp⟩
 have hlm:len<=m:=by rw[hmm];split<;>omega
 have each:∀i:Fin len,∃y:α,∃cs':List Value,(∀j,j<Data.size α->w.cell? ((a.add (i.val*Data.size α)).add j)=cs'[j]?)/\cs'.length=Data.size α/\Data.rd (· <w.heap.size) w cs' y/\ok y:=by
  intro i
  obtain⟨cs',h1,h2⟩:=hel i.val (by omega)
  rw[hc] at h1
  obtain⟨_,hlen,hcell⟩:=World.cells?_some h1
  obtain⟨y,ry,ky⟩:=h h2
  exact⟨y,cs',hcell,hlen,ry,ky⟩
 refine⟨List.ofFn fun i=>Classical.choose (each i),⟨_,rfl,some a,cap,by rw[List.length_ofFn],by rw[List.length_ofFn];exact hl,hm,?_⟩,fun y hy=>?_⟩
 .by_cases h0:len=0
  .left;subst h0;rfl
  right
  obtain⟨cs0,k1,k2,_⟩:=Classical.choose_spec (each ⟨0,by omega⟩)
  have k0:=k1 0 hp
  rw[Go.Deep.add_add,List.getElem?_eq_getElem (by omega)] at k0
  have e0:a.add (0*Data.size α+0)=a:=by simp[Addr.add]
  simp only[e0] at k0
  obtain⟨g,off,spot⟩:=a
  unfold World.cell? at k0
  simp only at k0
  split at k0
  .rename_i cur ty fz hheap
   split at k0
   .cases k0
   rename_i hs
   have hsp:spot=none:=by cases spot<;>simp_all
   subst hsp
   refine⟨g,off,cur,ty,fz,rfl,(Array.getElem?_eq_some_iff.1 hheap).1,hheap,fun i hi=>?_⟩
   rw[List.length_ofFn] at hi
   obtain⟨cs',k1,k2,k3,_⟩:=Classical.choose_spec (each ⟨i,hi⟩)
   refine⟨cs',by rw[List.getElem_ofFn];exact k3,fun j hj=>?_⟩
   rw[<-k1 j hj,Go.Deep.add_add]
   have hadd:(⟨g,off,none⟩:Addr).add (i*Data.size α+j)=⟨g,off+(i*Data.size α+j),none⟩:=by unfold Addr.add;split<;>simp_all
   rw[hadd,cell_of_row w g _ cur ty fz hheap,Nat.add_assoc]
  cases k0
 obtain⟨i,rfl⟩:=List.mem_ofFn.1 hy
 obtain⟨cs',_,_,_,k4⟩:=Classical.choose_spec (each i)
 exact k4
theorem arg_struct {P:Program}{t:TypeId}{fs:Array Field}{α:Type}[Data α]{ok:α->Prop}(ho:Opens P t ok)(ht:P.underlying t=some (.struct fs)){H:Type}{enc:TypeId×Value->H}{W:World}{b0:Nat}{sp:Nat->Bool}{hd:Bool}{v:Value}{d:DataW H}{ps:List MemPlace}
  (hval:Value.okWide P W .any b0 t v) (h:DataW.Trod enc P W 0 sp hd t v d ps):∃(cs:List Value) (a:α),v= .agg cs.toArray/\Data.rd (· <W.heap.size) W cs a/\ok a:=by
 obtain⟨cs,rfl,_⟩:=okWide_struct ht hval
 obtain⟨fuel,hx⟩:=h
 obtain⟨a,ha,hk⟩:=ho hx
 exact⟨cs.toList,a,rfl,ha,hk⟩
end Go.Proofs.YtnfdimfepbbbpaaGreatDoor
namespace Go.Proofs.YtnfdimfepbbbpaaGreatDoor
open Go.ChangeShapes Go.WideShapes Go.ChangeAt Go.RowKit
section
variable {H:Type}{enc:TypeId×Value->H}{P:Program}{w:World}{base:Nat}{spare:Nat->Bool}{held:Bool}
end
end Go.Proofs.YtnfdimfepbbbpaaGreatDoor
namespace Go.Proofs.YtnfdimfepbbbpaaGreatDoor
open Go.ChangeShapes Go.WideShapes Go.ChangeAt Go.RowKit
theorem arg_agg {P:Program}{t:TypeId}{fs:Array Field}{α:Type}[Data α]{ok:α->Prop}(ho:Opens P t ok)(ht:P.underlying t=some (.struct fs))(ha:Data.isAgg α=true){H:Type}{enc:TypeId×Value->H}{W:World}{b0:Nat}{sp:Nat->Bool}{hd:Bool}{v:Value}{d:DataW H}{ps:List MemPlace}
  (hval:Value.okWide P W .any b0 t v) (h:DataW.Trod enc P W 0 sp hd t v d ps):∃a:α,Rd (· <W.heap.size) W v a/\ok a:=by
 obtain⟨cs,a,rfl,hr,hk⟩:=arg_struct ho ht hval h
 exact⟨a,⟨cs,hr,by rw[if_pos ha]⟩,hk⟩
end Go.Proofs.YtnfdimfepbbbpaaGreatDoor
namespace Go.Proofs.YtnfdimfepbbbpaaGreatDoor
open Go.ChangeShapes Go.WideShapes Go.ChangeAt Go.RowKit
theorem tk_dr (cs:List Value)(a b:Nat):cs.drop a=(cs.drop a).take b++cs.drop (a+b):=by rw[<-List.drop_drop,List.take_append_drop]
theorem opens_str {P:Program}{t:TypeId}(ht:P.underlying t=some .string):Opens P t (α:=ByteArray) fun _=>True:=by
 intro H enc w base sp hd fuel cs x h
 obtain⟨s,rfl,_,_⟩:=DataW.trod_string ht h
 exact⟨s,rfl,tv⟩
theorem opens_four {P:Program}{t:TypeId}{f0 f1 f2 f3:Field}{α β γ δ:Type}[Data α][Data β][Data γ][Data δ]{ok0:α->Prop}{ok1:β->Prop}{ok2:γ->Prop}{ok3:δ->Prop}(ht:P.underlying t=some (.struct #[f0,f1,f2,f3]))(h0:Opens P f0.type ok0)(h1:Opens P f1.type ok1)(h2:Opens P f2.type ok2)(h3:Opens P f3.type ok3)
  (o0:f0.offset=0) (o1:f1.offset=Data.size α) (o2:f2.offset=Data.size α+Data.size β) (o3:f3.offset=Data.size α+Data.size β+Data.size γ) (c0:P.cellsOf f0.type=Data.size α) (c1:P.cellsOf f1.type=Data.size β) (c2:P.cellsOf f2.type=Data.size γ) (c3:P.cellsOf f3.type=Data.size δ)
  (ct:P.cellsOf t=Data.size α+Data.size β+Data.size γ+Data.size δ):Opens P t (α:=α×(β×(γ×δ))) fun x=>ok0 x.1/\ok1 x.2.1/\ok2 x.2.2.1/\ok3 x.2.2.2:=by
 intro H enc w base sp hd fuel cs x h
 obtain⟨xs,n,_,_,hcs,hxs,hf⟩:=DataW.trod_struct ht h
 match xs,hxs with
 |[y0,y1,y2,y3],_=>
  have g0:=hf 0 f0 rfl
  have g1:=hf 1 f1 rfl
  have g2:=hf 2 f2 rfl
  have g3:=hf 3 f3 rfl
  rw[o0,c0,List.drop_zero] at g0
  rw[o1,c1] at g1
  rw[o2,c2] at g2
  rw[o3,c3] at g3
  obtain⟨a,ra,ka⟩:=h0 (x:=y0) g0
  obtain⟨b,rb,kb⟩:=h1 (x:=y1) g1
  obtain⟨c,rc,kc⟩:=h2 (x:=y2) g2
  obtain⟨d,rd,kd⟩:=h3 (x:=y3) g3
  refine⟨(a,b,c,d),⟨_,cs.drop (Data.size α),(List.take_append_drop _ _).symm,ra,⟨_,cs.drop (Data.size α+Data.size β),?_,rb,⟨_,_,?_,rc,rd⟩⟩⟩,ka,kb,kc,kd⟩
  .exact tk_dr _ _ _
  have e1:(cs.drop (Data.size α+Data.size β+Data.size γ)).take (Data.size δ)=cs.drop (Data.size α+Data.size β+Data.size γ):=List.take_of_length_le (by rw[List.length_drop,hcs,ct];omega)
  rw[e1];exact tk_dr _ _ _
theorem opens_five {P:Program}{t:TypeId}{f0 f1 f2 f3 f4:Field}{α β γ δ ε:Type}[Data α][Data β][Data γ][Data δ][Data ε]{ok0:α->Prop}{ok1:β->Prop}{ok2:γ->Prop}{ok3:δ->Prop}{ok4:ε->Prop}(ht:P.underlying t=some (.struct #[f0,f1,f2,f3,f4]))(h0:Opens P f0.type ok0)(h1:Opens P f1.type ok1)(h2:Opens P f2.type ok2)(h3:Opens P f3.type ok3)(h4:Opens P f4.type ok4)
  (o0:f0.offset=0) (o1:f1.offset=Data.size α) (o2:f2.offset=Data.size α+Data.size β) (o3:f3.offset=Data.size α+Data.size β+Data.size γ) (o4:f4.offset=Data.size α+Data.size β+Data.size γ+Data.size δ) (c0:P.cellsOf f0.type=Data.size α) (c1:P.cellsOf f1.type=Data.size β) (c2:P.cellsOf f2.type=Data.size γ) (c3:P.cellsOf f3.type=Data.size δ) (c4:P.cellsOf f4.type=Data.size ε)
  (ct:P.cellsOf t=Data.size α+Data.size β+Data.size γ+Data.size δ+Data.size ε):Opens P t (α:=α×(β×(γ×(δ×ε)))) fun x=>ok0 x.1/\ok1 x.2.1/\ok2 x.2.2.1/\ok3 x.2.2.2.1/\ok4 x.2.2.2.2:=by
 intro H enc w base sp hd fuel cs x h
 obtain⟨xs,n,_,_,hcs,hxs,hf⟩:=DataW.trod_struct ht h
 match xs,hxs with
 |[y0,y1,y2,y3,y4],_=>
  have g0:=hf 0 f0 rfl
  have g1:=hf 1 f1 rfl
  have g2:=hf 2 f2 rfl
  have g3:=hf 3 f3 rfl
  have g4:=hf 4 f4 rfl
  rw[o0,c0,List.drop_zero] at g0
  rw[o1,c1] at g1
  rw[o2,c2] at g2
  rw[o3,c3] at g3
  rw[o4,c4] at g4
  obtain⟨a,ra,ka⟩:=h0 (x:=y0) g0
  obtain⟨b,rb,kb⟩:=h1 (x:=y1) g1
  obtain⟨c,rc,kc⟩:=h2 (x:=y2) g2
  obtain⟨d,rd,kd⟩:=h3 (x:=y3) g3
  obtain⟨e,re,ke⟩:=h4 (x:=y4) g4
  refine⟨(a,b,c,d,e),⟨_,cs.drop (Data.size α),(List.take_append_drop _ _).symm,ra,⟨_,cs.drop (Data.size α+Data.size β),?_,rb,⟨_,cs.drop (Data.size α+Data.size β+Data.size γ),?_,rc,⟨_,_,?_,rd,re⟩⟩⟩⟩,ka,kb,kc,kd,ke⟩
  .exact tk_dr _ _ _
  .exact tk_dr _ _ _
  have e1:(cs.drop (Data.size α+Data.size β+Data.size γ+Data.size δ)).take (Data.size ε)=cs.drop (Data.size α+Data.size β+Data.size γ+Data.size δ):=List.take_of_length_le (by rw[List.length_drop,hcs,ct];omega)
  rw[e1];exact tk_dr _ _ _
def letP (r:Int):Prop:=(97<=r/\r<=122)\/(65<=r/\r<=90)\/(192<=r/\r<=591/\r≠215/\r≠247)\/(913<=r/\r<=969/\r≠930)\/(1040<=r/\r<=1103)
instance (r:Int):Decidable (letP r):=by unfold letP;infer_instance
def letB (r:Int):Bool:=decide (letP r)
theorem letB_iff {r:Int}:letB r=true↔letP r:=by unfold letB;exact decide_eq_true_iff
theorem letB_niff {r:Int}:letB r=false↔¬letP r:=by unfold letB;exact decide_eq_false_iff_not
def cls (r:Int):Int:=if letP r then 1 else if 48<=r/\r<=57 then 2 else if r=95\/(8242<=r/\r<=8244) then 3 else if r=32 then 4 else 0
def markB (r:Int):Bool:=decide (r=10\/(43<=r/\r<=47)\/r=58\/r=124)
theorem ans_b {x y:Bool}{w w':World}(h:x=y)(hb:Below w.heap.size w w'):Ans (.bool y) w (.returned (.bool x)) w':=⟨by rw[h],hb⟩
theorem ans_i {k:IntKind}{x y:Int}{w w':World}(h:x=y)(hb:Below w.heap.size w w'):Ans (.int k y) w (.returned (.int k x)) w':=⟨by rw[h],hb⟩
def runesF (s:ByteArray):Nat->Nat->List (Nat×Int)
 |0,_=>[]
 |f+1,pos=>if pos<s.size then(pos,((Utf8.decode s pos).1:Int))::runesF s f (pos+(Utf8.decode s pos).2) else[]
def runes (s:ByteArray)(pos:Nat):List (Nat×Int):=runesF s (s.size-pos) pos
theorem runesF_end (s:ByteArray)(f pos:Nat)(h:¬pos<s.size):runesF s f pos=[]:=by cases f<;>simp[runesF,h]
theorem runesF_fuel (s:ByteArray):∀(f g pos:Nat),s.size<=pos+f->s.size<=pos+g->runesF s f pos=runesF s g pos
 |0,g,pos,h1,h2=>by rw[runesF_end s g pos (by omega)];rfl
 |f+1,0,pos,h1,h2=>by rw[runesF_end s (f+1) pos (by omega)];rfl
 |f+1,g+1,pos,h1,h2=>by
  by_cases hp:pos<s.size
  .simp only[runesF,if_pos hp]
   have hw:=width_pos s pos hp
   rw[runesF_fuel s f g _ (by omega) (by omega)]
  rw[runesF_end s _ pos hp,runesF_end s _ pos hp]
theorem runes_cons (s:ByteArray)(pos:Nat)(h:pos<s.size):runes s pos=(pos,((Utf8.decode s pos).1:Int))::runes s (pos+(Utf8.decode s pos).2):=by
 unfold runes
 obtain⟨f,hf⟩:∃f,s.size-pos=f+1:=⟨s.size-pos-1,by omega⟩
 rw[hf]
 simp only[runesF,if_pos h]
 have hw:=width_pos s pos h
 rw[runesF_fuel s f (s.size-(pos+(Utf8.decode s pos).2)) _ (by omega) (by omega)]
theorem runes_nil (s:ByteArray)(pos:Nat)(h:¬pos<s.size):runes s pos=[]:=runesF_end s _ pos h
def nameGo:List (Nat×Int)->Int->Int->Bool
 |[],n,_=>decide (0<n)
 |(_,r)::l,n,k=>
  if cls r=1 then(if 0<k then false else if 16<n+1 then false else if 3<k then false else nameGo l (n+1) k)
  else if cls r=2 then(if n+1=1 then false else if 0<k then false else if 16<n+1 then false else if 3<k then false else nameGo l (n+1) k)
  else if cls r=3 then(if n+1=1 then false else if 16<n+1 then false else if 3<k+1 then false else nameGo l (n+1) (k+1))
  else false
def nameB (s:ByteArray):Bool:=nameGo (runes s 0) 0 0
def numGo:List (Nat×Int)->Int->Int×Bool
 |[],n=>(n,true)
 |(_,r)::l,n=>if cls r=2 then numGo l (10*n+(r-48)) else(0,false)
def numB (s:ByteArray):Int×Bool:=
 if s.size=0 then(0,false) else if 9<s.size then(0,false) else if 1<s.size/\StrAt s 0=48 then(0,false) else numGo (runes s 0) 0
def badGo:List (Nat×Int)->Int×Bool
 |[]=>(0,false)
 |(p,r)::l=>if cls r=0/\markB r=false then((p:Int),true) else badGo l
def badB (s:ByteArray):Int×Bool:=badGo (runes s 0)
def spGo (s:ByteArray):List (Nat×Int)->Int->List (Int×ByteArray)->List (Int×ByteArray)
 |[],b,l=>if 0<=b then l++[(b,s.extract b.toNat s.size)] else l
 |(p,r)::t,b,l=>
  if cls r=4 then(if 0<=b then spGo s t (-1) (l++[(b,s.extract b.toNat ((p:Int)).toNat)]) else spGo s t b l)
  else(if b<0 then spGo s t (p:Int) l else spGo s t b l)
def wordsB (s:ByteArray):List (Int×ByteArray):=spGo s (runes s 0) (-1) []
def rLead (c:Int):Option (Int×Int×Int):=
 if 194<=c/\c<224 then some (1,c-192,128) else if 224<=c/\c<240 then some (2,c-224,2048) else if 240<=c/\c<245 then some (3,c-240,65536) else none
def rLoop (s:ByteArray)(at_:Int):Nat->Int->Int->Option Int
 |0,_,c=>some c
 |k+1,i,c=>if StrAt s (at_+i)<128\/191<StrAt s (at_+i) then none else rLoop s at_ k (i+1) (c*64+StrAt s (at_+i)-128)
def rFin (n least:Int):Option Int->Int×Int
 |none=>(-1,1)
 |some c=>if c<least\/1114111<c\/(55296<=c/\c<=57343) then(-1,1) else(c,n+1)
def rRune (s:ByteArray)(at_:Int):Int×Int:=
 if StrAt s at_<128 then(StrAt s at_,1) else
 match rLead (StrAt s at_) with
 |none=>(-1,1)
 |some (n,c,least)=>if(s.size:Int)-at_<=n then(-1,1) else rFin n least (rLoop s at_ n.toNat 1 c)
theorem ans_bi {k:IntKind}{x y:Int}{b c:Bool}{w w':World}(h:x=y/\b=c)(hb:Below w.heap.size w w'):Ans (.tuple #[.int k y,.bool c]) w (.returned (.tuple #[.int k x,.bool b])) w':=⟨by rw[h.1,h.2],hb⟩
theorem letter_any (r:Int)(w:World):
 Calls Tryz.prog 83 [.int .i32 r].toArray w (Ans (.bool (letB r)) w):=by
 refine enter Tryz.f83 44 Tryz.func83 fun a hA=>?_
 replace hA:=env_sub [(0,.int .i32 r)] hA
 have H:=Fr.start (org w)
 refine go_seq fun K1 hK1=>?_
 refine q_reg [] [(0,.int .i32 r)] (TT/\True) hA H ⟨tv,tv⟩ fun a w2 hA H hG=>?_
 refine hK1 _ _ ?_
 refine go_seq fun K3 hK3=>?_
 refine go_block 0 ?_
 refine go_seq fun K4 hK4=>?_
 refine go_seq fun K5 hK5=>?_
 refine q_reg [] [(0,.int .i32 r),(3,.bool ((decide ((97:Int)<=r)) && (decide (r<=122))))] (TT/\TT/\TT/\((decide ((97:Int)<=r))=true->True)/\((decide ((97:Int)<=r))=true->True)/\TT/\TT/\True) hA H ⟨tv,tv,tv,fun _=>trivial,fun _=>trivial,tv,tv,tv⟩ fun a w6 hA H hG=>?_
 refine hK5 _ _ ?_
 refine go_cond hA (.tmp 3) ((decide ((97:Int)<=r)) && (decide (r<=122))) (fun hb7=>?_) (fun hb7=>?_)
 .have hhb7:=(⟨of_decide_eq_true ((aT hb7).1),of_decide_eq_true ((aT hb7).2)⟩:_/\_)
  refine go_skip ?_
  refine hK4 _ _ ?_
  refine go_cond hA (.tmp 3) ((decide ((97:Int)<=r)) && (decide (r<=122))) (fun _=>?_) (fun h=>absurd (h.symm.trans hb7) (by decide))
  refine go_seq fun K9 hK9=>?_
  refine q_reg [] [(2,.bool true)] (TT/\True) hA H ⟨tv,tv⟩ fun a w10 hA H hG=>?_
  refine hK9 _ _ ?_
  refine go_ret_ ?_
  refine ret_one 2 (.bool true) hA ?_
  exact ans_b (by rw[Bool.eq_iff_iff,letB_iff];unfold letP;simp only[Bool.and_eq_true,Bool.or_eq_true,Bool.and_eq_false_iff,Bool.or_eq_false_iff,Bool.not_eq_true',Bool.not_eq_false',decide_eq_true_eq,decide_eq_false_iff_not,beq_iff_eq,beq_eq_false_iff_ne,ne_eq,Bool.true_eq,Bool.false_eq,Bool.false_eq_true,iff_false,iff_true,true_iff,false_iff];omega) H.below
 have hhb7:=(aF hb7).imp (fun h=>of_decide_eq_false h) (fun h=>of_decide_eq_false h)
 refine q_reg [] [(0,.int .i32 r),(3,.bool ((decide ((65:Int)<=r)) && (decide (r<=90))))] (TT/\TT/\TT/\((decide ((65:Int)<=r))=true->True)/\((decide ((65:Int)<=r))=true->True)/\TT/\TT/\True) hA H ⟨tv,tv,tv,fun _=>trivial,fun _=>trivial,tv,tv,tv⟩ fun a w11 hA H hG=>?_
 refine hK4 _ _ ?_
 refine go_cond hA (.tmp 3) ((decide ((65:Int)<=r)) && (decide (r<=90))) (fun hb12=>?_) (fun hb12=>?_)
 .have hhb12:=(⟨of_decide_eq_true ((aT hb12).1),of_decide_eq_true ((aT hb12).2)⟩:_/\_)
  refine go_seq fun K13 hK13=>?_
  refine q_reg [] [(2,.bool true)] (TT/\True) hA H ⟨tv,tv⟩ fun a w14 hA H hG=>?_
  refine hK13 _ _ ?_
  refine go_ret_ ?_
  refine ret_one 2 (.bool true) hA ?_
  exact ans_b (by rw[Bool.eq_iff_iff,letB_iff];unfold letP;simp only[Bool.and_eq_true,Bool.or_eq_true,Bool.and_eq_false_iff,Bool.or_eq_false_iff,Bool.not_eq_true',Bool.not_eq_false',decide_eq_true_eq,decide_eq_false_iff_not,beq_iff_eq,beq_eq_false_iff_ne,ne_eq,Bool.true_eq,Bool.false_eq,Bool.false_eq_true,iff_false,iff_true,true_iff,false_iff];omega) H.below
 have hhb12:=(aF hb12).imp (fun h=>of_decide_eq_false h) (fun h=>of_decide_eq_false h)
 refine go_seq fun K15 hK15=>?_
 refine q_reg [] [(0,.int .i32 r),(16,.bool ((decide ((192:Int)<=r)) && (decide (r<=591))))] (TT/\TT/\TT/\((decide ((192:Int)<=r))=true->True)/\((decide ((192:Int)<=r))=true->True)/\TT/\TT/\True) hA H ⟨tv,tv,tv,fun _=>trivial,fun _=>trivial,tv,tv,tv⟩ fun a w16 hA H hG=>?_
 refine hK15 _ _ ?_
 refine go_cond hA (.tmp 16) ((decide ((192:Int)<=r)) && (decide (r<=591))) (fun hb17=>?_) (fun hb17=>?_)
 .have hhb17:=(⟨of_decide_eq_true ((aT hb17).1),of_decide_eq_true ((aT hb17).2)⟩:_/\_)
  refine go_seq fun K18 hK18=>?_
  refine q_reg [] [(2,.bool ((!decide (r=215)) && (!decide (r=247))))] (TT/\TT/\TT/\((!decide (r=215))=true->True)/\((!decide (r=215))=true->True)/\TT/\TT/\True) hA H ⟨tv,tv,tv,fun _=>trivial,fun _=>trivial,tv,tv,tv⟩ fun a w19 hA H hG=>?_
  refine hK18 _ _ ?_
  refine go_ret_ ?_
  refine ret_one 2 (.bool ((!decide (r=215)) && (!decide (r=247)))) hA ?_
  exact ans_b (by rw[Bool.eq_iff_iff,letB_iff];unfold letP;simp only[Bool.and_eq_true,Bool.or_eq_true,Bool.and_eq_false_iff,Bool.or_eq_false_iff,Bool.not_eq_true',Bool.not_eq_false',decide_eq_true_eq,decide_eq_false_iff_not,beq_iff_eq,beq_eq_false_iff_ne,ne_eq,Bool.true_eq,Bool.false_eq,Bool.false_eq_true,iff_false,iff_true,true_iff,false_iff];omega) H.below
 have hhb17:=(aF hb17).imp (fun h=>of_decide_eq_false h) (fun h=>of_decide_eq_false h)
 refine go_seq fun K20 hK20=>?_
 refine q_reg [] [(0,.int .i32 r),(29,.bool ((decide ((913:Int)<=r)) && (decide (r<=969))))] (TT/\TT/\TT/\((decide ((913:Int)<=r))=true->True)/\((decide ((913:Int)<=r))=true->True)/\TT/\TT/\True) hA H ⟨tv,tv,tv,fun _=>trivial,fun _=>trivial,tv,tv,tv⟩ fun a w21 hA H hG=>?_
 refine hK20 _ _ ?_
 refine go_cond hA (.tmp 29) ((decide ((913:Int)<=r)) && (decide (r<=969))) (fun hb22=>?_) (fun hb22=>?_)
 .have hhb22:=(⟨of_decide_eq_true ((aT hb22).1),of_decide_eq_true ((aT hb22).2)⟩:_/\_)
  refine go_seq fun K23 hK23=>?_
  refine q_reg [] [(2,.bool (!decide (r=930)))] (TT/\TT/\TT/\True) hA H ⟨tv,tv,tv,tv⟩ fun a w24 hA H hG=>?_
  refine hK23 _ _ ?_
  refine go_ret_ ?_
  refine ret_one 2 (.bool (!decide (r=930))) hA ?_
  exact ans_b (by rw[Bool.eq_iff_iff,letB_iff];unfold letP;simp only[Bool.and_eq_true,Bool.or_eq_true,Bool.and_eq_false_iff,Bool.or_eq_false_iff,Bool.not_eq_true',Bool.not_eq_false',decide_eq_true_eq,decide_eq_false_iff_not,beq_iff_eq,beq_eq_false_iff_ne,ne_eq,Bool.true_eq,Bool.false_eq,Bool.false_eq_true,iff_false,iff_true,true_iff,false_iff];omega) H.below
 have hhb22:=(aF hb22).imp (fun h=>of_decide_eq_false h) (fun h=>of_decide_eq_false h)
 refine go_skip ?_
 refine hK3 _ _ ?_
 refine go_seq fun K25 hK25=>?_
 refine q_reg [] [(2,.bool ((decide ((1040:Int)<=r)) && (decide (r<=1103))))] (TT/\TT/\TT/\((decide ((1040:Int)<=r))=true->True)/\((decide ((1040:Int)<=r))=true->True)/\TT/\TT/\True) hA H ⟨tv,tv,tv,fun _=>trivial,fun _=>trivial,tv,tv,tv⟩ fun a w26 hA H hG=>?_
 refine hK25 _ _ ?_
 refine go_ret_ ?_
 refine ret_one 2 (.bool ((decide ((1040:Int)<=r)) && (decide (r<=1103)))) hA ?_
 exact ans_b (by rw[Bool.eq_iff_iff,letB_iff];unfold letP;simp only[Bool.and_eq_true,Bool.or_eq_true,Bool.and_eq_false_iff,Bool.or_eq_false_iff,Bool.not_eq_true',Bool.not_eq_false',decide_eq_true_eq,decide_eq_false_iff_not,beq_iff_eq,beq_eq_false_iff_ne,ne_eq,Bool.true_eq,Bool.false_eq,Bool.false_eq_true,iff_false,iff_true,true_iff,false_iff];omega) H.below
theorem mark_any (r:Int)(w:World):
 Calls Tryz.prog 56 [.int .i32 r].toArray w (Ans (.bool (markB r)) w):=by
 refine enter Tryz.f56 21 Tryz.func56 fun a hA=>?_
 replace hA:=env_sub [(0,.int .i32 r)] hA
 have H:=Fr.start (org w)
 refine go_seq fun K1 hK1=>?_
 refine q_reg [] [(0,.int .i32 r)] (TT/\True) hA H ⟨tv,tv⟩ fun a w2 hA H hG=>?_
 refine hK1 _ _ ?_
 refine go_seq fun K3 hK3=>?_
 refine q_reg [] [(2,.bool ((((decide (r=10))||((decide ((43:Int)<=r)) && (decide (r<=47))))||(decide (r=58)))||(decide (r=124))))] (TT/\TT/\TT/\((decide (r=10))=false->True)/\((decide (r=10))=false->True)/\((decide (r=10))=false->True)/\((decide (r=10))=false->(decide ((43:Int)<=r))=true->True)/\((decide (r=10))=false->(decide ((43:Int)<=r))=true->True)/\((decide (r=10))=false->True)/\TT/\TT/\(((decide (r=10))||((decide ((43:Int)<=r)) && (decide (r<=47))))=false->True)/\(((decide (r=10))||((decide ((43:Int)<=r)) && (decide (r<=47))))=false->True)/\TT/\TT/\((((decide (r=10))||((decide ((43:Int)<=r)) && (decide (r<=47))))||(decide (r=58)))=false->True)/\((((decide (r=10))||((decide ((43:Int)<=r)) && (decide (r<=47))))||(decide (r=58)))=false->True)/\TT/\TT/\True) hA H ⟨tv,tv,tv,fun _=>trivial,fun _=>trivial,fun _=>trivial,fun _ _=>trivial,fun _ _=>trivial,fun _=>trivial,tv,tv,fun _=>trivial,fun _=>trivial,tv,tv,fun _=>trivial,fun _=>trivial,tv,tv,tv⟩ fun a w4 hA H hG=>?_
 refine hK3 _ _ ?_
 refine go_ret_ ?_
 refine ret_one 2 (.bool ((((decide (r=10))||((decide ((43:Int)<=r)) && (decide (r<=47))))||(decide (r=58)))||(decide (r=124)))) hA ?_
 exact ans_b (by unfold markB;rw[Bool.eq_iff_iff];simp only[Bool.and_eq_true,Bool.or_eq_true,Bool.and_eq_false_iff,Bool.or_eq_false_iff,Bool.not_eq_true',Bool.not_eq_false',decide_eq_true_eq,decide_eq_false_iff_not,beq_iff_eq,beq_eq_false_iff_ne,ne_eq,Bool.true_eq,Bool.false_eq];omega) H.below
theorem class_any (r:Int)(w:World):
 Calls Tryz.prog 55 [.int .i32 r].toArray w (Ans (.int .i64 (cls r)) w):=by
 refine enter Tryz.f55 25 Tryz.func55 fun a hA=>?_
 replace hA:=env_sub [(0,.int .i32 r)] hA
 have H:=Fr.start (org w)
 refine go_seq fun K1 hK1=>?_
 refine q_reg [] [(0,.int .i32 r)] (TT/\True) hA H ⟨tv,tv⟩ fun a w2 hA H hG=>?_
 refine hK1 _ _ ?_
 refine go_seq fun K3 hK3=>?_
 refine go_block 0 ?_
 refine go_seq fun K4 hK4=>?_
 refine q_reg [] [(0,.int .i32 r),(3,.bool (decide (r=32)))] (TT/\TT/\TT/\True) hA H ⟨tv,tv,tv,tv⟩ fun a w5 hA H hG=>?_
 refine hK4 _ _ ?_
 refine go_cond hA (.tmp 3) (decide (r=32)) (fun hb6=>?_) (fun hb6=>?_)
 .have hhb6:=of_decide_eq_true hb6
  refine go_seq fun K7 hK7=>?_
  refine q_reg [] [(2,iv 4)] (TT/\True) hA H ⟨tv,tv⟩ fun a w8 hA H hG=>?_
  refine hK7 _ _ ?_
  refine go_ret_ ?_
  refine ret_one 2 (.int .i64 4) hA ?_
  exact ans_i (by unfold cls letP;(repeat' split)<;>omega) H.below
 have hhb6:=of_decide_eq_false hb6
 refine go_seq fun K9 hK9=>?_
 refine q_reg [] [(0,.int .i32 r),(6,.bool ((decide ((48:Int)<=r)) && (decide (r<=57))))] (TT/\TT/\TT/\((decide ((48:Int)<=r))=true->True)/\((decide ((48:Int)<=r))=true->True)/\TT/\TT/\True) hA H ⟨tv,tv,tv,fun _=>trivial,fun _=>trivial,tv,tv,tv⟩ fun a w10 hA H hG=>?_
 refine hK9 _ _ ?_
 refine go_cond hA (.tmp 6) ((decide ((48:Int)<=r)) && (decide (r<=57))) (fun hb11=>?_) (fun hb11=>?_)
 .have hhb11:=(⟨of_decide_eq_true ((aT hb11).1),of_decide_eq_true ((aT hb11).2)⟩:_/\_)
  refine go_seq fun K12 hK12=>?_
  refine q_reg [] [(2,iv 2)] (TT/\True) hA H ⟨tv,tv⟩ fun a w13 hA H hG=>?_
  refine hK12 _ _ ?_
  refine go_ret_ ?_
  refine ret_one 2 (.int .i64 2) hA ?_
  exact ans_i (by unfold cls letP;(repeat' split)<;>omega) H.below
 have hhb11:=(aF hb11).imp (fun h=>of_decide_eq_false h) (fun h=>of_decide_eq_false h)
 refine go_seq fun K14 hK14=>?_
 refine go_seq fun K15 hK15=>?_
 refine q_reg [] [(0,.int .i32 r),(13,.bool (decide (r=95)))] (TT/\TT/\TT/\True) hA H ⟨tv,tv,tv,tv⟩ fun a w16 hA H hG=>?_
 refine hK15 _ _ ?_
 refine go_cond hA (.tmp 13) (decide (r=95)) (fun hb17=>?_) (fun hb17=>?_)
 .have hhb17:=of_decide_eq_true hb17
  refine go_skip ?_
  refine hK14 _ _ ?_
  refine go_cond hA (.tmp 13) (decide (r=95)) (fun _=>?_) (fun h=>absurd (h.symm.trans hb17) (by decide))
  refine go_seq fun K19 hK19=>?_
  refine q_reg [] [(2,iv 3)] (TT/\True) hA H ⟨tv,tv⟩ fun a w20 hA H hG=>?_
  refine hK19 _ _ ?_
  refine go_ret_ ?_
  refine ret_one 2 (.int .i64 3) hA ?_
  exact ans_i (by unfold cls letP;(repeat' split)<;>omega) H.below
 have hhb17:=of_decide_eq_false hb17
 refine q_reg [] [(0,.int .i32 r),(13,.bool ((decide ((8242:Int)<=r)) && (decide (r<=8244))))] (TT/\TT/\TT/\((decide ((8242:Int)<=r))=true->True)/\((decide ((8242:Int)<=r))=true->True)/\TT/\TT/\True) hA H ⟨tv,tv,tv,fun _=>trivial,fun _=>trivial,tv,tv,tv⟩ fun a w21 hA H hG=>?_
 refine hK14 _ _ ?_
 refine go_cond hA (.tmp 13) ((decide ((8242:Int)<=r)) && (decide (r<=8244))) (fun hb22=>?_) (fun hb22=>?_)
 .have hhb22:=(⟨of_decide_eq_true ((aT hb22).1),of_decide_eq_true ((aT hb22).2)⟩:_/\_)
  refine go_seq fun K23 hK23=>?_
  refine q_reg [] [(2,iv 3)] (TT/\True) hA H ⟨tv,tv⟩ fun a w24 hA H hG=>?_
  refine hK23 _ _ ?_
  refine go_ret_ ?_
  refine ret_one 2 (.int .i64 3) hA ?_
  exact ans_i (by unfold cls letP;(repeat' split)<;>omega) H.below
 have hhb22:=(aF hb22).imp (fun h=>of_decide_eq_false h) (fun h=>of_decide_eq_false h)
 refine go_seq fun K25 hK25=>?_
 refine q_reg [(24,.bool (letB r))] [(22,.bool (letB r))] (TT/\(Callable Tryz.prog 83/\CallOk Tryz.prog (On w21) 83 [.int .i32 r].toArray (.bool (letB r)))/\TT/\True) hA H ⟨tv,⟨callable_of,callOk_of fun w hw=>by exact letter_any r w⟩,tv,tv⟩ fun a w26 hA H hG=>?_
 refine hK25 _ _ ?_
 refine go_cond hA (.tmp 22) (letB r) (fun hb27=>?_) (fun hb27=>?_)
 .have hhb27:=hb27
  refine go_seq fun K28 hK28=>?_
  refine q_reg [] [(2,iv 1)] (TT/\True) hA H ⟨tv,tv⟩ fun a w29 hA H hG=>?_
  refine hK28 _ _ ?_
  refine go_ret_ ?_
  refine ret_one 2 (.int .i64 1) hA ?_
  exact ans_i (by simp only[letB_iff,letB_niff] at hhb27;unfold letP at hhb27;unfold cls letP;(repeat' split)<;>omega) H.below
 have hhb27:=hb27
 refine go_skip ?_
 refine hK3 _ _ ?_
 refine go_seq fun K30 hK30=>?_
 refine q_reg [] [(2,iv 0)] (TT/\True) hA H ⟨tv,tv⟩ fun a w31 hA H hG=>?_
 refine hK30 _ _ ?_
 refine go_ret_ ?_
 refine ret_one 2 (.int .i64 0) hA ?_
 exact ans_i (by simp only[letB_iff,letB_niff] at hhb27;unfold letP at hhb27;unfold cls letP;(repeat' split)<;>omega) H.below
theorem Tryz.E104:Elem Tryz.prog 104 135 (Data.size (Int×ByteArray)) 24:=elem_of (z:=.agg #[.int .i64 0,.string ⟨#[]⟩]) Tryz.underlying104 (by kernel_rfl) rfl (by decide)
theorem name_any (s:ByteArray)(w:World):
 Calls Tryz.prog 40 [.string s].toArray w (Ans (.bool (nameB s)) w):=by
 refine enter Tryz.f40 42 Tryz.func40 fun a hA=>?_
 replace hA:=env_sub [(0,.string s)] hA
 have H:=Fr.start (org w)
 refine go_seq fun K1 hK1=>?_
 refine q_reg [] [(0,.string s)] (TT/\True) hA H ⟨tv,tv⟩ fun a w2 hA H hG=>?_
 refine hK1 _ _ ?_
 refine go_seq fun K3 hK3=>?_
 refine q_reg [] [(0,.string s),(3,iv 0),(4,iv 0)] (TT/\TT/\True) hA H ⟨tv,tv,tv⟩ fun a w4 hA H hG=>?_
 refine hK3 _ _ ?_
 refine go_seq fun K5 hK5=>?_
 refine go_seq fun K6 hK6=>?_
 refine region_list ?_
 refine q_list 0 1 [] [(3,iv 0),(4,iv 0),(7,.string s)] (TT/\True) hA H ⟨tv,tv⟩ fun a w7 hA H hG=>?_
 refine list_at 1 ?_;refine q_range 1 8 9 (.tmp 7) s [(3,iv 0),(4,iv 0)] hA H Tryz.underlying9 fun b8 a w9 H hA hG hge_b8=>?_
 clear hge_b8
 refine list_end ?_
 refine hK6 _ _ ?_
 refine go_block 0 ?_
 refine go_loop_ (Nat×Int×Int) (fun x_ a W=>(fun(pos:Nat) (n:Int) (k:Int)=>EnvOk 42 a (keepEnv [(3,iv n),(4,iv k),(8,pv b8)])/\(∃S,Fr (org w) W S [.iter b8 s pos])/\0<=n/\n<=16/\0<=k/\k<=3/\nameGo (runes s pos) n k=nameB s) x_.1 x_.2.1 x_.2.2) (fun x_=>(fun(pos:Nat) (n:Int) (k:Int)=>s.size-pos) x_.1 x_.2.1 x_.2.2) (0,0,0) ?_ (fun x_ a w11 hI=>?_)
 ·(try dsimp only);exact⟨env_sub _ hA,⟨_,H⟩,by omega,by omega,by omega,by omega,rfl⟩
 obtain⟨pos,n,k⟩:=x_
 obtain⟨hA,⟨S,H⟩,h1,h2,h3,h4,hi⟩:=hI
 try dsimp only at h1 h2 h3 h4 hi
 replace H:Fr _ _ _ [.iter b8 s pos]:=H
 refine go_seq fun K12 hK12=>?_
 refine region_list ?_
 refine list_at 0 ?_;refine q_next 0 9 (.tmp 8) 0 b8 s pos [(3,iv n),(4,iv k),(8,pv b8)] hA H rfl (fun hp13 a w14 H hA hG=>?_) (fun hp13 a hA=>?_)
 .replace H:Fr _ _ _ [.iter b8 s (pos+(Utf8.decode s pos).2)]:=H
  have hwd:=width_pos s pos hp13
  refine q_list 1 1 [] [(3,iv n),(4,iv k),(8,pv b8),(9,.tuple #[.bool true,.int .i64 (pos:Int),.int .i32 ((Utf8.decode s pos).1:Int)]),(10,.bool true)] (TT/\True) hA H ⟨tv,tv⟩ fun a w15 hA H hG=>?_
  refine list_end ?_
  refine hK12 _ _ ?_
  refine go_seq fun K16 hK16=>?_
  refine go_cond hA (.tmp 10) true (fun _=>?_) (fun h=>by cases h)
  refine go_skip ?_
  refine hK16 _ _ ?_
  refine go_block 1 ?_
  refine go_seq fun K18 hK18=>?_
  refine q_reg [] [(3,iv n),(4,iv k),(6,.int .i32 ((Utf8.decode s pos).1:Int)),(8,pv b8)] (TT/\TT/\True) hA H ⟨tv,tv,tv⟩ fun a w19 hA H hG=>?_
  refine hK18 _ _ ?_
  refine go_seq fun K20 hK20=>?_
  refine q_reg [] [(3,iv (n+1)),(4,iv k),(6,.int .i32 ((Utf8.decode s pos).1:Int)),(8,pv b8)] (TT/\(InR .i64 (n+1))/\TT/\True) hA H ⟨tv,⟨by omega,by omega⟩,tv,tv⟩ fun a w21 hA H hG=>?_
  refine hK20 _ _ ?_
  refine go_seq fun K22 hK22=>?_
  refine go_seq fun K23 hK23=>?_
  refine q_reg [(15,iv (cls ((Utf8.decode s pos).1:Int)))] [(3,iv (n+1)),(4,iv k),(8,pv b8),(15,iv (cls ((Utf8.decode s pos).1:Int)))] (TT/\(Callable Tryz.prog 55/\CallOk Tryz.prog (On w21) 55 [.int .i32 ((Utf8.decode s pos).1:Int)].toArray (.int .i64 (cls ((Utf8.decode s pos).1:Int))))/\True) hA H ⟨tv,⟨callable_of,callOk_of fun w hw=>by exact class_any ((Utf8.decode s pos).1:Int) w⟩,tv⟩ fun a w24 hA H hG=>?_
  refine hK23 _ _ ?_
  refine go_block 2 ?_
  refine go_seq fun K25 hK25=>?_
  refine q_reg [] [(3,iv (n+1)),(4,iv k),(8,pv b8),(15,iv (cls ((Utf8.decode s pos).1:Int))),(16,.bool (decide (cls ((Utf8.decode s pos).1:Int)=1)))] (TT/\TT/\True) hA H ⟨tv,tv,tv⟩ fun a w26 hA H hG=>?_
  refine hK25 _ _ ?_
  refine go_cond hA (.tmp 16) (decide (cls ((Utf8.decode s pos).1:Int)=1)) (fun hb27=>?_) (fun hb27=>?_)
  .have hhb27:=of_decide_eq_true hb27
   refine go_seq fun K28 hK28=>?_
   refine q_reg [] [(3,iv (n+1)),(4,iv k),(8,pv b8),(19,.bool (decide ((0:Int)<k)))] (TT/\TT/\True) hA H ⟨tv,tv,tv⟩ fun a w29 hA H hG=>?_
   refine hK28 _ _ ?_
   refine go_cond hA (.tmp 19) (decide ((0:Int)<k)) (fun hb30=>?_) (fun hb30=>?_)
   .have hhb30:=of_decide_eq_true hb30
    refine go_seq fun K31 hK31=>?_
    refine q_reg [] [(2,.bool false)] (TT/\True) hA H ⟨tv,tv⟩ fun a w32 hA H hG=>?_
    refine hK31 _ _ ?_
    refine go_ret_ ?_
    refine ret_one 2 (.bool false) hA ?_
    exact ans_b (by rw[<-hi];first|(rw[runes_cons s pos hp13];simp only[nameGo];simp[hhb27,hhb30];done)|(rw[runes_cons s pos hp13];simp only[nameGo];simp[hhb27,hhb30];intros;omega)|(rw[runes_nil s pos hp13];rfl)) H.below
   have hhb30:=of_decide_eq_false hb30
   refine go_skip ?_
   refine hK22 _ _ ?_
   refine go_seq fun K33 hK33=>?_
   refine q_reg [] [(3,iv (n+1)),(4,iv k),(8,pv b8),(39,.bool ((decide ((16:Int)<n+1))||(decide ((3:Int)<k))))] (TT/\TT/\TT/\((decide ((16:Int)<n+1))=false->True)/\((decide ((16:Int)<n+1))=false->True)/\TT/\True) hA H ⟨tv,tv,tv,fun _=>trivial,fun _=>trivial,tv,tv⟩ fun a w34 hA H hG=>?_
   refine hK33 _ _ ?_
   refine go_cond hA (.tmp 39) ((decide ((16:Int)<n+1))||(decide ((3:Int)<k))) (fun hb35=>?_) (fun hb35=>?_)
   .have hhb35:=(oT hb35).imp (fun h=>of_decide_eq_true h) (fun h=>of_decide_eq_true h)
    refine go_seq fun K36 hK36=>?_
    refine q_reg [] [(2,.bool false)] (TT/\True) hA H ⟨tv,tv⟩ fun a w37 hA H hG=>?_
    refine hK36 _ _ ?_
    refine go_ret_ ?_
    refine ret_one 2 (.bool false) hA ?_
    exact ans_b (by rw[<-hi];first|(rw[runes_cons s pos hp13];simp only[nameGo];simp[hhb27,hhb30,hhb35];done)|(rw[runes_cons s pos hp13];simp only[nameGo];simp[hhb27,hhb30,hhb35];intros;omega)|(rw[runes_nil s pos hp13];rfl)) H.below
   have hhb35:=(⟨of_decide_eq_false ((oF hb35).1),of_decide_eq_false ((oF hb35).2)⟩:_/\_)
   refine go_skip ?_
   refine⟨(pos+(Utf8.decode s pos).2,n+1,k),⟨env_sub _ hA,⟨_,H⟩,?_⟩,?_⟩
   ·(try dsimp only);exact⟨by omega,by omega,by omega,by omega,by have hi2:=hi;rw[runes_cons s pos hp13] at hi2;simp only[nameGo] at hi2;simp[hhb27,hhb30,hhb35] at hi2;exact hi2⟩
   (try dsimp only);omega
  have hhb27:=of_decide_eq_false hb27
  refine go_seq fun K38 hK38=>?_
  refine q_reg [] [(3,iv (n+1)),(4,iv k),(8,pv b8),(15,iv (cls ((Utf8.decode s pos).1:Int))),(20,.bool (decide (cls ((Utf8.decode s pos).1:Int)=2)))] (TT/\TT/\True) hA H ⟨tv,tv,tv⟩ fun a w39 hA H hG=>?_
  refine hK38 _ _ ?_
  refine go_cond hA (.tmp 20) (decide (cls ((Utf8.decode s pos).1:Int)=2)) (fun hb40=>?_) (fun hb40=>?_)
  .have hhb40:=of_decide_eq_true hb40
   refine go_seq fun K41 hK41=>?_
   refine q_reg [] [(3,iv (n+1)),(4,iv k),(8,pv b8),(27,.bool ((decide (n+1=1))||(decide ((0:Int)<k))))] (TT/\TT/\TT/\((decide (n+1=1))=false->True)/\((decide (n+1=1))=false->True)/\TT/\True) hA H ⟨tv,tv,tv,fun _=>trivial,fun _=>trivial,tv,tv⟩ fun a w42 hA H hG=>?_
   refine hK41 _ _ ?_
   refine go_cond hA (.tmp 27) ((decide (n+1=1))||(decide ((0:Int)<k))) (fun hb43=>?_) (fun hb43=>?_)
   .have hhb43:=(oT hb43).imp (fun h=>of_decide_eq_true h) (fun h=>of_decide_eq_true h)
    refine go_seq fun K44 hK44=>?_
    refine q_reg [] [(2,.bool false)] (TT/\True) hA H ⟨tv,tv⟩ fun a w45 hA H hG=>?_
    refine hK44 _ _ ?_
    refine go_ret_ ?_
    refine ret_one 2 (.bool false) hA ?_
    exact ans_b (by rw[<-hi];first|(rw[runes_cons s pos hp13];simp only[nameGo];simp[hhb27,hhb40,hhb43];done)|(rw[runes_cons s pos hp13];simp only[nameGo];simp[hhb27,hhb40,hhb43];intros;omega)|(rw[runes_nil s pos hp13];rfl)) H.below
   have hhb43:=(⟨of_decide_eq_false ((oF hb43).1),of_decide_eq_false ((oF hb43).2)⟩:_/\_)
   refine go_skip ?_
   refine hK22 _ _ ?_
   refine go_seq fun K46 hK46=>?_
   refine q_reg [] [(3,iv (n+1)),(4,iv k),(8,pv b8),(39,.bool ((decide ((16:Int)<n+1))||(decide ((3:Int)<k))))] (TT/\TT/\TT/\((decide ((16:Int)<n+1))=false->True)/\((decide ((16:Int)<n+1))=false->True)/\TT/\True) hA H ⟨tv,tv,tv,fun _=>trivial,fun _=>trivial,tv,tv⟩ fun a w47 hA H hG=>?_
   refine hK46 _ _ ?_
   refine go_cond hA (.tmp 39) ((decide ((16:Int)<n+1))||(decide ((3:Int)<k))) (fun hb48=>?_) (fun hb48=>?_)
   .have hhb48:=(oT hb48).imp (fun h=>of_decide_eq_true h) (fun h=>of_decide_eq_true h)
    refine go_seq fun K49 hK49=>?_
    refine q_reg [] [(2,.bool false)] (TT/\True) hA H ⟨tv,tv⟩ fun a w50 hA H hG=>?_
    refine hK49 _ _ ?_
    refine go_ret_ ?_
    refine ret_one 2 (.bool false) hA ?_
    exact ans_b (by rw[<-hi];first|(rw[runes_cons s pos hp13];simp only[nameGo];simp[hhb27,hhb40,hhb43,hhb48];done)|(rw[runes_cons s pos hp13];simp only[nameGo];simp[hhb27,hhb40,hhb43,hhb48];intros;omega)|(rw[runes_nil s pos hp13];rfl)) H.below
   have hhb48:=(⟨of_decide_eq_false ((oF hb48).1),of_decide_eq_false ((oF hb48).2)⟩:_/\_)
   refine go_skip ?_
   refine⟨(pos+(Utf8.decode s pos).2,n+1,k),⟨env_sub _ hA,⟨_,H⟩,?_⟩,?_⟩
   ·(try dsimp only);exact⟨by omega,by omega,by omega,by omega,by have hi2:=hi;rw[runes_cons s pos hp13] at hi2;simp only[nameGo] at hi2;simp[hhb27,hhb40,hhb43,hhb48] at hi2;exact hi2⟩
   (try dsimp only);omega
  have hhb40:=of_decide_eq_false hb40
  refine go_seq fun K51 hK51=>?_
  refine q_reg [] [(3,iv (n+1)),(4,iv k),(8,pv b8),(28,.bool (decide (cls ((Utf8.decode s pos).1:Int)=3)))] (TT/\TT/\True) hA H ⟨tv,tv,tv⟩ fun a w52 hA H hG=>?_
  refine hK51 _ _ ?_
  refine go_cond hA (.tmp 28) (decide (cls ((Utf8.decode s pos).1:Int)=3)) (fun hb53=>?_) (fun hb53=>?_)
  .have hhb53:=of_decide_eq_true hb53
   refine go_seq fun K54 hK54=>?_
   refine go_seq fun K55 hK55=>?_
   refine q_reg [] [(3,iv (n+1)),(4,iv k),(8,pv b8),(31,.bool (decide (n+1=1)))] (TT/\TT/\True) hA H ⟨tv,tv,tv⟩ fun a w56 hA H hG=>?_
   refine hK55 _ _ ?_
   refine go_cond hA (.tmp 31) (decide (n+1=1)) (fun hb57=>?_) (fun hb57=>?_)
   .have hhb57:=of_decide_eq_true hb57
    refine go_seq fun K58 hK58=>?_
    refine q_reg [] [(2,.bool false)] (TT/\True) hA H ⟨tv,tv⟩ fun a w59 hA H hG=>?_
    refine hK58 _ _ ?_
    refine go_ret_ ?_
    refine ret_one 2 (.bool false) hA ?_
    exact ans_b (by rw[<-hi];first|(rw[runes_cons s pos hp13];simp only[nameGo];simp[hhb27,hhb40,hhb53,hhb57];done)|(rw[runes_cons s pos hp13];simp only[nameGo];simp[hhb27,hhb40,hhb53,hhb57];intros;omega)|(rw[runes_nil s pos hp13];rfl)) H.below
   have hhb57:=of_decide_eq_false hb57
   refine go_skip ?_
   refine hK54 _ _ ?_
   refine q_reg [] [(3,iv (n+1)),(4,iv (k+1)),(8,pv b8)] (TT/\(InR .i64 (k+1))/\TT/\True) hA H ⟨tv,⟨by omega,by omega⟩,tv,tv⟩ fun a w60 hA H hG=>?_
   refine hK22 _ _ ?_
   refine go_seq fun K61 hK61=>?_
   refine q_reg [] [(3,iv (n+1)),(4,iv (k+1)),(8,pv b8),(39,.bool ((decide ((16:Int)<n+1))||(decide ((3:Int)<k+1))))] (TT/\TT/\TT/\((decide ((16:Int)<n+1))=false->True)/\((decide ((16:Int)<n+1))=false->True)/\TT/\True) hA H ⟨tv,tv,tv,fun _=>trivial,fun _=>trivial,tv,tv⟩ fun a w62 hA H hG=>?_
   refine hK61 _ _ ?_
   refine go_cond hA (.tmp 39) ((decide ((16:Int)<n+1))||(decide ((3:Int)<k+1))) (fun hb63=>?_) (fun hb63=>?_)
   .have hhb63:=(oT hb63).imp (fun h=>of_decide_eq_true h) (fun h=>of_decide_eq_true h)
    refine go_seq fun K64 hK64=>?_
    refine q_reg [] [(2,.bool false)] (TT/\True) hA H ⟨tv,tv⟩ fun a w65 hA H hG=>?_
    refine hK64 _ _ ?_
    refine go_ret_ ?_
    refine ret_one 2 (.bool false) hA ?_
    exact ans_b (by rw[<-hi];first|(rw[runes_cons s pos hp13];simp only[nameGo];simp[hhb27,hhb40,hhb53,hhb57,hhb63];done)|(rw[runes_cons s pos hp13];simp only[nameGo];simp[hhb27,hhb40,hhb53,hhb57,hhb63];intros;omega)|(rw[runes_nil s pos hp13];rfl)) H.below
   have hhb63:=(⟨of_decide_eq_false ((oF hb63).1),of_decide_eq_false ((oF hb63).2)⟩:_/\_)
   refine go_skip ?_
   refine⟨(pos+(Utf8.decode s pos).2,n+1,k+1),⟨env_sub _ hA,⟨_,H⟩,?_⟩,?_⟩
   ·(try dsimp only);exact⟨by omega,by omega,by omega,by omega,by have hi2:=hi;rw[runes_cons s pos hp13] at hi2;simp only[nameGo] at hi2;simp[hhb27,hhb40,hhb53,hhb57,hhb63] at hi2;exact hi2⟩
   (try dsimp only);omega
  have hhb53:=of_decide_eq_false hb53
  refine go_seq fun K66 hK66=>?_
  refine q_reg [] [(2,.bool false)] (TT/\True) hA H ⟨tv,tv⟩ fun a w67 hA H hG=>?_
  refine hK66 _ _ ?_
  refine go_ret_ ?_
  refine ret_one 2 (.bool false) hA ?_
  exact ans_b (by rw[<-hi];first|(rw[runes_cons s pos hp13];simp only[nameGo];simp[hhb27,hhb40,hhb53];done)|(rw[runes_cons s pos hp13];simp only[nameGo];simp[hhb27,hhb40,hhb53];intros;omega)|(rw[runes_nil s pos hp13];rfl)) H.below
 skip
 refine q_list 1 1 [] [(3,iv n),(4,iv k),(8,pv b8),(9,.tuple #[.bool false]),(10,.bool false)] (TT/\True) hA H ⟨tv,tv⟩ fun a w68 hA H hG=>?_
 refine list_end ?_
 refine hK12 _ _ ?_
 refine go_seq fun K69 hK69=>?_
 refine go_cond hA (.tmp 10) false (fun h=>by cases h) (fun _=>?_)
 refine go_exit 0 ?_
 refine hK5 _ _ ?_
 refine go_seq fun K71 hK71=>?_
 refine q_reg [] [(2,.bool (decide ((0:Int)<n)))] (TT/\TT/\TT/\True) hA H ⟨tv,tv,tv,tv⟩ fun a w72 hA H hG=>?_
 refine hK71 _ _ ?_
 refine go_ret_ ?_
 refine ret_one 2 (.bool (decide ((0:Int)<n))) hA ?_
 exact ans_b (by rw[<-hi];first|(rw[runes_cons s pos hp13];simp only[nameGo];simp[];done)|(rw[runes_cons s pos hp13];simp only[nameGo];simp[];intros;omega)|(rw[runes_nil s pos hp13];rfl)) H.below
theorem bad_any (s:ByteArray)(w:World):
 Calls Tryz.prog 33 [.string s].toArray w (Ans (.tuple #[.int .i64 (badB s).1,.bool (badB s).2]) w):=by
 refine enter Tryz.f33 21 Tryz.func33 fun a hA=>?_
 replace hA:=env_sub [(0,.string s)] hA
 have H:=Fr.start (org w)
 refine go_seq fun K1 hK1=>?_
 refine q_reg [] [(0,.string s)] (TT/\TT/\True) hA H ⟨tv,tv,tv⟩ fun a w2 hA H hG=>?_
 refine hK1 _ _ ?_
 refine go_seq fun K3 hK3=>?_
 refine go_seq fun K4 hK4=>?_
 refine region_list ?_
 refine q_list 0 1 [] [(6,.string s)] (TT/\True) hA H ⟨tv,tv⟩ fun a w5 hA H hG=>?_
 refine list_at 1 ?_;refine q_range 1 7 9 (.tmp 6) s [] hA H Tryz.underlying9 fun b6 a w7 H hA hG hge_b6=>?_
 clear hge_b6
 refine list_end ?_
 refine hK4 _ _ ?_
 refine go_block 0 ?_
 refine go_loop_ (Nat) (fun x_ a W=>(fun(pos:Nat)=>EnvOk 21 a (keepEnv [(7,pv b6)])/\(∃S,Fr (org w) W S [.iter b6 s pos])/\badGo (runes s pos)=badB s) x_) (fun x_=>(fun(pos:Nat)=>s.size-pos) x_) (0) ?_ (fun pos a w9 hI=>?_)
 ·(try dsimp only);exact⟨env_sub _ hA,⟨_,H⟩,rfl⟩
 obtain⟨hA,⟨S,H⟩,hi⟩:=hI
 try dsimp only at hi
 refine go_seq fun K10 hK10=>?_
 refine region_list ?_
 refine list_at 0 ?_;refine q_next 0 8 (.tmp 7) 0 b6 s pos [(7,pv b6)] hA H rfl (fun hp11 a w12 H hA hG=>?_) (fun hp11 a hA=>?_)
 .replace H:Fr _ _ _ [.iter b6 s (pos+(Utf8.decode s pos).2)]:=H
  have hwd:=width_pos s pos hp11
  refine q_list 1 1 [] [(7,pv b6),(8,.tuple #[.bool true,.int .i64 (pos:Int),.int .i32 ((Utf8.decode s pos).1:Int)]),(9,.bool true)] (TT/\True) hA H ⟨tv,tv⟩ fun a w13 hA H hG=>?_
  refine list_end ?_
  refine hK10 _ _ ?_
  refine go_seq fun K14 hK14=>?_
  refine go_cond hA (.tmp 9) true (fun _=>?_) (fun h=>by cases h)
  refine go_skip ?_
  refine hK14 _ _ ?_
  refine go_block 1 ?_
  refine go_seq fun K16 hK16=>?_
  refine q_reg [] [(4,iv (pos:Int)),(5,.int .i32 ((Utf8.decode s pos).1:Int)),(7,pv b6)] (TT/\TT/\TT/\TT/\True) hA H ⟨tv,tv,tv,tv,tv⟩ fun a w17 hA H hG=>?_
  refine hK16 _ _ ?_
  refine go_seq fun K18 hK18=>?_
  refine q_reg [(13,iv (cls ((Utf8.decode s pos).1:Int))),(17,.bool (markB ((Utf8.decode s pos).1:Int)))] [(4,iv (pos:Int)),(7,pv b6),(19,.bool ((decide (cls ((Utf8.decode s pos).1:Int)=0)) && (!(markB ((Utf8.decode s pos).1:Int)))))] (TT/\(Callable Tryz.prog 55/\CallOk Tryz.prog (On w17) 55 [.int .i32 ((Utf8.decode s pos).1:Int)].toArray (.int .i64 (cls ((Utf8.decode s pos).1:Int))))/\TT/\TT/\((decide (cls ((Utf8.decode s pos).1:Int)=0))=true->True)/\((decide (cls ((Utf8.decode s pos).1:Int)=0))=true->Callable Tryz.prog 56/\CallOk Tryz.prog (On w17) 56 [.int .i32 ((Utf8.decode s pos).1:Int)].toArray (.bool (markB ((Utf8.decode s pos).1:Int))))/\((decide (cls ((Utf8.decode s pos).1:Int)=0))=true->True)/\TT/\True) hA H ⟨tv,⟨callable_of,callOk_of fun w hw=>by exact class_any ((Utf8.decode s pos).1:Int) w⟩,tv,tv,fun _=>trivial,fun _=>⟨callable_of,callOk_of fun w hw=>by exact mark_any ((Utf8.decode s pos).1:Int) w⟩,fun _=>trivial,tv,tv⟩ fun a w19 hA H hG=>?_
  refine hK18 _ _ ?_
  refine go_cond hA (.tmp 19) ((decide (cls ((Utf8.decode s pos).1:Int)=0)) && (!(markB ((Utf8.decode s pos).1:Int)))) (fun hb20=>?_) (fun hb20=>?_)
  .have hhb20:=(⟨of_decide_eq_true ((aT hb20).1),(nT ((aT hb20).2))⟩:_/\_)
   refine go_seq fun K21 hK21=>?_
   refine q_reg [] [(2,iv (pos:Int)),(3,.bool true)] (TT/\TT/\TT/\True) hA H ⟨tv,tv,tv,tv⟩ fun a w22 hA H hG=>?_
   refine hK21 _ _ ?_
   refine go_ret_ ?_
   refine ret_two 2 3 (.int .i64 (pos:Int)) (.bool true) hA ?_
   exact ans_bi (by rw[<-hi,runes_cons s pos hp11];simp only[badGo];rw[if_pos ⟨hhb20.1,hhb20.2⟩];exact⟨rfl,rfl⟩) H.below
  have hhb20:=(aF hb20).imp (fun h=>of_decide_eq_false h) (fun h=>(nF h))
  refine go_skip ?_
  refine⟨(pos+(Utf8.decode s pos).2),⟨env_sub _ hA,⟨_,H⟩,?_⟩,?_⟩
  ·(try dsimp only);exact by have hi2:=hi;rw[runes_cons s pos hp11] at hi2;simp only[badGo] at hi2;rw[if_neg (by intro hh;have h:=hhb20;simp_all)] at hi2;exact hi2
  (try dsimp only);omega
 skip
 refine q_list 1 1 [] [(7,pv b6),(8,.tuple #[.bool false]),(9,.bool false)] (TT/\True) hA H ⟨tv,tv⟩ fun a w23 hA H hG=>?_
 refine list_end ?_
 refine hK10 _ _ ?_
 refine go_seq fun K24 hK24=>?_
 refine go_cond hA (.tmp 9) false (fun h=>by cases h) (fun _=>?_)
 refine go_exit 0 ?_
 refine hK3 _ _ ?_
 refine go_seq fun K26 hK26=>?_
 refine q_reg [] [(2,iv 0),(3,.bool false)] (TT/\TT/\True) hA H ⟨tv,tv,tv⟩ fun a w27 hA H hG=>?_
 refine hK26 _ _ ?_
 refine go_ret_ ?_
 refine ret_two 2 3 (.int .i64 0) (.bool false) hA ?_
 exact ans_bi (by rw[<-hi,runes_nil s pos hp11];exact⟨rfl,rfl⟩) H.below
theorem split_any (s:ByteArray)(o:Orig)(hs:s.size<=1000000000):
 Calls Tryz.prog 36 [.string s].toArray o.w (Giv o (fun S v w'=>Rd S w' v (wordsB s))):=by
 refine enter Tryz.f36 49 Tryz.func36 fun a hA=>?_
 replace hA:=env_sub [(0,.string s)] hA
 have H:=Fr.start o
 refine go_seq fun K1 hK1=>?_
 refine q_reg [] [(0,.string s)] (TT/\True) hA H ⟨tv,tv⟩ fun a w2 hA H hG=>?_
 refine hK1 _ _ ?_
 refine go_seq fun K3 hK3=>?_
 refine q_reg [] [(0,.string s),(3,(.slice none 0 0))] (TT/\True) hA H ⟨tv,tv⟩ fun a w4 hA H hG=>?_
 refine hK3 _ _ ?_
 refine go_seq fun K5 hK5=>?_
 refine q_reg [] [(0,.string s),(3,(.slice none 0 0)),(4,iv (-1))] (TT/\True) hA H ⟨tv,tv⟩ fun a w6 hA H hG=>?_
 refine hK5 _ _ ?_
 refine go_seq fun K7 hK7=>?_
 refine go_seq fun K8 hK8=>?_
 refine region_list ?_
 refine q_list 0 1 [] [(0,.string s),(3,(.slice none 0 0)),(4,iv (-1)),(8,.string s)] (TT/\True) hA H ⟨tv,tv⟩ fun a w9 hA H hG=>?_
 refine list_at 1 ?_;refine q_range 1 9 9 (.tmp 8) s [(0,.string s),(3,(.slice none 0 0)),(4,iv (-1))] hA H Tryz.underlying9 fun b10 a w11 H hA hG hge_b10=>?_
 clear hge_b10
 refine list_end ?_
 refine hK8 _ _ ?_
 refine go_block 0 ?_
 replace H:=H.newRow (α:=Int×ByteArray) 135
 replace H:Fr _ _ _ [.iter b10 s 0,.row 135 (.slice none 0 0) ([]:List (Int×ByteArray))]:=H.swap
 refine go_loop_ (Nat×Value×Int×List (Int×ByteArray)) (fun x_ a W=>(fun(pos:Nat) (v:Value) (b:Int) (l:List (Int×ByteArray))=>EnvOk 49 a (keepEnv [(0,.string s),(3,v),(4,iv b),(9,pv b10)])/\(∃S,Fr o W S [.iter b10 s pos,.row 135 v l])/\-1<=b/\b<=(pos:Int)/\b<=(s.size:Int)/\(l.length<=pos/\l.length<=s.size)/\spGo s (runes s pos) b l=wordsB s) x_.1 x_.2.1 x_.2.2.1 x_.2.2.2) (fun x_=>(fun(pos:Nat) (v:Value) (b:Int) (l:List (Int×ByteArray))=>s.size-pos) x_.1 x_.2.1 x_.2.2.1 x_.2.2.2) (0,.slice none 0 0,-1,[]) ?_ (fun x_ a w13 hI=>?_)
 ·(try dsimp only);exact⟨env_sub _ hA,⟨_,H⟩,by omega,by omega,by omega,by simp,rfl⟩
 obtain⟨pos,v,b,l⟩:=x_
 obtain⟨hA,⟨S,H⟩,h1,h2,h3,h4,hi⟩:=hI
 try dsimp only at h1 h2 h3 h4 hi
 replace H:Fr _ _ _ [.iter b10 s pos,.row 135 v l]:=H
 refine go_seq fun K14 hK14=>?_
 refine region_list ?_
 refine list_at 0 ?_;refine q_next 0 10 (.tmp 9) 0 b10 s pos [(0,.string s),(3,v),(4,iv b),(9,pv b10)] hA H rfl (fun hp15 a w16 H hA hG=>?_) (fun hp15 a hA=>?_)
 .replace H:Fr _ _ _ [.iter b10 s (pos+(Utf8.decode s pos).2),.row 135 v l]:=H
  have hwd:=width_pos s pos hp15
  refine q_list 1 1 [] [(0,.string s),(3,v),(4,iv b),(9,pv b10),(10,.tuple #[.bool true,.int .i64 (pos:Int),.int .i32 ((Utf8.decode s pos).1:Int)]),(11,.bool true)] (TT/\True) hA H ⟨tv,tv⟩ fun a w17 hA H hG=>?_
  refine list_end ?_
  refine hK14 _ _ ?_
  refine go_seq fun K18 hK18=>?_
  refine go_cond hA (.tmp 11) true (fun _=>?_) (fun h=>by cases h)
  refine go_skip ?_
  refine hK18 _ _ ?_
  refine go_block 1 ?_
  refine go_seq fun K20 hK20=>?_
  refine q_reg [] [(0,.string s),(3,v),(4,iv b),(5,iv (pos:Int)),(6,.int .i32 ((Utf8.decode s pos).1:Int)),(9,pv b10)] (TT/\TT/\TT/\TT/\True) hA H ⟨tv,tv,tv,tv,tv⟩ fun a w21 hA H hG=>?_
  refine hK20 _ _ ?_
  refine go_seq fun K22 hK22=>?_
  refine q_reg [(15,iv (cls ((Utf8.decode s pos).1:Int)))] [(0,.string s),(3,v),(4,iv b),(5,iv (pos:Int)),(7,.bool (decide (cls ((Utf8.decode s pos).1:Int)=4))),(9,pv b10)] (TT/\(Callable Tryz.prog 55/\CallOk Tryz.prog (On w21) 55 [.int .i32 ((Utf8.decode s pos).1:Int)].toArray (.int .i64 (cls ((Utf8.decode s pos).1:Int))))/\TT/\TT/\True) hA H ⟨tv,⟨callable_of,callOk_of fun w hw=>by exact class_any ((Utf8.decode s pos).1:Int) w⟩,tv,tv,tv⟩ fun a w23 hA H hG=>?_
  refine hK22 _ _ ?_
  refine go_seq fun K24 hK24=>?_
  refine go_seq fun K25 hK25=>?_
  refine q_reg [] [(0,.string s),(3,v),(4,iv b),(5,iv (pos:Int)),(7,.bool (decide (cls ((Utf8.decode s pos).1:Int)=4))),(9,pv b10),(21,.bool ((decide (cls ((Utf8.decode s pos).1:Int)=4)) && (decide ((0:Int)<=b))))] (TT/\TT/\((decide (cls ((Utf8.decode s pos).1:Int)=4))=true->True)/\((decide (cls ((Utf8.decode s pos).1:Int)=4))=true->True)/\TT/\True) hA H ⟨tv,tv,fun _=>trivial,fun _=>trivial,tv,tv⟩ fun a w26 hA H hG=>?_
  refine hK25 _ _ ?_
  refine go_cond hA (.tmp 21) ((decide (cls ((Utf8.decode s pos).1:Int)=4)) && (decide ((0:Int)<=b))) (fun hb27=>?_) (fun hb27=>?_)
  .have hhb27:=(⟨of_decide_eq_true ((aT hb27).1),of_decide_eq_true ((aT hb27).2)⟩:_/\_)
   refine go_seq fun K28 hK28=>?_
   refine region_list ?_
   refine q_list 0 7 [(27,.string (s.extract (b).toNat ((pos:Int)).toNat)),(28,.agg #[.int .i64 b,.string (s.extract (b).toNat ((pos:Int)).toNat)])] [(0,.string s),(5,iv (pos:Int)),(7,.bool (decide (cls ((Utf8.decode s pos).1:Int)=4))),(9,pv b10),(22,v),(28,.agg #[.int .i64 b,.string (s.extract (b).toNat ((pos:Int)).toNat)])] (TT/\TT/\TT/\TT/\TT/\(∀w,(Instr.sliceAt 9 (.string s) (some (.int .i64 b)) (some (.int .i64 (pos:Int))) none).run Tryz.prog w= .ok (.string (s.extract (b).toNat ((pos:Int)).toNat)) w)/\(∀w,(Instr.build 135 #[(0,iv b),(1,.string (s.extract (b).toNat ((pos:Int)).toNat))]).run Tryz.prog w= .ok (.agg #[.int .i64 b,.string (s.extract (b).toNat ((pos:Int)).toNat)]) w)/\True) hA H ⟨tv,tv,tv,tv,tv,fun w=>slice_str_lh Tryz.underlying9 w (by omega) (by omega) (by omega),fun w=>by kernel_rfl,tv⟩ fun a w29 hA H hG=>?_
   refine list_at 7 ?_;refine q_lit 7 29 104 1 #[(0,.tmp 28)] 135 [(0,.agg #[.int .i64 b,.string (s.extract (b).toNat ((pos:Int)).toNat)])] [.int .i64 b,.string (s.extract (b).toNat ((pos:Int)).toNat)] [(0,.string s),(5,iv (pos:Int)),(7,.bool (decide (cls ((Utf8.decode s pos).1:Int)=4))),(9,pv b10),(22,v)] hA H fun b30 a w31 H hA hG hge_b30=>?_
   clear hge_b30
   refine list_at 8 ?_;refine q_push 8 30 (.tmp 22) (.tmp 29) 2 0 b30 1 1 v l [(b,s.extract (b).toNat ((pos:Int)).toNat)] [.int .i64 b,.string (s.extract (b).toNat ((pos:Int)).toNat)] [(0,.string s),(5,iv (pos:Int)),(7,.bool (decide (cls ((Utf8.decode s pos).1:Int)=4))),(9,pv b10)] hA H Tryz.E104 rfl rfl (by exact(RowRd.single (α:=Int×ByteArray) ⟨[_],_,rfl,rfl,rfl⟩)) rfl (by simp only[List.length_cons,List.length_nil,List.length_append];omega) (by decide) fun v32 a w33 H hA hG=>?_
   replace H:Fr _ _ _ [.iter b10 s (pos+(Utf8.decode s pos).2),.row 135 v32 (l++[(b,s.extract (b).toNat ((pos:Int)).toNat)])]:=H.drop 0
   refine q_list 9 1 [] [(0,.string s),(3,v32),(5,iv (pos:Int)),(7,.bool (decide (cls ((Utf8.decode s pos).1:Int)=4))),(9,pv b10)] (TT/\True) hA H ⟨tv,tv⟩ fun a w34 hA H hG=>?_
   refine list_end ?_
   refine hK28 _ _ ?_
   refine q_reg [] [(0,.string s),(3,v32),(4,iv (-1)),(5,iv (pos:Int)),(7,.bool (decide (cls ((Utf8.decode s pos).1:Int)=4))),(9,pv b10)] (TT/\True) hA H ⟨tv,tv⟩ fun a w35 hA H hG=>?_
   refine hK24 _ _ ?_
   refine go_seq fun K36 hK36=>?_
   refine q_reg [] [(0,.string s),(3,v32),(4,iv (-1)),(5,iv (pos:Int)),(9,pv b10),(36,.bool ((!(decide (cls ((Utf8.decode s pos).1:Int)=4))) && (decide ((-1:Int)<0))))] (TT/\TT/\TT/\((!(decide (cls ((Utf8.decode s pos).1:Int)=4)))=true->True)/\((!(decide (cls ((Utf8.decode s pos).1:Int)=4)))=true->True)/\TT/\True) hA H ⟨tv,tv,tv,fun _=>trivial,fun _=>trivial,tv,tv⟩ fun a w37 hA H hG=>?_
   refine hK36 _ _ ?_
   refine go_cond hA (.tmp 36) ((!(decide (cls ((Utf8.decode s pos).1:Int)=4))) && (decide ((-1:Int)<0))) (fun h=>by simp[(aT hb27).1] at h) (fun _=>?_)
   refine go_skip ?_
   refine⟨(pos+(Utf8.decode s pos).2,v32,-1,l++[(b,s.extract (b).toNat ((pos:Int)).toNat)]),⟨env_sub _ hA,⟨_,H⟩,?_⟩,?_⟩
   ·(try dsimp only);exact⟨by omega,by omega,by omega,by first|omega|(rw[List.length_append];simp only[List.length_cons,List.length_nil];omega),by have hi2:=hi;rw[runes_cons s pos hp15] at hi2;simp only[spGo] at hi2;(repeat' split at hi2)<;>first|exact hi2|(exfalso;omega)⟩
   (try dsimp only);omega
  have hhb27:=(aF hb27).imp (fun h=>of_decide_eq_false h) (fun h=>of_decide_eq_false h)
  refine go_skip ?_
  refine hK24 _ _ ?_
  refine go_seq fun K39 hK39=>?_
  refine q_reg [] [(0,.string s),(3,v),(4,iv b),(5,iv (pos:Int)),(9,pv b10),(36,.bool ((!(decide (cls ((Utf8.decode s pos).1:Int)=4))) && (decide (b<0))))] (TT/\TT/\TT/\((!(decide (cls ((Utf8.decode s pos).1:Int)=4)))=true->True)/\((!(decide (cls ((Utf8.decode s pos).1:Int)=4)))=true->True)/\TT/\True) hA H ⟨tv,tv,tv,fun _=>trivial,fun _=>trivial,tv,tv⟩ fun a w40 hA H hG=>?_
  refine hK39 _ _ ?_
  refine go_cond hA (.tmp 36) ((!(decide (cls ((Utf8.decode s pos).1:Int)=4))) && (decide (b<0))) (fun hb41=>?_) (fun hb41=>?_)
  .have hhb41:=(⟨of_decide_eq_false (nT ((aT hb41).1)),of_decide_eq_true ((aT hb41).2)⟩:_/\_)
   refine q_reg [] [(0,.string s),(3,v),(4,iv (pos:Int)),(9,pv b10)] (TT/\TT/\True) hA H ⟨tv,tv,tv⟩ fun a w42 hA H hG=>?_
   refine⟨(pos+(Utf8.decode s pos).2,v,(pos:Int),l),⟨env_sub _ hA,⟨_,H⟩,?_⟩,?_⟩
   ·(try dsimp only);exact⟨by omega,by omega,by omega,by first|omega|(rw[List.length_append];simp only[List.length_cons,List.length_nil];omega),by have hi2:=hi;rw[runes_cons s pos hp15] at hi2;simp only[spGo] at hi2;(repeat' split at hi2)<;>first|exact hi2|(exfalso;omega)⟩
   (try dsimp only);omega
  have hhb41:=(aF hb41).imp (fun h=>of_decide_eq_true (nF h)) (fun h=>of_decide_eq_false h)
  refine go_skip ?_
  refine⟨(pos+(Utf8.decode s pos).2,v,b,l),⟨env_sub _ hA,⟨_,H⟩,?_⟩,?_⟩
  ·(try dsimp only);exact⟨by omega,by omega,by omega,by first|omega|(rw[List.length_append];simp only[List.length_cons,List.length_nil];omega),by have hi2:=hi;rw[runes_cons s pos hp15] at hi2;simp only[spGo] at hi2;(repeat' split at hi2)<;>first|exact hi2|(exfalso;omega)⟩
  (try dsimp only);omega
 skip
 refine q_list 1 1 [] [(0,.string s),(3,v),(4,iv b),(9,pv b10),(10,.tuple #[.bool false]),(11,.bool false)] (TT/\True) hA H ⟨tv,tv⟩ fun a w43 hA H hG=>?_
 refine list_end ?_
 refine hK14 _ _ ?_
 refine go_seq fun K44 hK44=>?_
 refine go_cond hA (.tmp 11) false (fun h=>by cases h) (fun _=>?_)
 refine go_exit 0 ?_
 refine hK7 _ _ ?_
 refine go_seq fun K46 hK46=>?_
 refine go_seq fun K47 hK47=>?_
 refine q_reg [] [(0,.string s),(3,v),(4,iv b),(39,.bool (decide ((0:Int)<=b)))] (TT/\TT/\True) hA H ⟨tv,tv,tv⟩ fun a w48 hA H hG=>?_
 refine hK47 _ _ ?_
 refine go_cond hA (.tmp 39) (decide ((0:Int)<=b)) (fun hb49=>?_) (fun hb49=>?_)
 .have hhb49:=of_decide_eq_true hb49
  refine region_list ?_
  refine q_list 0 6 [(44,.string (s.extract (b).toNat s.size)),(45,.agg #[.int .i64 b,.string (s.extract (b).toNat s.size)])] [(40,v),(45,.agg #[.int .i64 b,.string (s.extract (b).toNat s.size)])] (TT/\TT/\TT/\TT/\(∀w,(Instr.sliceAt 9 (.string s) (some (.int .i64 b)) none none).run Tryz.prog w= .ok (.string (s.extract (b).toNat s.size)) w)/\(∀w,(Instr.build 135 #[(0,iv b),(1,.string (s.extract (b).toNat s.size))]).run Tryz.prog w= .ok (.agg #[.int .i64 b,.string (s.extract (b).toNat s.size)]) w)/\True) hA H ⟨tv,tv,tv,tv,fun w=>slice_str_l Tryz.underlying9 w (by omega) (by omega),fun w=>by kernel_rfl,tv⟩ fun a w50 hA H hG=>?_
  refine list_at 6 ?_;refine q_lit 6 46 104 1 #[(0,.tmp 45)] 135 [(0,.agg #[.int .i64 b,.string (s.extract (b).toNat s.size)])] [.int .i64 b,.string (s.extract (b).toNat s.size)] [(40,v)] hA H fun b51 a w52 H hA hG hge_b51=>?_
  clear hge_b51
  refine list_at 7 ?_;refine q_push 7 47 (.tmp 40) (.tmp 46) 2 0 b51 1 1 v l [(b,s.extract (b).toNat s.size)] [.int .i64 b,.string (s.extract (b).toNat s.size)] [] hA H Tryz.E104 rfl rfl (by exact(RowRd.single (α:=Int×ByteArray) ⟨[_],_,rfl,rfl,rfl⟩)) rfl (by simp only[List.length_cons,List.length_nil,List.length_append];omega) (by decide) fun v53 a w54 H hA hG=>?_
  replace H:Fr _ _ _ [.iter b10 s pos,.row 135 v53 (l++[(b,s.extract (b).toNat s.size)])]:=H.drop 0
  refine q_list 8 1 [] [(3,v53)] (TT/\True) hA H ⟨tv,tv⟩ fun a w55 hA H hG=>?_
  refine list_end ?_
  refine hK46 _ _ ?_
  refine go_seq fun K56 hK56=>?_
  refine q_reg [] [(2,v53)] (TT/\TT/\True) hA H ⟨tv,tv,tv⟩ fun a w57 hA H hG=>?_
  refine hK56 _ _ ?_
  refine go_ret_ ?_
  refine ret_one 2 v53 hA ?_
  have ho:=H.give 1 rfl
  rw[runes_nil s pos hp15] at hi;simp only[spGo] at hi;simp only[hhb49,if_true,if_false] at hi;rw[hi] at ho;exact⟨_,rfl,ho,H.below⟩
 have hhb49:=of_decide_eq_false hb49
 refine go_skip ?_
 refine hK46 _ _ ?_
 refine go_seq fun K58 hK58=>?_
 refine q_reg [] [(2,v)] (TT/\TT/\True) hA H ⟨tv,tv,tv⟩ fun a w59 hA H hG=>?_
 refine hK58 _ _ ?_
 refine go_ret_ ?_
 refine ret_one 2 v hA ?_
 have ho:=H.give 1 rfl
 rw[runes_nil s pos hp15] at hi;simp only[spGo] at hi;simp only[hhb49,if_true,if_false] at hi;rw[hi] at ho;exact⟨_,rfl,ho,H.below⟩
theorem strAt_get (s:ByteArray)(pos k:Nat):StrAt s ((pos:Int)+(k:Int))=((s.get! (pos+k)).toNat:Int):=by
 unfold StrAt
 rw[show((pos:Int)+(k:Int)).toNat=pos+k by omega]
 rfl
def decF (b0 b1 b2 b3:Nat)(s1 s2 s3:Prop)[Decidable s1][Decidable s2][Decidable s3]:Nat×Nat:=
 if b0<128 then(b0,1)
 else if b0/32=6/\s1/\b1/64=2 then
  (if 128<=b0%32*64+b1%64 then(b0%32*64+b1%64,2) else(65533,1))
 else if(b0/16=14/\s1/\b1/64=2)/\s2/\b2/64=2 then
  (if 2048<=b0%16*4096+b1%64*64+b2%64/\Utf8.valid ((b0%16*4096+b1%64*64+b2%64:Nat):Int)=true then(b0%16*4096+b1%64*64+b2%64,3) else(65533,1))
 else if((b0/8=30/\s1/\b1/64=2)/\s2/\b2/64=2)/\s3/\b3/64=2 then
  (if 65536<=b0%8*262144+b1%64*4096+b2%64*64+b3%64/\Utf8.valid ((b0%8*262144+b1%64*4096+b2%64*64+b3%64:Nat):Int)=true then(b0%8*262144+b1%64*4096+b2%64*64+b3%64,4) else(65533,1))
 else(65533,1)
theorem ite_congr_bool {α:Type}{b:Bool}{p:Prop}[Decidable p]{x y x' y':α}(h:b=true↔p)(hx:x=x')(hy:y=y'):(if b=true then x else y)=(if p then x' else y'):=by
 subst hx;subst hy
 by_cases hp:p
 .rw[if_pos hp,if_pos (h.2 hp)]
 rw[if_neg hp,if_neg (fun e=>hp (h.1 e))]
theorem decode_eq (s:ByteArray)(pos:Nat):Utf8.decode s pos=decF (s.get! (pos+0)).toNat (s.get! (pos+1)).toNat (s.get! (pos+2)).toNat (s.get! (pos+3)).toNat (pos+1<s.size) (pos+2<s.size) (pos+3<s.size):=by
 unfold Utf8.decode decF
 refine ite_congr rfl (fun _=>rfl) fun _=>?_
 refine ite_congr_bool (by simp only[Bool.and_eq_true,beq_iff_eq,decide_eq_true_eq]) rfl ?_
 refine ite_congr_bool (by simp only[Bool.and_eq_true,beq_iff_eq,decide_eq_true_eq]) (ite_congr_bool (by simp only[Bool.and_eq_true,decide_eq_true_eq,ge_iff_le]) rfl rfl) ?_
 exact ite_congr_bool (by simp only[Bool.and_eq_true,beq_iff_eq,decide_eq_true_eq]) (ite_congr_bool (by simp only[Bool.and_eq_true,decide_eq_true_eq,ge_iff_le]) rfl rfl) rfl
def refF (b0 b1 b2 b3:Int)(left:Int):Int×Int:=
 if b0<128 then(b0,1) else
 match rLead b0 with
 |none=>(-1,1)
 |some (n,c,least)=>if left<=n then(-1,1) else
  rFin n least (if b1<128\/191<b1 then none else if n=1 then some (c*64+b1-128) else if b2<128\/191<b2 then none else if n=2 then some ((c*64+b1-128)*64+b2-128) else if b3<128\/191<b3 then none else some (((c*64+b1-128)*64+b2-128)*64+b3-128))
def Agree (r:Int×Int)(d:Nat×Nat):Prop:=r.2=(d.2:Int)/\(r.1=(d.1:Int)\/(r.1= -1/\d.1=65533))
def rcl (s:ByteArray)(p:Nat×Int):Int:=if(rRune s p.1).1<0 then 9 else cls (rRune s p.1).1
def classesR (s:ByteArray):List Int:=(runes s 0).map (rcl s)
def stripN (l:List Int):Nat->Nat
 |0=>0
 |n+1=>if l.getD n 0=3 then stripN l n else n+1
def okN (l:List Int)(n:Nat):Prop:=∀j,j<n->(l.getD j 0=1\/l.getD j 0=2)
instance (l:List Int) (n:Nat):Decidable (okN l n):=by unfold okN;infer_instance
def refNameL (l:List Int):Bool:=
 if l.length<1\/16<l.length\/l.getD 0 0≠1 then false
 else if 3<l.length-stripN l l.length then false else decide (okN l (stripN l l.length))
def rnGo (s:ByteArray):Nat->Nat->Int->Int
 |0,_,n=>n
 |f+1,i,n=>if StrAt s i<48\/57<StrAt s i then -1 else rnGo s f (i+1) (n*10+StrAt s i-48)
def refNum (s:ByteArray):Int:=if s.size<1\/9<s.size\/(StrAt s 0=48/\1<s.size) then -1 else rnGo s s.size 0 0
def okText (r:Int):Prop:=¬(r<0\/r=65533\/(cls r=0/\r≠10/\(r<43\/47<r)/\r≠58/\r≠124))
instance (r:Int):Decidable (okText r):=by unfold okText;infer_instance
def brGo (s:ByteArray):List (Nat×Int)->Int
 |[]=> -1
 |(p,_)::l=>if okText (rRune s p).1 then brGo s l else(p:Int)
def refBad (s:ByteArray):Int:=brGo s (runes s 0)
def wEnd (s:ByteArray):Nat->Nat->Nat
 |0,k=>k
 |f+1,k=>if StrAt s k=32 then k else wEnd s f (k+1)
def wGo (s:ByteArray):Nat->Nat->List (Int×Int)
 |0,_=>[]
 |f+1,i=>if StrAt s i=32\/(0<i/\StrAt s ((i:Int)-1)≠32) then wGo s f (i+1) else((i:Int),(wEnd s (f+1) i:Int))::wGo s f (i+1)
def wordsR (s:ByteArray):List (Int×Int):=wGo s s.size 0
def lGo (s:ByteArray):Nat->Nat->Int->List (Int×Int)
 |0,_,from_=>if from_<(s.size:Int) then[(from_,(s.size:Int))] else[]
 |f+1,i,from_=>if StrAt s i=10 then(from_,(i:Int))::lGo s f (i+1) ((i:Int)+1) else lGo s f (i+1) from_
def linesR (s:ByteArray):List (Int×Int):=lGo s s.size 0 0
theorem decF_nl (b0 b1 b2 b3:Nat)(s1 s2 s3:Prop)[Decidable s1][Decidable s2][Decidable s3]:
  ((decF b0 b1 b2 b3 s1 s2 s3).1=10↔b0=10)/\(b0=10->(decF b0 b1 b2 b3 s1 s2 s3).2=1)/\1<=(decF b0 b1 b2 b3 s1 s2 s3).2/\(decF b0 b1 b2 b3 s1 s2 s3).2<=4/\
  (2<=(decF b0 b1 b2 b3 s1 s2 s3).2->b1≠10/\s1)/\(3<=(decF b0 b1 b2 b3 s1 s2 s3).2->b2≠10/\s2)/\(4<=(decF b0 b1 b2 b3 s1 s2 s3).2->b3≠10/\s3):=by
 unfold decF
 split
 .exact⟨Iff.rfl,fun _=>rfl,by omega,by omega,fun h=>by omega,fun h=>by omega,fun h=>by omega⟩
 split
 .rename_i h1 h2
  split
  .simp only;refine⟨by omega,by omega,by omega,by omega,fun _=>⟨by omega,h2.2.1⟩,by omega,by omega⟩
  simp only;omega
 split
 .rename_i h1 h2 h3
  split
  .rename_i h4
   simp only;refine⟨by omega,by omega,by omega,by omega,fun _=>⟨by omega,h3.1.2.1⟩,fun _=>⟨by omega,h3.2.1⟩,by omega⟩
  simp only;omega
 split
 .rename_i h1 h2 h3 h4
  split
  .rename_i h5
   simp only;refine⟨by omega,by omega,by omega,by omega,fun _=>⟨by omega,h4.1.1.2.1⟩,fun _=>⟨by omega,h4.1.2.1⟩,fun _=>⟨by omega,h4.2.1⟩⟩
  simp only;omega
 simp only;omega
theorem lGo_skip {s:ByteArray}{i:Nat}{from_:Int}(hi:i<s.size)(h:StrAt s i≠10):lGo s (s.size-i) i from_=lGo s (s.size-(i+1)) (i+1) from_:=by
 rw[show s.size-i=(s.size-(i+1))+1 by omega]
 simp only[lGo]
 rw[if_neg h]
theorem strAt_nat (s:ByteArray)(i:Nat):StrAt s (i:Int)=((s.get! i).toNat:Int):=strAt_get s i 0
theorem lGo_rune {s:ByteArray}{pos:Nat}{from_:Int}(hp:pos<s.size)(h:¬((Utf8.decode s pos).1:Int)=10):
  lGo s (s.size-pos) pos from_=lGo s (s.size-(pos+(Utf8.decode s pos).2)) (pos+(Utf8.decode s pos).2) from_/\pos+(Utf8.decode s pos).2<=s.size:=by
 rw[decode_eq s pos] at h ⊢
 obtain⟨h1,_,h3,h4,h5,h6,h7⟩:=decF_nl (s.get! (pos+0)).toNat (s.get! (pos+1)).toNat (s.get! (pos+2)).toNat (s.get! (pos+3)).toNat (pos+1<s.size) (pos+2<s.size) (pos+3<s.size)
 generalize decF (s.get! (pos+0)).toNat (s.get! (pos+1)).toNat (s.get! (pos+2)).toNat (s.get! (pos+3)).toNat (pos+1<s.size) (pos+2<s.size) (pos+3<s.size)=d at h h1 h3 h4 h5 h6 h7 ⊢
 obtain⟨r,k⟩:=d
 simp only at h h1 h3 h4 h5 h6 h7 ⊢
 have b0:StrAt s (pos:Int)≠10:=by rw[strAt_nat];intro e;apply h;rw[h1.2 (by rw[Nat.add_zero];omega)];rfl
 have e0:=lGo_skip (from_:=from_) hp b0
 rcases(show k=1\/k=2\/k=3\/k=4 by omega) with rfl|rfl|rfl|rfl
 .exact⟨e0,hp⟩
 .obtain⟨c1,d1⟩:=h5 (by omega)
  have e1:=lGo_skip (from_:=from_) d1 (by rw[strAt_nat];omega)
  exact⟨e0.trans e1,d1⟩
 .obtain⟨c1,d1⟩:=h5 (by omega)
  obtain⟨c2,d2⟩:=h6 (by omega)
  have e1:=lGo_skip (from_:=from_) d1 (by rw[strAt_nat];omega)
  have e2:=lGo_skip (from_:=from_) d2 (by rw[strAt_nat];omega)
  exact⟨(e0.trans e1).trans e2,d2⟩
 obtain⟨c1,d1⟩:=h5 (by omega)
 obtain⟨c2,d2⟩:=h6 (by omega)
 obtain⟨c3,d3⟩:=h7 (by omega)
 have e1:=lGo_skip (from_:=from_) d1 (by rw[strAt_nat];omega)
 have e2:=lGo_skip (from_:=from_) d2 (by rw[strAt_nat];omega)
 have e3:=lGo_skip (from_:=from_) d3 (by rw[strAt_nat];omega)
 exact⟨((e0.trans e1).trans e2).trans e3,d3⟩
theorem lGo_nl {s:ByteArray}{pos:Nat}{from_:Int}(hp:pos<s.size)(h:((Utf8.decode s pos).1:Int)=10):
  lGo s (s.size-pos) pos from_=(from_,(pos:Int))::lGo s (s.size-(pos+(Utf8.decode s pos).2)) (pos+(Utf8.decode s pos).2) ((pos:Int)+1)/\(Utf8.decode s pos).2=1:=by
 rw[decode_eq s pos] at h ⊢
 obtain⟨h1,h2,_⟩:=decF_nl (s.get! (pos+0)).toNat (s.get! (pos+1)).toNat (s.get! (pos+2)).toNat (s.get! (pos+3)).toNat (pos+1<s.size) (pos+2<s.size) (pos+3<s.size)
 have hb:=h1.1 (by omega)
 rw[h2 hb]
 refine⟨?_,rfl⟩
 rw[show s.size-pos=(s.size-(pos+1))+1 by omega]
 simp only[lGo]
 rw[if_pos (by rw[strAt_nat];rw[Nat.add_zero] at hb;omega)]
def lineOf (s:ByteArray)(c:Int×Int):Int×ByteArray:=(c.1,s.extract c.1.toNat c.2.toNat)
def linesS (s:ByteArray):List (Int×ByteArray):=(linesR s).map (lineOf s)
def preS (s:ByteArray)(pre:List (Int×ByteArray)):Prop:=∃rest,pre++rest=linesS s
def stripK (K:List (Nat×Bool))(env:Env):List (Nat×Bool)->Option (List (Nat×Bool))×Prop
 |[]=>(some [],True)
 |(j,b)::r=>match K.lookup j with
  |some b'=>match look env j with
   |some ⟨_,[],.bool c⟩=>match b'==b with
    |true=>((stripK K env r).1,c=b/\(stripK K env r).2)
    |false=>(none,c=b')
   |_=>(none,False)
  |none=>((stripK K env r).1.map ((j,b):: ·),(stripK K env r).2)
def evPickK (K:List (Nat×Bool))(env:Env)(C:List (Nat×Bool))(c x y:Operand):Option (Value×Prop):=
 match c with
 | .tmp t=>match K.lookup t with
  |some b=>match look env t with
   |some ⟨_,[],.bool cb⟩=>(getOp env C (bif b then x else y)).map fun v=>(v,cb=b)
   |_=>none
  |none=>(evPick env C c x y).map fun v=>(v,True)
 |_=>none
def evStepK (K:List (Nat×Bool))(P:Program)(W:World->Prop)(n:Nat)(ops:Array Oper)(env:Env)(orc:List (Nat×Value))(o:Oper):Option (Env×Prop):=
 match chainOf ops env o,o.dst with
 |some C,some d=>
  if d<n then
   match stripK K env C with
   |(none,q)=>if C.all (fun l=>l.1 !=d)=true then some (⟨d,C,undef⟩::env.filter (fun e=>e.slot !=d && e.ch.all (fun l=>l.1 !=d)),q) else none
   |(some C',q)=>if C'.all (fun l=>l.1 !=d)=true then
    match(match o.op with
     | .pick c x y=>evPickK K env C' c x y
     |op=>evOp P W (getOp env C') op (orc.lookup d)) with
    |some (v,p)=>some (⟨d,C',v⟩::env.filter (fun e=>e.slot !=d && e.ch.all (fun l=>l.1 !=d)),q/\impl env C' p)
    |none=>none
    else none
  else none
 |_,_=>none
def evRunK (K:List (Nat×Bool))(P:Program)(W:World->Prop)(n:Nat)(ops:Array Oper)(orc:List (Nat×Value)):List Oper->Env->Option (Env×Prop)
 |[],env=>some (env,True)
 |o::r,env=>match evStepK K P W n ops env orc o with
  |some (env',p)=>match evRunK K P W n ops orc r env' with
   |some (env'',q)=>some (env'',p/\q)
   |none=>none
  |none=>none
abbrev RunEqK (K:List (Nat×Bool))(P:Program)(W:World->Prop)(n:Nat)(ops:Array Oper)(orc:List (Nat×Value))(l:List Oper)(env:Env)(keep:List (Nat×Value))(pr:Prop):Prop:=
 (evRunK K P W n ops orc l env).map (fun r=>((keep.map fun x=>look r.1 x.1),r.2))=some ((keep.map fun x=>some ⟨x.1,[],x.2⟩),pr)
section
variable {P:Program}{Q:Exit->Act->World->Prop}{a:Act}{w:World}
abbrev MixEqK (K:List (Nat×Bool))(P:Program)(D:World->Prop)(m:Nat)(ops:Array Oper)(hd is:List Nat)(listed listed':Array Bool)(orc:List (Nat×Value))(env:Env)(keep:List (Nat×Value))(pr:Prop):Prop:=
 ((takeB ops hd is listed,tailB ops hd,Region.noSelect ops,marks listed is),(evRunK K P D m ops orc (is.filterMap fun i=>ops[i]?) env).map (fun r=>((keep.map fun x=>look r.1 x.1),r.2)))=((true,true,true,listed'),some ((keep.map fun x=>some ⟨x.1,[],x.2⟩),pr))
abbrev RunEqE (K:List (Nat×Bool))(P:Program)(W:World->Prop)(n:Nat)(ops:Array Oper)(orc:List (Nat×Value))(l:List Oper)(env keep:Env)(pr:Prop):Prop:=
 (evRunK K P W n ops orc l env).map (fun r=>((keep.map fun x=>look r.1 x.slot),r.2))=some (keep.map some,pr)
abbrev MixEqE (K:List (Nat×Bool))(P:Program)(D:World->Prop)(m:Nat)(ops:Array Oper)(hd is:List Nat)(listed listed':Array Bool)(orc:List (Nat×Value))(env keep:Env)(pr:Prop):Prop:=
 ((takeB ops hd is listed,tailB ops hd,Region.noSelect ops,marks listed is),(evRunK K P D m ops orc (is.filterMap fun i=>ops[i]?) env).map (fun r=>((keep.map fun x=>look r.1 x.slot),r.2)))=((true,true,true,listed'),some (keep.map some,pr))
def evGuard (K:List (Nat×Bool))(env:Env)(ops:Array Oper)(i:Nat):Option (Option (List (Nat×Bool))×Prop):=
 match ops[i]? with
 |some o=>match chainOf ops env o with
  |some C=>some (stripK K env C)
  |none=>none
 |none=>none
def bare (ops:Array Oper):Array Oper:=(ops.toList.map fun o=>{o with guard:=none}).toArray
end
def arrV (n:Int)(f:Int->Value):List Value:=(List.range n.toNat).map fun j:Nat=>f (j:Int)
theorem ret_none {P:Program}{fn:Func}{R:Ending->World->Prop}{n:Nat}{env:Env}{a:Act}{w:World}(ha:EnvOk n a env)(k:R (.returned (.tuple #[])) w)(hr:fn.results= #[]:=by kernel_rfl):bodyPost P fn R .ret a w:=by
 refine bodyPost_ret (v:=.tuple #[]) ?_ ha.2.1 k
 simp[results,hr]
theorem ret_noneN {P:Program}{fn:Func}{R:Ending->World->Prop}{n:Nat}{env:Env}{a:Act}{w:World}(ha:EnvOk n a env)(k:R (.returned (.tuple #[])) w)(hr:fn.results= #[]:=by kernel_rfl):bodyPost P fn R .normal a w:=by
 have:=ret_none (P:=P) ha k hr
 exact this
def Rv (v:Value):Option (DataW Value×List MemPlace):=some (.held v,[])
def mapD (l:List (Int×Value)):DataW Value:=l.foldl (fun D q=>D.put (.int .i64 q.1) (.held q.2)) (.map [])
def MapI (P:Program)(k:TypeId)(l:List (Int×Value))(x:Obj):Prop:=
 ∃es clock,x= .map es clock/\WideElems.Fit P k Rv es clock/\es.size<=l.length/\mapD l= .map ((es.toList.map (WideElems.rg P k Rv)).foldr DataW.insert [])
abbrev mapR (P:Program)(k:TypeId){α:Type}[Data α](b:Nat)(ins:List (Int×Value×α)):Res:=.obj b (MapI P k (ins.map fun q=>(q.1,q.2.1))) (ins.map fun q=>q.2)
theorem Fr.newObj {α:Type}[Data α]{w0:Orig}{w:World}{S:Stab}{rs:List Res}(h:Fr w0 w S rs)(x:Obj)(I:Obj->Prop)(hI:I x):Fr w0 (w.alloc x) S (.obj (α:=α) w.heap.size I []::rs):=
 (h.alloc _).put _ ⟨⟨x,heap_alloc_new w _,hI⟩,fun q hq=>by simp at hq⟩ (fun b hb=>by
  cases hb
  have hf:=h.fresh
  exact⟨hf.1,by simp,hf.2.1,hf.2.2⟩)
def wfI (x:Int):Prop:= -9223372036854775808<=x/\x<=9223372036854775807
theorem wf_of {x:Int}(h:wfI x):(Lit.int .i64 x).wf=true:=by
 have:=h.1;have:=h.2
 simp only[Lit.wf,IntKind.min,IntKind.max,IntKind.signed,IntKind.bits]
 simp
 omega
section
variable {P:Program}{B:Code}{p:List Nat}{Q:Post}{a:Act}{w:World}
end
def lastAt {α:Type}(ins:List (Int×α))(k:Int):Option α:=ins.foldl (fun r q=>if q.1=k then some q.2 else r) none
theorem Fr.freeze {α:Type}[Data α]{w0:Orig}{w:World}{S:Stab}{rs:List Res}(h:Fr w0 w S rs)(j:Nat){e:TypeId}{v:Value}{l:List α}(hj:rs[j]?=some (.row e v l)):∃S',(∀k,S k->S' k)/\Fr w0 w S' (rs.set j (.ro v l)):=by
 obtain⟨xs,h1,h2⟩:=h.ok _ (List.mem_of_getElem? hj)
 have hjl:j<rs.length:=(List.getElem?_eq_some_iff.1 hj).1
 have hje:rs[j]= .row e v l:=(List.getElem?_eq_some_iff.1 hj).2
 refine⟨fun k=>S k\/v.ownBlock=some k,fun k=>.inl,?_⟩
 have hown:∀k,v.ownBlock=some k->w0.w.heap.size<=k/\k<w.heap.size/\¬S k:=fun k hk=>h.own _ (List.mem_of_getElem? hj) k hk
 have hoth:∀q,q≠j->∀(hq:q<rs.length) b,rs[q].block=some b->v.ownBlock≠some b:=fun q hne hq b hb e=>by
  refine h.apart j q (fun e=>hne e.symm) hj (List.getElem?_eq_getElem hq) (b:=b) ?_ hb
  exact e
 refine⟨h.below,fun k hk=>?_,fun k hk=>?_,fun r hr=>?_,fun r hr b hb=>?_,?_⟩
 .rcases hk with hk|hk
  .exact h.src k hk
  exact .inr (hown k hk).1
 .rcases hk with hk|hk
  .exact h.inb k hk
  exact(hown k hk).2.1
 .obtain⟨q,hq,rfl⟩:=List.getElem_of_mem hr
  rw[List.length_set] at hq
  rw[List.getElem_set]
  split
  .show Rd _ w v l
   refine slice_rd ?_
   rcases h1.2 with⟨rfl,hn⟩|⟨g,cap,cur,rfl,_,hg,hnc,hcm,hcs,htake⟩
   .have:l=[]:=List.eq_nil_of_length_eq_zero hn
    subst this
    exact⟨none,0,rfl,by simp,by simp[maxLen],.inl rfl⟩
   refine⟨_,cap,rfl,hnc,hcm,.inr ⟨g,0,cur,e,(0,0),rfl,.inr rfl,hg,fun j hj=>?_⟩⟩
   refine⟨_,Data.up (fun _=>.inl) (h2.2 j hj),fun q hq=>?_⟩
   rw[List.getElem?_take,if_pos hq,List.getElem?_drop,<-htake,List.getElem?_take,if_pos ?_]
   .simp
   have:=Nat.mul_le_mul_right (Data.size α) (show j+1<=l.length from hj)
   rw[Nat.succ_mul] at this
   omega
  exact Res.ok_up (h.ok _ (List.getElem_mem hq)) fun _=>.inl
 .obtain⟨q,hq,rfl⟩:=List.getElem_of_mem hr
  rw[List.length_set] at hq
  rw[List.getElem_set] at hb
  split at hb
  .cases hb
  rename_i hne
  obtain⟨x,y,z⟩:=h.own _ (List.getElem_mem hq) b hb
  exact⟨x,y,fun hh=>hh.elim z fun hh=>hoth q (fun e=>hne e.symm) hq b hb hh⟩
 have hn:=h.nodup
 rw[List.Nodup,List.pairwise_filterMap,List.pairwise_iff_getElem] at hn ⊢
 intro q r hq hr hqr
 rw[List.length_set] at hq hr
 rw[List.getElem_set,List.getElem_set]
 intro b hb1 b' hb2
 split at hb1
 .cases hb1
 split at hb2
 .cases hb2
 exact hn q r hq hr hqr b hb1 b' hb2
theorem Fr.cut {P:Program}{α:Type}[Data α]{w0:Orig}{w:World}{S:Stab}{rs:List Res}(h:Fr w0 w S rs)(j:Nat){e t:TypeId}{v:Value}{l:List α}(hj:rs[j]?=some (.row e v l))(k:Nat)(hk:k<=l.length)(hne:0<l.length)
  (ht:P.underlying t=some (.slice (P.elem t))) (hi0:(P.info? (P.elem t)).isSome=true):
  ∃u,(∀(q:IntKind) (w':World),(Instr.sliceAt t v none (some (.int q (k:Int))) none).run P w'= .ok u w')/\u.ownBlock=v.ownBlock/\Fr w0 w S (rs.set j (.row e u (l.take k))):=by
 obtain⟨xs,h1,h2⟩:=h.ok _ (List.mem_of_getElem? hj)
 obtain⟨inf,hinf⟩:=Option.isSome_iff_exists.1 hi0
 rcases h1.2 with⟨rfl,hn⟩|⟨g,cap,cur,rfl,hbg,hg,hnc,hcm,hcs,htake⟩
 .omega
 have hlen:(l.take k).length=k:=by rw[List.length_take];omega
 refine⟨.slice (some ⟨g,0,none⟩) k cap,fun q w'=>?_,rfl,h.set j hj _ ?_ ⟨rfl,rfl,rfl,Nat.le_refl _,fun _ _ _=>rfl⟩ (fun b' hb'=>.inl hb')⟩
 .rw[run_sliceAt_slice w' t _ _ _ _ ht,run_slice_h w' t (some ⟨g,0,none⟩) l.length cap ht q (k:Int) (by omega) (by omega),run_sizeOf w' hinf]
  simp only[Result.andThen,sliced,Int.toNat_natCast,Nat.sub_zero,Nat.zero_mul]
  by_cases hc:cap=0
  .simp[hc,Addr.add]
  simp[hc,Addr.add]
 refine⟨xs.take (k*Data.size α),⟨?_,.inr ⟨g,cap,cur,by rw[hlen],hbg,hg,by omega,hcm,hcs,?_⟩⟩,?_,fun i hi=>?_⟩
 .rw[List.length_take,h1.1,hlen]
  have:=Nat.mul_le_mul_right (Data.size α) hk
  omega
 .rw[hlen,<-htake,List.take_take]
  have:=Nat.mul_le_mul_right (Data.size α) hk
  rw[Nat.min_eq_left this]
 .rw[List.length_take,h1.1,hlen]
  have:=Nat.mul_le_mul_right (Data.size α) hk
  omega
 rw[hlen] at hi
 have h3:=h2.2 i (by omega)
 rw[List.getElem_take]
 have h4:=Nat.mul_le_mul_right (Data.size α) (show i+1<=k from hi)
 rw[Nat.succ_mul] at h4
 rw[List.drop_take,List.take_take,Nat.min_eq_left (by omega)]
 exact h3
end Go.Proofs.YtnfdimfepbbbpaaGreatDoor
namespace Go.Proofs.YtnfdimfepbbbpaaGreatDoor
open Go.RowKit
section
variable {P:Program}{Q:Exit->Act->World->Prop}{a:Act}{w:World}
end
structure Raw where
 v:Value
instance:Data Raw where
 size:=1
 isAgg:=false
 rd _ _ cs x:=cs=[x.v]/\x.v.oneCell'=true
 len h:=by rw[h.1];rfl
 up _ h:=h
 keep _ h:=h
 one h u hu:=by rw[h.1] at hu;simp at hu;subst hu;exact h.2
abbrev mapN (P:Program)(kt:TypeId)(b:Nat)(m:List (Int×Int)):Res:=mapR P kt (α:=Int) b (m.map fun q=>(q.1,Value.int .i64 q.2,q.2))
section
variable {P:Program}{o:Orig}{w:World}{S:Stab}{rs:List Res}{kt et t:TypeId}
end
section
variable {P:Program}{Q:Exit->Act->World->Prop}{a:Act}{w:World}
end
section
variable {P:Program}{Q:Exit->Act->World->Prop}{a:Act}{w:World}
end
section
variable {P:Program}{Q:Post}{a:Act}{w:World}
end
def ButL (w:World)(ms:List Nat)(w':World):Prop:=w.heap.size<=w'.heap.size/\∀k,k<w.heap.size->k∉ms->w'.heap[k]?=w.heap[k]?
theorem ButL.drew (w:World)(ms:List Nat):ButL w ms {w with drawn:=w.drawn+1}:=⟨Nat.le_refl _,fun _ _ _=>rfl⟩
theorem ButL.grown {w w1 w2:World}{ms:List Nat}{row:Option Nat}(h:ButL w ms w1)(hg:w1.grownBy w2 row)(hr:∀b,row=some b->b∈ms\/w.heap.size<=b):ButL w ms w2:=by
 refine⟨Nat.le_trans h.1 hg.size,fun k hk hm=>?_⟩
 rw[hg.block k (Nat.lt_of_lt_of_le hk h.1) (fun e=>by
  rcases hr k e.symm with h1|h1
  .exact hm h1
  omega)]
 exact h.2 k hk hm
theorem ButL.below {w w1 w2:World}{ms:List Nat}(h:ButL w ms w1)(hb:Below w1.heap.size w1 w2):ButL w ms w2:=
 ⟨Nat.le_trans h.1 hb.size,fun k hk hm=>(hb.block k (Nat.lt_of_lt_of_le hk h.1)).trans (h.2 k hk hm)⟩
def calmB (ops:Array Oper):Bool:=ops.toList.all fun o=>match o.op with| .defer _=>false|_=>true
theorem calm_of {ops:Array Oper}(h:calmB ops=true){o:Oper}(ho:o∈ops.toList):∀c,o.op≠.defer c:=by
 intro c e
 have:=List.all_eq_true.1 h o ho
 rw[e] at this
 cases this
abbrev Rnd (l:Nat):Fence:=Fence.wide.inRound l
section
variable {P:Program}{ops:Array Oper}{Q:Exit->Act->World->Prop}{a:Act}{w:World}
theorem op_in {G:Fence}{n:Nat}(hfn:∀f,G.fn f)(hd:G.depth=none)(hcall:∀f args w R,Calls P f args w R->CallsIn G (n-1) P f args w R)(hrow:∀row args w R,Rows P row args w R->RowsIn G (n-1) P row args w R)(hQ:¬LetsOut Q){o:Oper}{K:Act->World->Prop}(hdf:∀c,o.op≠.defer c)
  (h:o.wp P a w K Q\/(o.asks P a w/\LetsOut Q)):o.wpIn G n P a w K Q:=by
 rcases h with h|⟨_,h⟩
 .refine⟨fun f _=>hfn f,?_⟩
  rw[Oper.semAt_eq _ _ _ hdf]
  unfold Oper.wp at h
  generalize (execOp a.eval o).run P w=r at*
  cases r with
  |ok x w'=>
   cases x<;>simp only[Oper.upon,Oper.uponIn] at h ⊢ <;>first
    |exact⟨fun e=>(by rw[hd] at e;cases e),hcall _ _ _ _ h⟩
    |exact⟨fun e=>(by rw[hd] at e;cases e),hrow _ _ _ _ h⟩
    |exact h
    |exact(h:False).elim
  |halt x w'=>cases x<;>simp only[Oper.upon,Oper.uponIn] at h ⊢ <;>exact h
 exact(hQ h).elim
theorem list_in {G:Fence}{n:Nat}(hfn:∀f,G.fn f)(hd:G.depth=none)(hcall:∀f args w R,Calls P f args w R->CallsIn G (n-1) P f args w R)(hrow:∀row args w R,Rows P row args w R->RowsIn G (n-1) P row args w R)(hQ:¬LetsOut Q):
  ∀(l:List Oper) (a:Act) (w:World),(∀o∈l,∀c,o.op≠.defer c)->wpList P ops Q l a w->wpListIn G n P ops Q l a w
 |[],a,w,_,h=>h
 |o::l,a,w,hl,h=>by
  simp only[wpList] at h
  simp only[wpListIn]
  have ih:=fun a w=>list_in hfn hd hcall hrow hQ l a w (fun o' ho'=>hl o' (List.mem_cons_of_mem _ ho'))
  by_cases hw:Region.wanted o (yielded ops a.tmps)=true
  .rw[if_pos hw] at h ⊢
   exact Oper.wpIn_mono ih (op_in hfn hd hcall hrow hQ (hl o List.mem_cons_self) h)
  rw[if_neg hw] at h ⊢
  exact⟨fun f _=>hfn f,ih _ _ h⟩
end
section
variable {P:Program}{B:Code}{p:List Nat}{Q:Post}{a:Act}{w:World}{l n:Nat}
end
section
variable {P:Program}{ops:Array Oper}{Q:Exit->Act->World->Prop}{n:Nat}
theorem wide_row {k:Nat}(row:String)(args:Array Value)(w:World)(R:Value->World->Prop)(h:Rows P row args w R):RowsIn Fence.wide k P row args w R:=
 fun c cs _=>let⟨v,w',r,s⟩:=h c cs;⟨v,w',r,stepsIn_wide.2 s⟩
theorem listIn_append {F:Fence}{rest:List Oper}:∀(l:List Oper) (a:Act) (w:World),wpListIn F n P ops (Exit.then (wpListIn F n P ops Q rest) Q) l a w->wpListIn F n P ops Q (l++rest) a w
 |[],a,w,h=>h
 |o::l,a,w,h=>by
  simp only[wpListIn,List.cons_append] at h ⊢
  by_cases hw:Region.wanted o (yielded ops a.tmps)=true
  .rw[if_pos hw] at h ⊢
   refine Oper.wpIn_mono (listIn_append l) ⟨h.1,?_⟩
   have h2:=h.2
   generalize (o.semAt F.round a.eval).run P w=r at*
   cases r with
   |ok x w'=>cases x<;>exact h2
   |halt x w'=>cases x<;>exact h2
  rw[if_neg hw] at h ⊢
  exact⟨h.1,listIn_append l _ _ h.2⟩
variable {B:Code}{p:List Nat}{a:Act}{w:World}
theorem region_in (n:Nat)(k:wpListIn Fence.wide n P (opsOf (sub B p)) Q ((opsOf (sub B p)).toList.drop 0) a w)(hd:drawOf (sub B p)=some false:=by kernel_rfl):(sub B p).wp P Q a w:=by
 cases hc':sub B p<;>rw[hc'] at hd<;>first|(cases hd;done)|skip
 rename_i id ops d
 simp only[drawOf,Option.some.injEq] at hd
 subst hd
 rw[hc'] at k
 exact wpIn_wide.1 (wpIn_region_list k)
theorem q_listI {m:Nat}{env:Env}{w0:Orig}{S:Stab}{rs:List Res}(i k:Nat)(orc:List (Nat×Value))(keep:List (Nat×Value))(pr:Prop)(ha:EnvOk m a env)(H:Fr w0 w S rs)(hp:pr)(hQ:¬LetsOut Q)
  (kk:∀a' w',EnvOk m a' (keepEnv keep)->Fr w0 w' S rs->Below w.heap.size w w'->wpListIn Fence.wide n P ops Q (ops.toList.drop (i+k)) a' w')
  (h:RunEq P (On w) m ops orc ((ops.toList.drop i).take k) env keep pr:=by delta RunEq;kernel_rfl) (hc:calmB ops=true:=by kernel_rfl):wpListIn Fence.wide n P ops Q (ops.toList.drop i) a w:=by
 obtain⟨env',h1,hk⟩:=runOk_of h
 have h2:=wpList_quiet (P:=P) (ops:=ops) (Q:=Exit.then (wpListIn Fence.wide n P ops Q (ops.toList.drop (i+k))) Q) (rest:=[]) (K:=fun a'=>EnvOk m a' (keepEnv keep)) ((ops.toList.drop i).take k) a w (On.self w)
  (evRun_ok ha h1 hp fun a' ha'=>keep_ok keep ha' hk) (fun a' w' hw' ha'=>kk a' w' ha' (H.on hw') hw')
 rw[List.append_nil] at h2
 have h3:=list_in (G:=Fence.wide) (n:=n) (Q:=Exit.then (wpListIn Fence.wide n P ops Q (ops.toList.drop (i+k))) Q) (fun _=>trivial) rfl (fun f args w R h=>callsIn_wide.2 h) (fun row args w R h=>wide_row row args w R h) (fun⟨a,w,h⟩=>hQ ⟨a,w,h⟩) _ a w
  (fun o ho=>calm_of hc (List.mem_of_mem_drop (List.mem_of_mem_take ho))) h2
 have h4:=listIn_append _ a w h3
 rw[<-List.drop_drop,List.take_append_drop] at h4
 exact h4
theorem listI_end {i:Nat}(k:Q .normal a w)(h:decide (ops.size<=i)=true:=by kernel_rfl):wpListIn Fence.wide n P ops Q (ops.toList.drop i) a w:=by
 rw[List.drop_of_length_le (by simpa using of_decide_eq_true h)]
 exact k
theorem q_yield {m:Nat}{env:Env}(i d l:Nat)(x:Operand)(args:Array Operand)(ats:Array TypeId)(us:List Value){R:Ending->World->Prop}(keep:List (Nat×Value))(ha:EnvOk m a env)
  (hy:YieldAt Fence.wide (n-1) P l us.toArray w R)
  (k:∀e w',R e w'->∃v,e= .returned v/\∀a',EnvOk m a' (keepEnv ((d,v)::keep))->wpListIn Fence.wide n P ops Q (ops.toList.drop (i+1)) a' w')
  (h:opAt ops i=some (.call {callee:=.value x,args:=args,argTypes:=ats},some d,none):=by kernel_rfl) (hx:getOp env [] x=some (.func (.yield l) #[] #[]):=by kernel_rfl) (hargs:(args.toList.map (getOp env [])).mapM id=some us:=by kernel_rfl)
  (hk:KeepEq m d env keep:=by delta KeepEq;kernel_rfl):wpListIn Fence.wide n P ops Q (ops.toList.drop i) a w:=by
 obtain⟨o,ho,he⟩:=Option.map_eq_some_iff.1 h
 simp only[Prod.mk.injEq] at he
 obtain⟨h1,h2,h3⟩:=he
 obtain⟨hi',ho'⟩:=List.getElem?_eq_some_iff.1 ho
 rw[List.drop_eq_getElem_cons hi',ho']
 refine wpListIn_plain h3 fun K hK=>⟨fun f _=>trivial,?_⟩
 have hnil:chOk a []:=fun l hl=>by simp at hl
 have hargs':=args_arr (ρ:=a.eval) (fun x u hx=>getOp_ok ha hnil x u hx) args us hargs
 obtain⟨fn,tmps,assign,body,hy1,hy2⟩:=hy
 have e:(o.semAt (Fence.wide).round a.eval).run P w= .ok (.round l fn tmps assign body) w:=by
  show(execOp a.eval o).run P w=_
  have hy1':=hy1
  simp[execOp,h1,resolve,hargs',getOp_ok ha hnil _ _ hx,Deferred.ofValue,invoke,hy1']
 rw[e]
 refine⟨fun e=>(by cases e),hy2.mono fun e w' hR=>?_⟩
 obtain⟨v,rfl,hv⟩:=k e w' hR
 exact hK _ _ (hv _ (env_put (o:=o) keep ha h2 hk))
end
abbrev orgE (w:World):Orig:=⟨{w with heap:= #[]},fun _=>False,fun _ h=>h.elim⟩
theorem fr_box {w:World}{b:Nat}{t:TypeId}{vs:List Value}(hb:w.heap[b]?=some (.cells vs.toArray t (0,0))):Fr (orgE w) w (fun _=>False) [.box b t vs] where
 below:=⟨rfl,rfl,rfl,Nat.zero_le _,fun k hk=>absurd hk (Nat.not_lt_zero k)⟩
 src _ h:=h.elim
 inb _ h:=h.elim
 ok r hr:=by rw[List.mem_singleton.1 hr];exact hb
 own r hr b' hb':=by
  rw[List.mem_singleton.1 hr] at hb'
  cases hb'
  exact⟨Nat.zero_le _,(Array.getElem?_eq_some_iff.1 hb).1,fun h=>h⟩
 nodup:=by show List.Nodup [b];simp
structure KpB (b:Nat)(A C:World):Prop where
 os:C.os=A.os
 tape:C.tape=A.tape
 output:C.output=A.output
 box:C.heap[b]?=A.heap[b]?
 size:A.heap.size<=C.heap.size
 walks:∀(r:Nat) (s:ByteArray) (p:Nat),A.heap[r]?=some (Obj.stringIter s p)->C.heap[r]?=some (Obj.stringIter s p)
def AbS {β:Type}(B:Nat)(J:β->World->Prop):Prop:=
 ∀(x:β) (W W':World) (row:Option Nat),J x W->W.grownBy W' row->(∀r,row=some r->B<=r/\∃s p,W.heap[r]?=some (Obj.stringIter s p))->J x W'
theorem fr_kept {o:Orig}{w w':World}{S:Stab}{b bi pos:Nat}{s:ByteArray}{t:TypeId}{vs:List Value}(ho:o.w.heap.size=0)(H:Fr o w S [.iter bi s pos,.box b t vs])(hk:KpB b w w'):Fr o w' (fun _=>False) [.iter bi s pos,.box b t vs] where
 below:=⟨hk.os.trans H.below.os,hk.tape.trans H.below.tape,hk.output.trans H.below.output,by rw[ho];exact Nat.zero_le _,fun k hk=>by rw[ho] at hk;exact absurd hk (Nat.not_lt_zero k)⟩
 src _ h:=h.elim
 inb _ h:=h.elim
 ok r hr:=by
  have:=H.ok r hr
  simp only[List.mem_cons,List.not_mem_nil,or_false] at hr
  rcases hr with rfl|rfl
  .exact hk.walks _ _ _ this
  exact hk.box.trans this
 own r hr k hk':=by
  obtain⟨h1,h2,h3⟩:=H.own r hr k hk'
  exact⟨h1,Nat.lt_of_lt_of_le h2 hk.size,fun h=>h⟩
 nodup:=H.nodup
abbrev Has {β:Type}(J:β->World->Prop)(B:Nat)(x:β)(w:World):Prop:=J x w/\B<=w.heap.size
theorem Has.on {β:Type}{J:β->World->Prop}{B:Nat}{x:β}{w w':World}(hJ:AbS B J)(h:Has J B x w)(hb:Below w.heap.size w w'):Has J B x w':=
 ⟨hJ x w w' none h.1 ⟨hb.os,hb.tape,hb.output,hb.size,fun k hk _=>hb.block k hk⟩ (fun r e=>by cases e),Nat.le_trans h.2 hb.size⟩
theorem Has.next {β:Type}{J:β->World->Prop}{B b pos:Nat}{s:ByteArray}{x:β}{w w':World}(hJ:AbS B J)(h:Has J B x w)(hb:B<=b)(hi:w.heap[b]?=some (Obj.stringIter s pos))(hg:w.grownBy w' (some b)):Has J B x w':=
 ⟨hJ x w w' (some b) h.1 hg (fun r e=>by cases e;exact⟨hb,_,_,hi⟩),Nat.le_trans h.2 hg.size⟩
theorem jon {β:Type}{J:β->World->Prop}{B:Nat}{x:β}{w w':World}(hJ:AbS B J)(h:J x w)(hb:Below w.heap.size w w'):J x w':=
 hJ x w w' none h ⟨hb.os,hb.tape,hb.output,hb.size,fun k hk _=>hb.block k hk⟩ (fun r e=>by cases e)
theorem Has.kp {β:Type}{J:β->World->Prop}{B b:Nat}{x:β}{w w':World}(h:J x w')(hB:B<=w.heap.size)(hk:KpB b w w'):Has J B x w':=⟨h,Nat.le_trans hB hk.size⟩
theorem lines1_any (l b:Nat)(s:ByteArray)(J Jx:List (Int×ByteArray)->World->Prop)(w:World)(hs:s.size<=1000000000)(hb:w.heap[b]?=some (.cells #[.string s] 9 (0,0)))(hJ:AbS w.heap.size J)(hJx:AbS w.heap.size Jx)(hY:∀(pre:List (Int×ByteArray)) (x:Int×ByteArray) (W1:World),J pre W1->(∃rest,pre++x::rest=linesS s)->YieldAt Fence.wide 0 Tryz.prog l #[.int .i64 x.1,.string x.2] W1 fun e W'=>(e= .returned (.bool true)/\J (pre++[x]) W'/\KpB b W1 W')\/(e= .returned (.bool false)/\Jx (pre++[x]) W'))(h0:J [] w):
 Calls Tryz.prog 57 [.func (.yield l) #[] #[],.pointer (some ⟨b,0,none⟩)].toArray w (fun e W'=>(∃v,e= .returned v)/\((∃xs,xs=linesS s/\J xs W')\/(∃pre,preS s pre/\Jx pre W'))):=by
 refine enter Tryz.f57 34 Tryz.func57 fun a hA=>?_
 replace hA:=env_sub [(0,.func (.yield l) #[] #[]),(1,pv b)] hA
 have H:=fr_box hb;have hj:Has J w.heap.size [] w:=⟨h0,Nat.le_refl _⟩
 refine go_seq fun K1 hK1=>?_
 refine q_reg [] [(0,.func (.yield l) #[] #[]),(1,pv b),(3,iv 0)] (TT/\True) hA H ⟨tv,tv⟩ fun a w2 hA H hG=>?_
 replace hj:=hj.on hJ hG
 refine hK1 _ _ ?_
 refine go_seq fun K3 hK3=>?_
 refine go_seq fun K4 hK4=>?_
 refine region_list ?_
 refine q_list 0 1 [(6,.string s)] [(0,.func (.yield l) #[] #[]),(1,pv b),(3,iv 0),(6,.string s)] ((CellOk (On w2) b (0) (.string s))/\True) hA H ⟨by exact box_cell H 0 rfl 0,tv⟩ fun a w5 hA H hG=>?_
 replace hj:=hj.on hJ hG
 refine list_at 1 ?_;refine q_range 1 7 9 (.tmp 6) s [(0,.func (.yield l) #[] #[]),(1,pv b),(3,iv 0)] hA H Tryz.underlying9 fun b6 a w7 H hA hG hge_b6=>?_
 replace hge_b6:=Nat.le_trans hj.2 hge_b6
 replace hj:=hj.on hJ hG
 refine list_end ?_
 refine hK4 _ _ ?_
 refine go_block 0 ?_
 refine go_loop_ (Nat×Int×List (Int×ByteArray)) (fun x_ a W=>(fun(pos:Nat) (start:Int) (pre:List (Int×ByteArray))=>EnvOk 34 a (keepEnv [(0,.func (.yield l) #[] #[]),(1,pv b),(3,iv start),(7,pv b6)])/\(∃S,Fr (orgE w) W S [.iter b6 s pos,.box b 9 [.string s]])/\pos<=s.size/\0<=start/\start<=(pos:Int)/\(pre.length:Int)<=start/\pre++(lGo s (s.size-pos) pos start).map (lineOf s)=linesS s/\Has J w.heap.size pre W) x_.1 x_.2.1 x_.2.2) (fun x_=>(fun(pos:Nat) (start:Int) (pre:List (Int×ByteArray))=>s.size-pos) x_.1 x_.2.1 x_.2.2) (0,0,[]) ?_ (fun x_ a w9 hI=>?_)
 ·(try dsimp only);exact⟨env_sub _ hA,⟨_,H⟩,by omega,by omega,by omega,by simp,rfl,hj⟩
 obtain⟨pos,start,pre⟩:=x_
 obtain⟨hA,⟨S,H⟩,h1,h2,h3,h4,hi,hj⟩:=hI
 try dsimp only at h1 h2 h3 h4 hi hj
 replace H:Fr _ _ _ [.iter b6 s pos,.box b 9 [.string s]]:=H
 refine go_seq fun K10 hK10=>?_
 refine region_list ?_
 have hit:=H.iter_at 0 rfl
 refine list_at 0 ?_;refine q_next 0 8 (.tmp 7) 0 b6 s pos [(0,.func (.yield l) #[] #[]),(1,pv b),(3,iv start),(7,pv b6)] hA H rfl (fun hp11 a w12 H hA hG=>?_) (fun hp11 a hA=>?_)
 .replace H:Fr _ _ _ [.iter b6 s (pos+(Utf8.decode s pos).2),.box b 9 [.string s]]:=H
  have hwd:=width_pos s pos hp11
  replace hj:=hj.next hJ hge_b6 hit hG
  refine q_list 1 1 [] [(0,.func (.yield l) #[] #[]),(1,pv b),(3,iv start),(7,pv b6),(8,.tuple #[.bool true,.int .i64 (pos:Int),.int .i32 ((Utf8.decode s pos).1:Int)]),(9,.bool true)] (TT/\True) hA H ⟨tv,tv⟩ fun a w13 hA H hG=>?_
  replace hj:=hj.on hJ hG
  refine list_end ?_
  refine hK10 _ _ ?_
  refine go_seq fun K14 hK14=>?_
  refine go_cond hA (.tmp 9) true (fun _=>?_) (fun h=>by cases h)
  refine go_skip ?_
  refine hK14 _ _ ?_
  refine go_block 1 ?_
  refine go_seq fun K16 hK16=>?_
  refine q_reg [] [(0,.func (.yield l) #[] #[]),(1,pv b),(3,iv start),(4,iv (pos:Int)),(5,.int .i32 ((Utf8.decode s pos).1:Int)),(7,pv b6)] (TT/\TT/\TT/\TT/\True) hA H ⟨tv,tv,tv,tv,tv⟩ fun a w17 hA H hG=>?_
  replace hj:=hj.on hJ hG
  refine hK16 _ _ ?_
  refine go_seq fun K18 hK18=>?_
  refine go_seq fun K19 hK19=>?_
  refine q_reg [] [(0,.func (.yield l) #[] #[]),(1,pv b),(3,iv start),(4,iv (pos:Int)),(7,pv b6),(13,.bool (!decide (((Utf8.decode s pos).1:Int)=10)))] (TT/\TT/\True) hA H ⟨tv,tv,tv⟩ fun a w20 hA H hG=>?_
  replace hj:=hj.on hJ hG
  refine hK19 _ _ ?_
  refine go_cond hA (.tmp 13) (!decide (((Utf8.decode s pos).1:Int)=10)) (fun hb21=>?_) (fun hb21=>?_)
  .have hhb21:=of_decide_eq_false (nT hb21)
   refine go_exit 1 ?_
   refine⟨(pos+(Utf8.decode s pos).2,start,pre),⟨env_sub _ hA,⟨_,H⟩,?_⟩,?_⟩
   ·(try dsimp only);exact⟨by have:=(lGo_rune (from_:=start) hp11 hhb21).2;omega,by omega,by omega,by omega,by rw[(lGo_rune hp11 hhb21).1] at hi;exact hi,hj⟩
   (try dsimp only);omega
  have hhb21:=of_decide_eq_true (nF hb21)
  refine go_skip ?_
  refine hK18 _ _ ?_
  refine go_seq fun K22 hK22=>?_
  refine go_seq fun K23 hK23=>?_
  have hnl:=hhb21
  refine region_in 1 ?_
  refine q_listI 0 6 [(16,.string s),(19,.string (s.extract (start).toNat ((pos:Int)).toNat))] [(0,.func (.yield l) #[] #[]),(1,pv b),(4,iv (pos:Int)),(7,pv b6),(14,.func (.yield l) #[] #[]),(15,iv start),(19,.string (s.extract (start).toNat ((pos:Int)).toNat))] (TT/\TT/\(CellOk (On w20) b (0) (.string s))/\TT/\TT/\(∀w,(Instr.sliceAt 9 (.string s) (some (.int .i64 start)) (some (.int .i64 (pos:Int))) none).run Tryz.prog w= .ok (.string (s.extract (start).toNat ((pos:Int)).toNat)) w)/\True) hA H ⟨tv,tv,by exact box_cell H 1 rfl 0,tv,tv,fun w=>slice_str_lh Tryz.underlying9 w (by omega) (by omega) (by omega),tv⟩ (fun⟨_,_,h⟩=>by obtain⟨⟨v,hv⟩,_⟩:=h;cases hv) fun a w24 hA H hG=>?_
  replace hj:=hj.on hJ hG
  refine q_yield 6 20 l (.tmp 14) #[.tmp 15,.tmp 19] #[3,9] [.int .i64 start,.string (s.extract (start).toNat ((pos:Int)).toNat)] [(0,.func (.yield l) #[] #[]),(1,pv b),(4,iv (pos:Int)),(7,pv b6)] hA (hY pre (start,s.extract (start).toNat ((pos:Int)).toNat) _ hj.1 ⟨_,by have hi2:=hi;rw[(lGo_nl hp11 hnl).1,List.map_cons] at hi2;exact hi2⟩) fun e w25 hR26=>?_
  rcases hR26 with⟨rfl,hjn,hkp⟩|⟨rfl,hjx⟩
  .refine⟨_,rfl,fun a hA=>?_⟩
   replace H:=fr_kept rfl H hkp
   replace hj:=Has.kp hjn hj.2 hkp
   refine q_listI 7 1 [] [(0,.func (.yield l) #[] #[]),(1,pv b),(4,iv (pos:Int)),(7,pv b6),(21,.bool false)] (TT/\True) hA H ⟨tv,tv⟩ (fun⟨_,_,h⟩=>by obtain⟨⟨v,hv⟩,_⟩:=h;cases hv) fun a w27 hA H hG=>?_
   replace hj:=hj.on hJ hG
   refine listI_end ?_
   refine hK23 _ _ ?_
   refine go_cond hA (.tmp 21) false (fun h=>by cases h) (fun _=>?_)
   refine go_skip ?_
   refine hK22 _ _ ?_
   refine q_reg [] [(0,.func (.yield l) #[] #[]),(1,pv b),(3,iv ((pos:Int)+1)),(7,pv b6)] (TT/\(InR .i64 ((pos:Int)+1))/\TT/\True) hA H ⟨tv,⟨by omega,by omega⟩,tv,tv⟩ fun a w29 hA H hG=>?_
   replace hj:=hj.on hJ hG
   refine⟨(pos+(Utf8.decode s pos).2,(pos:Int)+1,pre++[(start,s.extract (start).toNat ((pos:Int)).toNat)]),⟨env_sub _ hA,⟨_,H⟩,?_⟩,?_⟩
   ·(try dsimp only);exact⟨by have:=(lGo_nl (from_:=start) hp11 hnl).2;omega,by omega,by have:=(lGo_nl (from_:=start) hp11 hnl).2;omega,by rw[List.length_append,List.length_cons,List.length_nil];omega,by rw[(lGo_nl hp11 hnl).1,List.map_cons,List.append_cons] at hi;exact hi,hj⟩
   (try dsimp only);omega
  refine⟨_,rfl,fun a hA=>?_⟩
  clear H;have H:=Fr.start (org w25)
  refine q_listI 7 1 [] [(0,.func (.yield l) #[] #[]),(1,pv b),(4,iv (pos:Int)),(7,pv b6),(21,.bool true)] (TT/\True) hA H ⟨tv,tv⟩ (fun⟨_,_,h⟩=>by obtain⟨⟨v,hv⟩,_⟩:=h;cases hv) fun a w30 hA H hG=>?_
  replace hjx:=jon hJx hjx hG
  refine listI_end ?_
  refine hK23 _ _ ?_
  refine go_cond hA (.tmp 21) true (fun _=>?_) (fun h=>by cases h)
  refine go_ret_ ?_
  refine ret_none (P:=Tryz.prog) (fn:=Tryz.f57) (R:=(fun e W'=>(∃v,e= .returned v)/\((∃xs,xs=linesS s/\J xs W')\/(∃pre,preS s pre/\Jx pre W')))) hA ?_
  exact⟨⟨_,rfl⟩,.inr ⟨_,⟨_,by rw[(lGo_nl hp11 hnl).1,List.map_cons,List.append_cons] at hi;exact hi⟩,hjx⟩⟩
 skip
 refine q_list 1 1 [] [(0,.func (.yield l) #[] #[]),(1,pv b),(3,iv start),(7,pv b6),(8,.tuple #[.bool false]),(9,.bool false)] (TT/\True) hA H ⟨tv,tv⟩ fun a w32 hA H hG=>?_
 replace hj:=hj.on hJ hG
 refine list_end ?_
 refine hK10 _ _ ?_
 refine go_seq fun K33 hK33=>?_
 refine go_cond hA (.tmp 9) false (fun h=>by cases h) (fun _=>?_)
 refine go_exit 0 ?_
 refine hK3 _ _ ?_
 refine go_seq fun K35 hK35=>?_
 have hend:pos=s.size:=by omega
 refine q_reg [(25,.string s)] [(0,.func (.yield l) #[] #[]),(1,pv b),(3,iv start),(27,.bool (decide (start<(s.size:Int))))] (TT/\(CellOk (On w32) b (0) (.string s))/\TT/\TT/\True) hA H ⟨tv,by exact box_cell H 1 rfl 0,tv,tv,tv⟩ fun a w36 hA H hG=>?_
 replace hj:=hj.on hJ hG
 refine hK35 _ _ ?_
 refine go_cond hA (.tmp 27) (decide (start<(s.size:Int))) (fun hb37=>?_) (fun hb37=>?_)
 .have hhb37:=of_decide_eq_true hb37
  have hfin:pre++[(start,s.extract (start).toNat s.size)]=linesS s:=by rw[show s.size-pos=0 by omega] at hi;simp only[lGo] at hi;rw[if_pos (by omega)] at hi;exact hi
  refine region_in 1 ?_
  refine q_listI 0 5 [(30,.string s),(32,.string (s.extract (start).toNat s.size))] [(28,.func (.yield l) #[] #[]),(29,iv start),(32,.string (s.extract (start).toNat s.size))] (TT/\TT/\(CellOk (On w36) b (0) (.string s))/\TT/\(∀w,(Instr.sliceAt 9 (.string s) (some (.int .i64 start)) none none).run Tryz.prog w= .ok (.string (s.extract (start).toNat s.size)) w)/\True) hA H ⟨tv,tv,by exact box_cell H 1 rfl 0,tv,fun w=>slice_str_l Tryz.underlying9 w (by omega) (by omega),tv⟩ (fun⟨_,_,h⟩=>by obtain⟨⟨v,hv⟩,_⟩:=h;cases hv) fun a w38 hA H hG=>?_
  replace hj:=hj.on hJ hG
  refine q_yield 5 33 l (.tmp 28) #[.tmp 29,.tmp 32] #[3,9] [.int .i64 start,.string (s.extract (start).toNat s.size)] [] hA (hY pre (start,s.extract (start).toNat s.size) _ hj.1 ⟨_,hfin⟩) fun e w39 hR40=>?_
  rcases hR40 with⟨rfl,hjn,hkp⟩|⟨rfl,hjx⟩
  .refine⟨_,rfl,fun a hA=>?_⟩
   replace H:=fr_kept rfl H hkp
   replace hj:=Has.kp hjn hj.2 hkp
   refine listI_end ?_
   refine ret_noneN (P:=Tryz.prog) (fn:=Tryz.f57) (R:=(fun e W'=>(∃v,e= .returned v)/\((∃xs,xs=linesS s/\J xs W')\/(∃pre,preS s pre/\Jx pre W')))) hA ?_
   exact⟨⟨_,rfl⟩,.inl ⟨_,hfin,hj.1⟩⟩
  refine⟨_,rfl,fun a hA=>?_⟩
  clear H;have H:=Fr.start (org w39)
  refine listI_end ?_
  refine ret_noneN (P:=Tryz.prog) (fn:=Tryz.f57) (R:=(fun e W'=>(∃v,e= .returned v)/\((∃xs,xs=linesS s/\J xs W')\/(∃pre,preS s pre/\Jx pre W')))) hA ?_
  exact⟨⟨_,rfl⟩,.inr ⟨_,⟨[],by rw[List.append_nil];exact hfin⟩,hjx⟩⟩
 have hhb37:=of_decide_eq_false hb37
 refine go_skip ?_
 refine ret_noneN (P:=Tryz.prog) (fn:=Tryz.f57) (R:=(fun e W'=>(∃v,e= .returned v)/\((∃xs,xs=linesS s/\J xs W')\/(∃pre,preS s pre/\Jx pre W')))) hA ?_
 have hfin0:pre=linesS s:=by rw[show s.size-pos=0 by omega] at hi;simp only[lGo] at hi;rw[if_neg (by omega),List.map_nil,List.append_nil] at hi;exact hi
 exact⟨⟨_,rfl⟩,.inl ⟨_,hfin0,hj.1⟩⟩
end Go.Proofs.YtnfdimfepbbbpaaGreatDoor
