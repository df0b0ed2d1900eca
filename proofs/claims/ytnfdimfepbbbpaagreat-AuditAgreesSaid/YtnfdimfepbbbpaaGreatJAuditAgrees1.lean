/-
  Texts joined by program: LibA, LibB, LibC, EngA, EngB, EngC, EngD, EngE, EngF, RowA, EngG, EngH, EngI, EngJ, RowB, RowC, RowD, EngK, EngM, EngP, EngQ, EngT, VM0, VMR, VM1, VA, VB, VC, VD, VE, VF.
-/
import Derived.WalkKit
import Derived.WalkSpells
import Derived.WalkLawsBesides
import Derived.Lib.Hide
import Derived.Lib.OthersKept
import Derived.Deep.Quiet
import Derived.KernelRfl
import Derived.Test.YtnfdimfepbbbpaaGreatRows
import Derived.ProofKit
import Derived.OrdersHeld
import Derived.Deep.Slices
import Derived.Carry
import Derived.Maps.Own
import Derived.Maps.OwnSet
import Derived.Maps.Views
import Derived.Lib.SlKeysI
import Derived.Maps.RangeWalk
set_option linter.unusedSimpArgs false
set_option linter.unusedVariables false
set_option maxRecDepth 100000
set_option maxHeartbeats 8000000
namespace Go.Proofs.YtnfdimfepbbbpaaGreat
open Go.RowKit
abbrev iv (x : Int) : Value := .int .i64 x
abbrev pv (b : Nat) : Value := .pointer (some ⟨b, 0, none⟩)
abbrev TT : Prop := True
theorem tv : True := trivial
abbrev aL:=Nat->Prop
def cK (S:aL)(w w':World):Prop:=∀k,S k->w'.heap[k]?=w.heap[k]?
theorem cK.refl (S:aL)(w:World):cK S w w:=fun _ _=>rfl
theorem cK.trans {S:aL}{a b c:World}(h:cK S a b)(k:cK S b c):cK S a c:=fun i hi=>(k i hi).trans (h i hi)
theorem cK.mono {S S':aL}{a b:World}(h:cK S a b)(hs:∀k,S' k->S k):cK S' a b:=fun i hi=>h i (hs i hi)
theorem cK.below {B:Nat}{a b:World}(h:Below B a b):cK (· <B) a b:=fun i hi=>h.block i hi
class Data (α:Type) where
 size:Nat
 isAgg:Bool
 rd:aL->World->List Value->α->Prop
 len:∀ {S w cs a},rd S w cs a->cs.length=size
 up:∀ {S S':aL} {w cs a},(∀k,S k->S' k)->rd S w cs a->rd S' w cs a
 keep:∀ {S w w' cs a},cK S w w'->rd S w cs a->rd S w' cs a
 one:∀ {S w cs a},rd S w cs a->∀u∈cs,u.oneCell'=true
instance:Data Int where
 size:=1
 isAgg:=false
 rd _ _ cs n:=cs=[.int .i64 n]
 len h:=by rw[h];rfl
 up _ h:=h
 keep _ h:=h
 one h u hu:=by rw[h] at hu;simp at hu;subst hu;rfl
instance:Data Bool where
 size:=1
 isAgg:=false
 rd _ _ cs b:=cs=[.bool b]
 len h:=by rw[h];rfl
 up _ h:=h
 keep _ h:=h
 one h u hu:=by rw[h] at hu;simp at hu;subst hu;rfl
instance:Data ByteArray where
 size:=1
 isAgg:=false
 rd _ _ cs s:=cs=[.string s]
 len h:=by rw[h];rfl
 up _ h:=h
 keep _ h:=h
 one h u hu:=by rw[h] at hu;simp at hu;subst hu;rfl
instance {α β:Type} [Data α] [Data β]:Data (α×β) where
 size:=Data.size α+Data.size β
 isAgg:=true
 rd S w cs x:=∃c1 c2,cs=c1++c2/\Data.rd S w c1 x.1/\Data.rd S w c2 x.2
 len:=by rintro S w cs a ⟨c1,c2,rfl,h1,h2⟩;rw[List.length_append,Data.len h1,Data.len h2]
 up:=by rintro S S' w cs a hs ⟨c1,c2,rfl,h1,h2⟩;exact⟨c1,c2,rfl,Data.up hs h1,Data.up hs h2⟩
 keep:=by rintro S w w' cs a hk ⟨c1,c2,rfl,h1,h2⟩;exact⟨c1,c2,rfl,Data.keep hk h1,Data.keep hk h2⟩
 one:=by
  rintro S w cs a ⟨c1,c2,rfl,h1,h2⟩ u hu
  rcases List.mem_append.1 hu with hu|hu
  .exact Data.one h1 u hu
  exact Data.one h2 u hu
def nZ {α:Type}[Data α](S:aL)(w:World)(cur:Array Value)(off:Nat)(l:List α):Prop:=
 ∀i (h:i<l.length),∃cs,Data.rd S w cs l[i]/\∀j,j<Data.size α->cur[off+i*Data.size α+j]?=cs[j]?
def iH {α:Type}[Data α](S:aL)(w:World)(v:Value)(l:List α):Prop:=
 ∃p c,v= .slice p l.length c/\l.length<=c/\c<=maxLen/\
  (l=[]\/∃g off cur t fz,p=some ⟨g,off,none⟩/\S g/\w.heap[g]?=some (.cells cur t fz)/\nZ S w cur off l)
theorem nZ.up {α:Type}[Data α]{S S':aL}{w:World}{cur:Array Value}{off:Nat}{l:List α}(hs:∀k,S k->S' k)(h:nZ S w cur off l):nZ S' w cur off l:=
 fun i hi=>let⟨cs,h1,h2⟩:=h i hi;⟨cs,Data.up hs h1,h2⟩
theorem nZ.keep {α:Type}[Data α]{S:aL}{w w':World}{cur:Array Value}{off:Nat}{l:List α}(hk:cK S w w')(h:nZ S w cur off l):nZ S w' cur off l:=
 fun i hi=>let⟨cs,h1,h2⟩:=h i hi;⟨cs,Data.keep hk h1,h2⟩
instance {α:Type} [Data α]:Data (List α) where
 size:=1
 isAgg:=false
 rd S w cs l:=∃v,cs=[v]/\iH S w v l
 len:=by rintro S w cs l ⟨v,rfl,_⟩;rfl
 up:=by
  rintro S S' w cs l hs ⟨v,rfl,p,c,rfl,h1,h2,h3⟩
  refine⟨_,rfl,p,c,rfl,h1,h2,?_⟩
  rcases h3 with h3|⟨g,off,cur,t,fz,rfl,hg,hw,hc⟩
  .exact .inl h3
  exact .inr ⟨g,off,cur,t,fz,rfl,hs _ hg,hw,hc.up hs⟩
 keep:=by
  rintro S w w' cs l hk ⟨v,rfl,p,c,rfl,h1,h2,h3⟩
  refine⟨_,rfl,p,c,rfl,h1,h2,?_⟩
  rcases h3 with h3|⟨g,off,cur,t,fz,rfl,hg,hw,hc⟩
  .exact .inl h3
  exact .inr ⟨g,off,cur,t,fz,rfl,hg,(hk g hg).trans hw,hc.keep hk⟩
 one:=by
  rintro S w cs l ⟨v,rfl,p,c,rfl,_⟩ u hu
  simp at hu;subst hu;rfl
def Rd {α:Type}[Data α](S:aL)(w:World)(v:Value)(a:α):Prop:=∃cs,Data.rd S w cs a/\v=if Data.isAgg α then .agg cs.toArray else cs.headD undef
theorem Rd.up {α:Type}[Data α]{S S':aL}{w:World}{v:Value}{a:α}(hs:∀k,S k->S' k)(h:Rd S w v a):Rd S' w v a:=let⟨cs,h1,h2⟩:=h;⟨cs,Data.up hs h1,h2⟩
theorem Rd.keep {α:Type}[Data α]{S:aL}{w w':World}{v:Value}{a:α}(hk:cK S w w')(h:Rd S w v a):Rd S w' v a:=let⟨cs,h1,h2⟩:=h;⟨cs,Data.keep hk h1,h2⟩
theorem cq {α:Type}[Data α]{S:aL}{w:World}{v:Value}{l:List α}(h:Rd S w v l):iH S w v l:=by
 obtain⟨cs,⟨v',rfl,hs⟩,rfl⟩:=h
 exact hs
theorem iy {α:Type}[Data α]{S:aL}{w:World}{v:Value}{l:List α}(h:iH S w v l):Rd S w v l:=⟨[v],⟨v,rfl,h⟩,rfl⟩
theorem fc {α:Type}[Data α]{S:aL}{w:World}{v:Value}{l:List α}(h:iH S w v l):∃p c,v= .slice p l.length c/\l.length<=c/\c<=maxLen:=
 let⟨p,c,h1,h2,h3,_⟩:=h;⟨p,c,h1,h2,h3⟩
def cw {α:Type}[Data α](S:aL)(w:World)(xs:List Value)(l:List α):Prop:=
 xs.length=l.length*Data.size α/\∀i (h:i<l.length),Data.rd S w ((xs.drop (i*Data.size α)).take (Data.size α)) l[i]
theorem cw.nil {α:Type}[Data α](S:aL)(w:World):cw S w [] ([]:List α):=⟨by simp,fun i h=>by simp at h⟩
theorem cw.up {α:Type}[Data α]{S S':aL}{w:World}{xs:List Value}{l:List α}(hs:∀k,S k->S' k)(h:cw S w xs l):cw S' w xs l:=
 ⟨h.1,fun i hi=>Data.up hs (h.2 i hi)⟩
theorem cw.keep {α:Type}[Data α]{S:aL}{w w':World}{xs:List Value}{l:List α}(hk:cK S w w')(h:cw S w xs l):cw S w' xs l:=
 ⟨h.1,fun i hi=>Data.keep hk (h.2 i hi)⟩
theorem cw.append {α:Type}[Data α]{S:aL}{w:World}{xs ys:List Value}{l m:List α}(h:cw S w xs l)(k:cw S w ys m):cw S w (xs++ys) (l++m):=by
 refine⟨by rw[List.length_append,List.length_append,h.1,k.1,Nat.add_mul],fun i hi=>?_⟩
 by_cases hl:i<l.length
 .rw[List.getElem_append_left hl]
  have h1:i*Data.size α+Data.size α<=xs.length:=by rw[h.1,<-Nat.succ_mul];exact Nat.mul_le_mul_right _ hl
  rw[List.drop_append_of_le_length (by omega),List.take_append_of_le_length (by rw[List.length_drop];omega)]
  exact h.2 i hl
 rw[List.length_append] at hi
 rw[List.getElem_append_right (by omega)]
 have e:i*Data.size α=xs.length+(i-l.length)*Data.size α:=by rw[h.1,<-Nat.add_mul];congr 1;omega
 rw[e,List.drop_append]
 rw[List.drop_of_length_le (by omega),List.nil_append]
 rw[show xs.length+(i-l.length)*Data.size α-xs.length=(i-l.length)*Data.size α by omega]
 exact k.2 (i-l.length) (by omega)
theorem cw.single {α:Type}[Data α]{S:aL}{w:World}{cs:List Value}{a:α}(h:Data.rd S w cs a):cw S w cs [a]:=by
 refine⟨by rw[Data.len h];simp,fun i hi=>?_⟩
 have:i=0:=by simp at hi;exact hi
 subst this
 have e:(cs.drop (0*Data.size α)).take (Data.size α)=cs:=by rw[Nat.zero_mul,List.drop_zero,<-Data.len h];exact List.take_length
 rw[e];exact h
theorem cw.one {α:Type}[Data α]{S:aL}{w:World}{xs:List Value}{l:List α}(h:cw S w xs l):∀u∈xs,u.oneCell'=true:=by
 intro u hu
 by_cases hz:Data.size α=0
 .have:xs=[]:=List.eq_nil_of_length_eq_zero (by rw[h.1,hz];simp)
  subst this;simp at hu
 obtain⟨j,hj,rfl⟩:=List.getElem_of_mem hu
 have L7:0<Data.size α:=by omega
 have hi:j/Data.size α<l.length:=by rw[Nat.div_lt_iff_lt_mul L7,<-h.1];exact hj
 refine Data.one (h.2 _ hi) _ ?_
 have hm:=Nat.mod_lt j L7
 have hd:=Nat.div_add_mod j (Data.size α)
 rw[Nat.mul_comm] at hd
 refine List.mem_iff_getElem?.2 ⟨j%Data.size α,?_⟩
 rw[List.getElem?_take,if_pos hm,List.getElem?_drop,hd,List.getElem?_eq_getElem hj]
def Own {α:Type}[Data α](S:aL)(w:World)(e:TypeId)(v:Value)(l:List α):Prop:=
 ∃xs,w.ownsRow 0 e (Data.size α) v l.length xs/\cw S w xs l
inductive n0:Type 1 where
 |iter (b:Nat) (s:ByteArray) (pos:Nat)
 |row {α:Type} [Data α] (e:TypeId) (v:Value) (l:List α)
 |box (b:Nat) (t:TypeId) (vs:List Value)
 |ro {α:Type} [Data α] (v:Value) (a:α)
 |obj {α:Type} [Data α] (b:Nat) (I:Obj->Prop) (Ra:List (Value×α))
def n0.block:n0->Option Nat
 | .iter b _ _=>some b
 | @n0.row _ _ _ v _=>v.ownBlock
 | .box b _ _=>some b
 | @n0.ro _ _ _ _=>none
 | @n0.obj _ _ b _ _=>some b
def n0.ok (S:aL)(w:World):n0->Prop
 | .iter b s pos=>w.heap[b]?=some (.stringIter s pos)
 | @n0.row _ _ e v l=>Own S w e v l
 | .box b t vs=>w.heap[b]?=some (.cells vs.toArray t (0,0))
 | @n0.ro _ _ v a=>Rd S w v a
 | @n0.obj _ _ b I Ra=>(∃x,w.heap[b]?=some x/\I x)/\∀q∈Ra,Rd S w q.1 q.2
structure Orig where
 w:World
 S:aL
 ok:∀k,S k->k<w.heap.size
abbrev zJ (w:World):Orig:=⟨w,fun _=>False,fun _ h=>h.elim⟩
abbrev rT (o:Orig)(w':World):aL:=fun k=>o.S k\/(o.w.heap.size<=k/\k<w'.heap.size)
structure Fr (w0:Orig)(w:World)(S:aL)(rs:List n0):Prop where
 below:Below w0.w.heap.size w0.w w
 src:∀k,S k->w0.S k\/w0.w.heap.size<=k
 iI:∀k,S k->k<w.heap.size
 ok:∀r∈rs,r.ok S w
 own:∀r∈rs,∀b,r.block=some b->w0.w.heap.size<=b/\b<w.heap.size/\¬S b
 nodup:(rs.filterMap n0.block).Nodup
theorem Fr.start (o:Orig):Fr o o.w o.S []:=
 ⟨Below.refl _ _,fun _ h=>.inl h,o.ok,fun _ h=>by simp at h,fun _ h=>by simp at h,by simp⟩
theorem Fr.zJ {w0:Orig}{w:World}{S:aL}{rs:List n0}(h:Fr w0 w S rs):w0.w.heap.size<=w.heap.size:=h.below.size
abbrev Fr.at {w0:Orig}{w:World}{S:aL}{rs:List n0}(h:Fr w0 w S rs):Orig:=⟨w,S,h.iI⟩
theorem n0.HY {S:aL}{w w':World}{r:n0}(h:r.ok S w)(hk:cK S w w')(hb:∀b,r.block=some b->w'.heap[b]?=w.heap[b]?):r.ok S w':=by
 cases r with
 |iter b s pos=>exact(hb b rfl).trans h
 |row e v l=>
  obtain⟨xs,⟨h1,h2⟩,h3⟩:=h
  refine⟨xs,⟨h1,?_⟩,h3.keep hk⟩
  rcases h2 with h2|⟨g,cap,cur,rfl,hg,hh,rest⟩
  .exact .inl h2
  exact .inr ⟨g,cap,cur,rfl,hg,(hb g rfl).trans hh,rest⟩
 |box b t vs=>exact(hb b rfl).trans h
 |ro v a=>exact Rd.keep hk h
 |obj b I Ra=>exact⟨let⟨x,h1,h2⟩:=h.1;⟨x,(hb b rfl).trans h1,h2⟩,fun q hq=>(h.2 q hq).keep hk⟩
theorem n0.T7 {S S':aL}{w:World}{r:n0}(h:r.ok S w)(hs:∀k,S k->S' k):r.ok S' w:=by
 cases r with
 |iter b s pos=>exact h
 |row e v l=>obtain⟨xs,h1,h2⟩:=h;exact⟨xs,h1,h2.up hs⟩
 |box b t vs=>exact h
 |ro v a=>exact Rd.up hs h
 |obj b I Ra=>exact⟨h.1,fun q hq=>(h.2 q hq).up hs⟩
theorem Fr.on {w0:Orig}{w w':World}{S:aL}{rs:List n0}(h:Fr w0 w S rs)(hb:Below w.heap.size w w'):Fr w0 w' S rs where
 below:=h.below.trans (hb.mono h.below.size)
 src:=h.src
 iI k hk:=Nat.lt_of_lt_of_le (h.iI k hk) hb.size
 ok r hr:=n0.HY (h.ok r hr) (fun k hk=>hb.block k (h.iI k hk)) (fun b mX=>hb.block b (h.own r hr b mX).2.1)
 own r hr b mX:=let⟨a,c,d⟩:=h.own r hr b mX;⟨a,Nat.lt_of_lt_of_le c hb.size,d⟩
 nodup:=h.nodup
theorem Fr.call {w0:Orig}{w w':World}{S:aL}{rs:List n0}(h:Fr w0 w S rs)(hb:Below w.heap.size w w'):Fr w0 w' (fun k=>S k\/(w.heap.size<=k/\k<w'.heap.size)) rs where
 below:=(h.on hb).below
 src k hk:=by
  rcases hk with hk|hk
  .exact h.src k hk
  exact .inr (Nat.le_trans h.below.size hk.1)
 iI k hk:=by
  rcases hk with hk|hk
  .exact(h.on hb).iI k hk
  exact hk.2
 ok r hr:=n0.T7 ((h.on hb).ok r hr) fun _=>.inl
 own r hr b mX:=by
  obtain⟨a,c,d⟩:=h.own r hr b mX
  exact⟨a,Nat.lt_of_lt_of_le c hb.size,fun e=>e.elim d (fun e=>by omega)⟩
 nodup:=h.nodup
theorem Fr.put {w0:Orig}{w:World}{S:aL}{rs:List n0}(h:Fr w0 w S rs)(r:n0)(hr:r.ok S w)
  (hb:∀b,r.block=some b->w0.w.heap.size<=b/\b<w.heap.size/\¬S b/\∀r'∈rs,r'.block≠some b):Fr w0 w S (r::rs) where
 below:=h.below
 src:=h.src
 iI:=h.iI
 ok r' wB:=by
  rcases List.mem_cons.1 wB with rfl|wB
  .exact hr
  exact h.ok r' wB
 own r' wB b mX:=by
  rcases List.mem_cons.1 wB with rfl|wB
  .obtain⟨x,y,z,_⟩:=hb b mX;exact⟨x,y,z⟩
  exact h.own r' wB b mX
 nodup:=by
  rw[List.filterMap_cons]
  split
  .exact h.nodup
  rename_i b mX
  refine List.nodup_cons.2 ⟨fun hm=>?_,h.nodup⟩
  obtain⟨r',wB,e⟩:=List.mem_filterMap.1 hm
  exact(hb b mX).2.2.2 r' wB e
theorem kM (w:World)(o:Obj):Below w.heap.size w (w.alloc o):=(Below.refl _ _).alloc (Nat.le_refl _) _
theorem Fr.newRow {α:Type}[Data α]{w0:Orig}{w:World}{S:aL}{rs:List n0}(h:Fr w0 w S rs)(e:TypeId):Fr w0 w S (.row e (.slice none 0 0) ([]:List α)::rs):=
 h.put _ ⟨[],World.ownsRow_nil _ _ _ _,cw.nil _ _⟩ (fun b hb=>by cases hb)
structure L8 (P:Program)(t e:TypeId)(size bytes:Nat):Prop where
 under:P.underlying t=some (.slice e)
 info:∃i z,P.info? e=some i/\i.zero=some z/\i.size=size/\i.bytes=bytes/\z.cells.size=size
 pos:0<size
theorem Fr.out {α:Type}[Data α]{w0:Orig}{w:World}{S:aL}{rs:List n0}(h:Fr w0 w S rs)(i:Nat){e:TypeId}{v:Value}{l:List α}(hi:rs[i]?=some (.row e v l)):Rd (· <w.heap.size) w v l:=by
 obtain⟨xs,h1,h2⟩:=h.ok _ (List.mem_of_getElem? hi)
 refine iy ?_
 rcases h1.2 with⟨rfl,hn⟩|⟨g,cap,cur,rfl,_,hg,J4,rQ,cE,kq⟩
 .have:l=[]:=List.eq_nil_of_length_eq_zero hn
  subst this
  exact⟨none,0,rfl,by simp,by simp[maxLen],.inl rfl⟩
 refine⟨_,cap,rfl,J4,rQ,.inr ⟨g,0,cur,e,(0,0),rfl,(Array.getElem?_eq_some_iff.1 hg).1,hg,fun j hj=>?_⟩⟩
 refine⟨_,Data.up h.iI (h2.2 j hj),fun q hq=>?_⟩
 rw[List.getElem?_take,if_pos hq,List.getElem?_drop,<-kq,List.getElem?_take,if_pos ?_]
 .simp
 have:=Nat.mul_le_mul_right (Data.size α) (show j+1<=l.length from hj)
 rw[Nat.succ_mul] at this
 omega
theorem Fr.aaH {α:Type}[Data α]{w0:Orig}{w:World}{S:aL}{rs:List n0}(h:Fr w0 w S rs)(i:Nat){e:TypeId}{v:Value}{l:List α}(hi:rs[i]?=some (.row e v l)):Rd (rT w0 w) w v l:=by
 obtain⟨xs,h1,h2⟩:=h.ok _ (List.mem_of_getElem? hi)
 have hS:∀k,S k->rT w0 w k:=fun k hk=>(h.src k hk).elim .inl fun q=>.inr ⟨q,h.iI k hk⟩
 refine iy ?_
 rcases h1.2 with⟨rfl,hn⟩|⟨g,cap,cur,rfl,_,hg,J4,rQ,cE,kq⟩
 .have:l=[]:=List.eq_nil_of_length_eq_zero hn
  subst this
  exact⟨none,0,rfl,by simp,by simp[maxLen],.inl rfl⟩
 obtain⟨HZ,hg2,_⟩:=h.own _ (List.mem_of_getElem? hi) g rfl
 refine⟨_,cap,rfl,J4,rQ,.inr ⟨g,0,cur,e,(0,0),rfl,.inr ⟨HZ,hg2⟩,hg,fun j hj=>?_⟩⟩
 refine⟨_,Data.up hS (h2.2 j hj),fun q hq=>?_⟩
 rw[List.getElem?_take,if_pos hq,List.getElem?_drop,<-kq,List.getElem?_take,if_pos ?_]
 .simp
 have:=Nat.mul_le_mul_right (Data.size α) (show j+1<=l.length from hj)
 rw[Nat.succ_mul] at this
 omega
theorem Fr.since {w0:Orig}{w:World}{S:aL}{rs:List n0}(h:Fr w0 w S rs):∀k,S k->rT w0 w k:=fun k hk=>(h.src k hk).elim .inl fun q=>.inr ⟨q,h.iI k hk⟩
theorem Rd.all {α:Type}[Data α]{w0:Orig}{w:World}{S:aL}{rs:List n0}(h:Fr w0 w S rs){v:Value}{a:α}(hr:Rd S w v a):Rd (· <w.heap.size) w v a:=hr.up h.iI
def bR:IntKind->Int->Prop
 | .i64,n=> -9223372036854775808<=n/\n<=9223372036854775807
 | .i32,n=> -2147483648<=n/\n<=2147483647
 | .u8,n=>0<=n/\n<=255
 | .u32,n=>0<=n/\n<=4294967295
 | .u64,n=>0<=n/\n<=18446744073709551615
 |_,_=>False
theorem bR.wrap {k:IntKind}{n:Int}(h:bR k n):k.wrap n=n:=by
 cases k<;>simp only[bR] at h<;>first|exact h.elim|skip
 all_goals simp only[IntKind.wrap,IntKind.signed,IntKind.bits]
 all_goals simp
 all_goals first|omega|(split<;>omega)
def Ar:Value->Nat
 | .slice (some a) _ _=>a.block
 | .pointer (some a)=>a.block
 |_=>0
def As:Value->Nat
 | .slice (some a) _ _=>a.off
 | .pointer (some a)=>a.off
 |_=>0
def Ma (v:Value)(n:Int):Prop:=∃p m c,v= .slice p m c/\n=(m:Int)
def DC (v:Value)(i:Int):Prop:=∃b o n c,v= .slice (some ⟨b,o,none⟩) n c/\0<=i/\i<n
def B8 (C:World->Prop)(b o:Nat)(u:Value):Prop:=∀w,C w->w.cell? ⟨b,o,none⟩=some u
def DD (C:World->Prop)(b o n:Nat)(us:Array Value):Prop:=us.size=n/\∀w,C w->∀j,j<n->w.cell? ⟨b,o+j,none⟩=us[j]?
def Mb (P:Program) (f:FuncId):Prop:=∃fn,P.funcs[f]?=some fn/\(fn.name== "runtime.NumGoroutine")=false/\fn.body.isNone=false
def U6 (P:Program)(C:World->Prop)(f:FuncId)(args:Array Value)(v:Value):Prop:=∀w,C w->Calls P f args w (fun e w'=>e= .returned v/\C w')
def H7 (s:ByteArray)(i:Int):Int:=((s.data.getD i.toNat 0).toNat:Int)
def Yc (P:Program)(t:TypeId)(x y:Value)(r:Bool):Prop:=∀w,(Op.equal t x y).run P w= .ok r w
def iU (P:Program)(op:BinOp)(t:TypeId)(x y:Value)(iK:Option Value):Option (Value×Prop):=
 match x,y with
 | .int k a,.int k' b=>
  match op,iK with
  | .shr,some (.int _ u)=>some (.int k u,0<=b/\a.fdiv (2 ^ (min b.toNat k.bits))=u)
  |_,_=>if k=k' then
   match op with
   | .add=>some (.int k (a+b),bR k (a+b))
   | .sub=>some (.int k (a-b),bR k (a-b))
   | .mul=>some (.int k (a*b),bR k (a*b))
   | .quo=>some (.int k (a/b),0<=a/\0<b/\bR k a)
   | .rem=>some (.int k (a%b),0<=a/\0<b)
   | .eql=>some (.bool (decide (a=b)),True)
   | .neq=>some (.bool (!decide (a=b)),True)
   | .lss=>some (.bool (decide (a<b)),True)
   | .leq=>some (.bool (decide (a<=b)),True)
   | .gtr=>some (.bool (decide (b<a)),True)
   | .geq=>some (.bool (decide (b<=a)),True)
   |_=>none
  else none
 | .string a,.string b=>
  match op with
  | .add=>some (.string (a++b),a.size+b.size<=9223372036854775807)
  | .eql=>some (.bool (a.toList==b.toList),True)
  | .neq=>some (.bool (!(a.toList==b.toList)),True)
  |_=>none
 | .bool a,.bool b=>
  match op with
  | .eql=>some (.bool (a==b),P.underlying t=some .bool)
  | .neq=>some (.bool (!(a==b)),P.underlying t=some .bool)
  |_=>none
 | .agg a,.agg b=>
  match op,iK with
  | .eql,some (.bool r)=>some (.bool r,Yc P t (.agg a) (.agg b) r/\P.eqGuardType P.depth t=false)
  | .neq,some (.bool r)=>some (.bool (!r),Yc P t (.agg a) (.agg b) r/\P.eqGuardType P.depth t=false)
  |_,_=>none
 |_,_=>none
section
variable {P:Program}
theorem U7 {k:IntKind}{a b:Int}(h:bR k a)(h0:0<=a)(hb:0<b):bR k (a/b):=by
 have h1:0<=a/b:=Int.ediv_nonneg h0 (by omega)
 have h2:a/b<=a:=Int.ediv_le_self b h0
 cases k<;>simp only[bR] at h ⊢ <;>omega
theorem Mc {op:BinOp}{t:TypeId}{x y:Operand}{a b v:Value}{p:Prop}{iK:Option Value}(h:iU P op t a b iK=some (v,p))(hp:p)(w:World):
  (do eqGuard op t x y a b;binOp op t a b:Sem Value).run P w= .ok v w:=by
 unfold iU at h
 split at h
 .rename_i k a k' b
  split at h
  .rename_i u
   simp only[Option.some.injEq,Prod.mk.injEq] at h
   obtain⟨rfl,rfl⟩:=h
   have hg:(eqGuard .shr t x y (.int k a) (.int k' b)).run P w= .ok () w:=by
    unfold eqGuard;split<;>rfl
   rw[Sem.run_bind,hg]
   simp only[Result.andThen,binOp,Op.shift]
   rw[if_neg (by omega),hp.2]
   rfl
  split at h
  .rename_i hk
   subst hk
   have hg:(eqGuard op t x y (.int k a) (.int k b)).run P w= .ok () w:=by
    unfold eqGuard;split<;>rfl
   rw[Sem.run_bind,hg]
   simp only[Result.andThen]
   cases op<;>simp only[Option.some.injEq,Prod.mk.injEq,reduceCtorEq] at h
   all_goals (obtain⟨rfl,rfl⟩:=h)
   all_goals simp only[binOp,ne_eq,not_true_eq_false,if_false,Op.intArith,Op.intDiv,Op.intCmp]
   case add=>rw[hp.wrap];rfl
   case sub=>rw[hp.wrap];rfl
   case mul=>rw[hp.wrap];rfl
   case quo=>
    obtain⟨h0,h1,h2⟩:=hp
    rw[if_neg (by omega),Int.tdiv_eq_ediv_of_nonneg h0,(U7 h2 h0 h1).wrap];rfl
   case rem=>
    obtain⟨h0,h1⟩:=hp
    rw[if_neg (by omega),Int.tmod_eq_emod_of_nonneg h0];rfl
   case eql=>simp[pure];rfl
   case neq=>simp[pure];rfl
   all_goals rfl
  cases h
 .rename_i a b
  have hg:(eqGuard op t x y (.string a) (.string b)).run P w= .ok () w:=by
   unfold eqGuard;split<;>rfl
  rw[Sem.run_bind,hg]
  simp only[Result.andThen]
  cases op<;>simp only[Option.some.injEq,Prod.mk.injEq,reduceCtorEq] at h
  all_goals (obtain⟨rfl,rfl⟩:=h)
  all_goals simp only[binOp,Op.stringOp]
  case add=>
   rw[if_neg (by
    have:IntKind.max .i64=9223372036854775807:=by decide
    omega)]
   rfl
  all_goals rfl
 .rename_i a b
  have hg:(eqGuard op t x y (.bool a) (.bool b)).run P w= .ok () w:=by
   unfold eqGuard;split<;>rfl
  rw[Sem.run_bind,hg]
  simp only[Result.andThen]
  cases op<;>simp only[Option.some.injEq,Prod.mk.injEq,reduceCtorEq] at h
  all_goals (obtain⟨rfl,rfl⟩:=h)
  all_goals
   simp only[binOp,Sem.run_bind]
   rw[show(Op.equal t (.bool a) (.bool b)).run P w= .ok (a==b) w from run_equal_bool w t a b hp]
   rfl
 .rename_i a b
  have hg:P.eqGuardType P.depth t=false->(eqGuard op t x y (.agg a) (.agg b)).run P w= .ok () w:=by
   intro he
   cases op<;>simp[eqGuard,program,Sem.run,he,Result.andThen]
  split at h
  .simp only[Option.some.injEq,Prod.mk.injEq] at h
   obtain⟨rfl,rfl⟩:=h
   rw[Sem.run_bind,hg hp.2]
   simp only[Result.andThen,binOp,Sem.run_bind,hp.1 w]
   rfl
  .simp only[Option.some.injEq,Prod.mk.injEq] at h
   obtain⟨rfl,rfl⟩:=h
   rw[Sem.run_bind,hg hp.2]
   simp only[Result.andThen,binOp,Sem.run_bind,hp.1 w]
   rfl
  cases h
 cases h
def cM (P:Program)(C:World->Prop)(g:Operand->Option Value)(op:Op)(iK:Option Value):Option (Value×Prop):=
 match op with
 | .move x=>(g x).map fun v=>(v,True)
 | .assign x=>(g x).map fun v=>(v,True)
 | .unOp .not _ x=>match g x with|some (.bool b)=>some (.bool (!b),True)|_=>none
 | .extract x i=>match g x with|some (.tuple vs)=>(vs[i]?).map fun v=>(v,True)|_=>none
 | .nilCheck x=>match g x with|some (.pointer (some a))=>some (.pointer (some a),True)|_=>none
 | .binOp o t x y _=>match g x,g y with|some a,some b=>iU P o t a b iK|_,_=>none
 | .convert s d x=>match P.underlying s,P.underlying d with
  |some (.int _),some (.int k)=>match g x with|some (.int _ n)=>some (.int k n,bR k n)|_=>none
  |some (.slice _),some .string=>match g x,iK with|some v,some u=>some (u,∀w,C w->(convert s d v).run P w= .ok u w)|_,_=>none
  |_,_=>none
 | .index t x i=>match P.underlying t,g x,g i with|some .string,some (.string s),some (.int _ n)=>some (.int .u8 (H7 s n),0<=n/\n<(s.size:Int))|_,_,_=>none
 | .indexAddr t x i=>match P.underlying t,g x,g i with|some (.slice e),some v,some (.int _ n)=>some (.pointer (some ⟨Ar v,As v+n.toNat*P.cellsOf e,none⟩),(P.info? e).isSome=true/\DC v n)|_,_,_=>none
 | .fieldAddr t x f=>match P.underlying t,g x with
  |some (.struct fs),some (.pointer (some ⟨b,o,none⟩))=>match fs[f]? with
   |some fd=>some (.pointer (some ⟨b,o+fd.offset,none⟩),0<P.cellsOf fd.type)
   |none=>none
  |_,_=>none
 | .load t x=>match P.underlying t,g x,iK with
  |some (.struct _),some (.pointer (some ⟨b,o,none⟩)),some (.agg us)=>some (.agg us,(P.info? t).isSome=true/\DD C b o (P.cellsOf t) us)
  |some (.struct _),_,_=>none
  |some (.array _ _),_,_=>none
  |some _,some (.pointer (some ⟨b,o,none⟩)),some u=>some (u,B8 C b o u)
  |_,_,_=>none
 | .field t x f=>match P.underlying t,g x with
  |some (.struct fs),some (.agg cs)=>match fs[f]? with
   |some fd=>match P.underlying fd.type with
    |some (.struct _)=>some (.agg (cs.extract fd.offset (fd.offset+P.cellsOf fd.type)),(P.info? fd.type).isSome=true)
    |some (.array _ _)=>none
    |some _=>(cs[fd.offset]?).map fun v=>(v,True)
    |none=>none
   |none=>none
  |_,_=>none
 | .build t ps=>match ps.toList.mapM (fun x=>(g x.2).map fun v=>(x.1,v)),iK with
  |some vs,some v=>some (v,∀w,(Instr.build t vs.toArray).run P w= .ok v w)
  |_,_=>none
 | .slice t x lo hi none=>match g x,lo.map g,hi.map g,iK with
  |some v,some (some l),some (some h),some u=>some (u,∀w,(Instr.sliceAt t v (some l) (some h) none).run P w= .ok u w)
  |some v,some (some l),none,some u=>some (u,∀w,(Instr.sliceAt t v (some l) none none).run P w= .ok u w)
  |some v,none,some (some h),some u=>some (u,∀w,(Instr.sliceAt t v none (some h) none).run P w= .ok u w)
  |some v,none,none,some u=>some (u,∀w,(Instr.sliceAt t v none none none).run P w= .ok u w)
  |_,_,_,_=>none
 | .lookup t m k ok=>match g m,g k,iK with
  |some vm,some vk,some u=>some (u,∀w,C w->(Instr.lookup t vm vk ok).run P w= .ok u w)
  |_,_,_=>none
 | .call c=>match c.callee,c.args.toList.map g with
  | .builtin .max,vs=>match vs.mapM id,iK with|some us,some v=>some (v,∀ty w,(Builtin.max_ c.argTypes ty us.toArray).run P w= .ok v w)|_,_=>none
  | .builtin .min,vs=>match vs.mapM id,iK with|some us,some v=>some (v,∀ty w,(Builtin.min_ c.argTypes ty us.toArray).run P w= .ok v w)|_,_=>none
  | .builtin .len,[some v]=>match(c.argTypes[0]?).bind P.underlying with
   |some .string=>match v with| .string s=>some (.int .i64 s.size,True)|_=>none
   |some (.slice _)=>match iK with|some (.int .i64 n)=>some (.int .i64 n,Ma v n)|_=>none
   |_=>none
  | .value x,vs=>match g x,vs.mapM id,iK with|some (.func (.func f) first cap),some us,some v=>some (v,Mb P f/\U6 P C f (first++us.toArray++cap) v)|_,_,_=>none
  |_,_=>none
 |_=>none
theorem xE {fd:Field}{b f:Nat}(w:World)(h0:0<P.cellsOf fd.type):(fieldPlace ⟨b,f,none⟩ fd).run P w= .ok (⟨b,f+fd.offset,none⟩:Addr) w:=by
 have hi:∃i,P.info? fd.type=some i:=by
  cases hh:P.info? fd.type with
  |none=>simp[Program.cellsOf,hh] at h0
  |some i=>exact⟨i,rfl⟩
 obtain⟨i,hi⟩:=hi
 have hs:i.size≠0:=by simp[Program.cellsOf,hi] at h0;omega
 have jx:(⟨b,f,none⟩:Addr).add fd.offset=⟨b,f+fd.offset,none⟩:=by unfold Addr.add;split<;>simp_all
 simp[fieldPlace,sizeOf,typeInfo,program,Sem.run,hi,hs,jx]
theorem run_loadCellsFrom (w:World)(b o:Nat)(us:Array Value)(n:Nat)(hn:us.size=n)(h:∀j,j<n->w.cell? ⟨b,o+j,none⟩=us[j]?):
  ∀k i (acc:Array Value),i+k=n->acc=us.extract 0 i->(loadCellsFrom ⟨b,o,none⟩ i k acc).run P w= .ok us w:=by
 intro k
 induction k with
 |zero=>
  intro i acc hi U8
  subst U8
  have:i=us.size:=by omega
  subst this
  simp[loadCellsFrom]
 |succ k ih=>
  intro i acc hi U8
  have hc:=h i (by omega)
  have jx:(⟨b,o,none⟩:Addr).add i=⟨b,o+i,none⟩:=by unfold Addr.add;split<;>simp_all
  have iL:i<us.size:=by omega
  rw[Array.getElem?_eq_getElem iL] at hc
  simp only[loadCellsFrom,load,Sem.run_bind,jx]
  rw[show(Sem.load .plain ⟨b,o+i,none⟩ Sem.pure:Sem Value).run P w= .ok us[i] w from by simp[Sem.run,hc]]
  simp only[Result.andThen]
  refine ih (i+1) _ (by omega) ?_
  subst U8
  simp
theorem DE {C:World->Prop}{t:TypeId}{b o:Nat}{us:Array Value}{d:TypeDesc}(w:World)(hw:C w)(hu:P.underlying t=some d)(hd:∃fs,d= .struct fs)(hi:(P.info? t).isSome=true)(hr:DD C b o (P.cellsOf t) us):
  (Instr.loadAt t (.pointer (some ⟨b,o,none⟩))).run P w= .ok (.agg us) w:=by
 obtain⟨fs,rfl⟩:=hd
 obtain⟨i,hi⟩:=Option.isSome_iff_exists.1 hi
 have:=run_loadCellsFrom (P:=P) w b o us (P.cellsOf t) hr.1 (hr.2 w hw) (P.cellsOf t) 0 #[] (by omega) (by simp)
 simp[Instr.loadAt,Instr.sureAddr,loadVar,isAgg,run_underlying hu,run_sizeOf w hi,loadCells,this]
theorem DF {t:TypeId}{b o:Nat}{d:TypeDesc}{u:Value}(w:World)(hu:P.underlying t=some d)(Rb:∀fs,d= .struct fs->False)(LG:∀n e,d= .array n e->False)(hc:w.cell? ⟨b,o,none⟩=some u):
  (Instr.loadAt t (.pointer (some ⟨b,o,none⟩))).run P w= .ok u w:=by
 cases d<;>first|exact(Rb _ rfl).elim|exact(LG _ _ rfl).elim|simp[Instr.loadAt,Instr.sureAddr,loadVar,isAgg,run_underlying hu,load,Sem.run,hc]
theorem bZ {C:World->Prop}{v:Value}{w:World}{s:Sem Value}(h:s.run P w= .ok v w):Oper.quietUpon P C w v ((do pure (.value (<-s)):Sem Next).run P w):=by
 rw[Sem.run_bind,h]
 exact⟨rfl,rfl⟩
theorem kF {C:World->Prop}{v:Value}{w:World}{s:Sem Value}(h:s.run P w= .ok v w):Oper.quietUpon P C w v ((s.run P w).andThen fun a w'=>.ok (.value a) w'):=by
 rw[h]
 exact⟨rfl,rfl⟩
theorem H8 {g:Operand->Option Value}{ρ:Operand->Value}(hg:∀x u,g x=some u->ρ x=u):∀(l:List Operand) (us:List Value),(l.map g).mapM id=some us->l.map ρ=us
 |[],us,h=>by simp at h;simp[h]
 |x::l,us,h=>by
  simp only[List.map_cons,List.mapM_cons,id_eq,Option.bind_eq_bind,Option.bind_eq_some_iff,Option.pure_def,Option.some.injEq] at h
  obtain⟨u,hu,vs,J5,rfl⟩:=h
  rw[List.map_cons,hg x u hu,H8 hg l vs J5]
theorem DG {g:Operand->Option Value}{ρ:Operand->Value}(hg:∀x u,g x=some u->ρ x=u):∀(l:List (Nat×Operand)) (us:List (Nat×Value)),l.mapM (fun x=>(g x.2).map fun v=>(x.1,v))=some us->l.map (fun x=>(x.1,ρ x.2))=us
 |[],us,h=>by simp at h;simp[h]
 |x::l,us,h=>by
  simp only[List.mapM_cons,Option.bind_eq_bind,Option.bind_eq_some_iff,Option.pure_def,Option.some.injEq,Option.map_eq_some_iff] at h
  obtain⟨_,⟨u,hu,rfl⟩,vs,J5,rfl⟩:=h
  rw[List.map_cons,hg x.2 u hu,DG hg l vs J5]
theorem pP {g:Operand->Option Value}{ρ:Operand->Value}(hg:∀x u,g x=some u->ρ x=u)(a:Array Operand)(us:List Value)(h:(a.toList.map g).mapM id=some us):a.map ρ=us.toArray:=by
 have:=H8 hg a.toList us h
 rw[<-this]
 apply Array.ext'
 rw[Array.toList_map]
theorem H9 {C:World->Prop}{g:Operand->Option Value}{ρ:Operand->Value}{o:Oper}{iK:Option Value}{v:Value}{p:Prop}(hg:∀x u,g x=some u->ρ x=u)
  (h:cM P C g o.op iK=some (v,p)) (hp:p) (w:World) (hw:C w):Oper.quietUpon P C w v ((execOp ρ o).run P w):=by
 cases fC:o.op<;>rw[fC] at h
 all_goals first|(cases h;done)|skip
 case move x=>
  simp only[cM] at h
  simp only[execOp,fC]
  obtain⟨u,hu,e⟩:=Option.map_eq_some_iff.1 h
  cases e
  rw[hg x _ hu]
  exact⟨rfl,rfl⟩
 case assign x=>
  simp only[cM] at h
  simp only[execOp,fC]
  obtain⟨u,hu,e⟩:=Option.map_eq_some_iff.1 h
  cases e
  rw[hg x _ hu]
  exact⟨rfl,rfl⟩
 case unOp uo t x=>
  cases uo
  all_goals first|(cases h;done)|skip
  simp only[cM] at h
  split at h
  .rename_i b hb
   cases h
   simp only[execOp,fC,hg x _ hb]
   exact⟨rfl,rfl⟩
  cases h
 case extract x i=>
  simp only[cM] at h
  split at h
  .rename_i vs hb
   obtain⟨u,hu,e⟩:=Option.map_eq_some_iff.1 h
   cases e
   simp only[execOp,fC,hg x _ hb]
   exact bZ (by simp[Instr.extract,hu])
  cases h
 case nilCheck x=>
  simp only[cM] at h
  split at h
  .rename_i a hb
   cases h
   simp only[execOp,fC,hg x _ hb]
   exact⟨rfl,rfl⟩
  cases h
 case binOp bo t x y t'=>
  simp only[cM] at h
  split at h
  .rename_i a b ha hb
   simp only[execOp,fC,hg x _ ha,hg y _ hb]
   exact bZ (Mc h hp w)
  cases h
 case convert sT dT x=>
  simp only[cM] at h
  split at h
  .rename_i k1 k h1 h2
   split at h
   .rename_i k2 n h3
    cases h
    simp only[execOp,fC,hg x _ h3]
    refine bZ ?_
    have:k.wrap n=n:=hp.wrap
    simp[convert,run_underlying h1,run_underlying h2,Conv.intToInt,this]
   cases h
  .split at h
   .rename_i u' h3
    cases h
    simp only[execOp,fC,hg x _ h3]
    exact bZ (hp w hw)
   cases h
  cases h
 case index t x i=>
  simp only[cM] at h
  split at h
  .rename_i s k n h1 h2 h3
   cases h
   simp only[execOp,fC,hg x _ h2,hg i _ h3]
   refine bZ ?_
   obtain⟨h0,h4⟩:=hp
   have iL:n.toNat<s.size:=by omega
   have pQ:s[n.toNat]?=some (s[n.toNat]'iL):=by simp[iL]
   have uB:H7 s n=((s[n.toNat]'iL).toNat:Int):=by
    unfold H7
    congr 2
    rw[Array.getD_eq_getD_getElem?,Array.getElem?_eq_getElem iL]
    rfl
   simp[Instr.index,asIntOf,run_underlying h1,h0,pQ,uB]
  cases h
 case indexAddr t x i=>
  simp only[cM] at h
  split at h
  .rename_i e v' k n h1 h2 h3
   cases h
   simp only[execOp,fC,hg x _ h2,hg i _ h3]
   refine bZ ?_
   obtain⟨hi,b,f,m,c,rfl,h0,h4⟩:=hp
   obtain⟨i,hi⟩:=Option.isSome_iff_exists.1 hi
   have jx:∀q,(⟨b,f,none⟩:Addr).add q=⟨b,f+q,none⟩:=by intro q;unfold Addr.add;split<;>simp_all
   simp[Instr.indexAt,asIntOf,run_underlying h1,h0,h4,run_sizeOf w hi,jx,Ar,As]
  cases h
 case fieldAddr t x f=>
  simp only[cM] at h
  split at h
  .rename_i fs b q h1 h2
   split at h
   .rename_i fd QN
    cases h
    simp only[execOp,fC,hg x _ h2]
    refine bZ ?_
    simp[Instr.fieldAt,run_underlying h1,QN,Instr.sureAddr,xE w hp]
   cases h
  cases h
 case load t x=>
  simp only[cM] at h
  split at h
  .rename_i fs b q us h1 h2
   cases h
   simp only[execOp,fC,hg x _ h2]
   exact bZ (DE w hw h1 ⟨_,rfl⟩ hp.1 hp.2)
  .cases h
  .cases h
  .rename_i d b q u wC B9 h1 h2
   cases h
   simp only[execOp,fC,hg x _ h2]
   exact bZ (DF w h1 wC B9 (hp w hw))
  cases h
 case field t x f=>
  simp only[cM] at h
  split at h
  .rename_i fs cs h1 h2
   split at h
   .rename_i fd QN
    split at h
    .rename_i fs' h3
     cases h
     simp only[execOp,fC,hg x _ h2]
     refine bZ ?_
     obtain⟨i,hi⟩:=Option.isSome_iff_exists.1 hp
     simp[Instr.field,run_underlying h1,QN,asAgg,part,isAgg,run_underlying h3,run_sizeOf w hi]
    .cases h
    .rename_i d wC B9 h3
     obtain⟨u,hu,e⟩:=Option.map_eq_some_iff.1 h
     cases e
     simp only[execOp,fC,hg x _ h2]
     refine bZ ?_
     have vz:(isAgg fd.type).run P w= .ok false w:=by
      cases d<;>first|exact(wC _ rfl).elim|exact(B9 _ _ rfl).elim|simp[isAgg,run_underlying h3]
     simp[Instr.field,run_underlying h1,QN,asAgg,part,vz,hu]
    cases h
   cases h
  cases h
 case build t ps=>
  simp only[cM] at h
  split at h
  .rename_i vs v' J5
   cases h
   have e:ps.map (fun x=>(x.1,ρ x.2))=vs.toArray:=by
    have:=DG hg ps.toList vs J5
    rw[<-this]
    apply Array.ext'
    rw[Array.toList_map]
   simp only[execOp,fC]
   refine bZ ?_
   have:=hp w
   rw[<-e] at this
   exact this
  cases h
 case slice t x lo hi mx=>
  cases mx with
  |some m=>simp only[cM] at h;cases h
  |none=>
   simp only[cM] at h
   simp only[execOp,fC]
   split at h
   .rename_i v' l hh u h1 h2 h3
    cases h
    obtain⟨lx,rfl,g2⟩:=Option.map_eq_some_iff.1 h2
    obtain⟨hx,rfl,g3⟩:=Option.map_eq_some_iff.1 h3
    refine bZ ?_
    simp only[Option.map_some,Option.map_none,hg _ _ h1,hg _ _ g2,hg _ _ g3]
    exact hp w
   .rename_i v' l u h1 h2 h3
    cases h
    obtain⟨lx,rfl,g2⟩:=Option.map_eq_some_iff.1 h2
    cases Option.map_eq_none_iff.1 h3
    refine bZ ?_
    simp only[Option.map_some,Option.map_none,hg _ _ h1,hg _ _ g2]
    exact hp w
   .rename_i v' hh u h1 h2 h3
    cases h
    obtain⟨hx,rfl,g3⟩:=Option.map_eq_some_iff.1 h3
    cases Option.map_eq_none_iff.1 h2
    refine bZ ?_
    simp only[Option.map_some,Option.map_none,hg _ _ h1,hg _ _ g3]
    exact hp w
   .rename_i v' u h1 h2 h3
    cases h
    cases Option.map_eq_none_iff.1 h2
    cases Option.map_eq_none_iff.1 h3
    refine bZ ?_
    simp only[Option.map_some,Option.map_none,hg _ _ h1]
    exact hp w
   cases h
 case lookup t m k ok=>
  simp only[cM] at h
  split at h
  .rename_i vm vk u h1 h2
   cases h
   simp only[execOp,fC,hg _ _ h1,hg _ _ h2]
   exact bZ (hp w hw)
  cases h
 case call c=>
  simp only[cM] at h
  split at h
  .rename_i vs hc
   split at h
   .rename_i us v' F7
    cases h
    have ha:=pP hg c.args us F7
    simp only[execOp,fC,resolve,hc,Sem.run_bind,Sem.run_pure,Result.andThen_ok,ha,invoke,builtin]
    exact kF (hp _ w)
   cases h
  .rename_i vs hc
   split at h
   .rename_i us v' F7
    cases h
    have ha:=pP hg c.args us F7
    simp only[execOp,fC,resolve,hc,Sem.run_bind,Sem.run_pure,Result.andThen_ok,ha,invoke,builtin]
    exact kF (hp _ w)
   cases h
  .rename_i v' hc hl
   split at h
   .rename_i hu
    split at h
    .rename_i s
     cases h
     obtain⟨t,Xt,ht1⟩:=Option.bind_eq_some_iff.1 hu
     have ha:=pP hg c.args [.string s] (by rw[hl];rfl)
     simp only[execOp,fC,resolve,hc,Sem.run_bind,Sem.run_pure,Result.andThen_ok,ha,invoke,builtin]
     refine kF (s:=Builtin.len_ c.argTypes o.type #[.string s]) ?_
     simp[Builtin.len_,Xt,run_underlying ht1,goInt]
    cases h
   .rename_i e hu
    split at h
    .rename_i n
     cases h
     obtain⟨t,Xt,ht1⟩:=Option.bind_eq_some_iff.1 hu
     obtain⟨q,m,cp,rfl,rfl⟩:=hp
     have ha:=pP hg c.args [.slice q m cp] (by rw[hl];rfl)
     simp only[execOp,fC,resolve,hc,Sem.run_bind,Sem.run_pure,Result.andThen_ok,ha,invoke,builtin]
     refine kF (s:=Builtin.len_ c.argTypes o.type #[.slice q m cp]) ?_
     simp[Builtin.len_,Xt,run_underlying ht1,goInt]
    cases h
   cases h
  .rename_i x vs hc
   split at h
   .rename_i f first cap us v' hx F7
    cases h
    obtain⟨⟨fn,hf,hn,hb⟩,Au⟩:=hp
    have ha:=pP hg c.args us F7
    have e:(execOp ρ o).run P w= .ok (.enter f (first++us.toArray++cap)) w:=by
     have T8:fn.name≠ "runtime.NumGoroutine" :=by simpa using hn
     have mX:fn.body≠none:=by intro e;rw[e] at hb;cases hb
     simp[execOp,fC,resolve,hc,ha,hg _ _ hx,Deferred.ofValue,invoke,callFunc,program,Sem.run,hf,T8,mX]
    rw[e]
    exact⟨rfl,Au w hw⟩
   cases h
  cases h
end
structure LH where
 slot:Nat
 ch:List (Nat×Bool)
 val:Value
abbrev Env:=List LH
def Ia (a:Act)(l:Nat×Bool):Prop:=a.tmps[l.1]?=some (.bool l.2)
def jy (a:Act)(C:List (Nat×Bool)):Prop:=∀l∈C,Ia a l
def DH (a:Act)(e:LH):Prop:=(jy a e.ch->a.tmps[e.slot]?=some e.val)/\(¬jy a e.ch->a.tmps[e.slot]?=some undef)
def T9 (n:Nat)(a:Act)(env:Env):Prop:=a.tmps.size=n/\a.defers=[]/\∀e∈env,DH a e
def look (env:Env)(t:Nat):Option LH:=env.find? (fun e=>e.slot==t)
theorem look_ok {env:Env}{t:Nat}{e:LH}(h:look env t=some e):e∈env/\e.slot=t:=
 ⟨List.mem_of_find?_eq_some h,by have:=List.find?_some h;simpa using this⟩
theorem pR {a:Act}{C D:List (Nat×Bool)}(h:C.isPrefixOf D=true)(hd:jy a D):jy a C:=by
 obtain⟨t,rfl⟩:=List.isPrefixOf_iff_prefix.1 h
 exact fun l hl=>hd l (List.mem_append_left _ hl)
theorem Av {a:Act}{l:Nat×Bool}{d:Nat}{v:Value}(h:l.1≠d):Ia (a.put (some d) v) l↔Ia a l:=by
 simp only[Ia,Act.put,Array.getElem?_setIfInBounds]
 rw[if_neg (fun e=>h e.symm)]
theorem mY {a:Act}{C:List (Nat×Bool)}{d:Nat}{v:Value}(h:C.all (fun l=>l.1 !=d)=true):jy (a.put (some d) v) C↔jy a C:=by
 rw[List.all_eq_true] at h
 exact⟨fun hc l hl=>(Av (by simpa using h l hl)).1 (hc l hl),fun hc l hl=>(Av (by simpa using h l hl)).2 (hc l hl)⟩
theorem J6 {a:Act}{e:LH}{d:Nat}{v:Value}(h:(e.slot !=d && e.ch.all (fun l=>l.1 !=d))=true)(he:DH a e):DH (a.put (some d) v) e:=by
 rw[Bool.and_eq_true] at h
 have hs:(a.put (some d) v).tmps[e.slot]?=a.tmps[e.slot]?:=by
  simp only[Act.put,Array.getElem?_setIfInBounds]
  rw[if_neg (fun q=>by simp[q] at h)]
 refine⟨fun hc=>?_,fun hc=>?_⟩
 .rw[hs];exact he.1 ((mY h.2).1 hc)
 rw[hs];exact he.2 (fun k=>hc ((mY h.2).2 k))
def Ib (keep:List (Nat×Value)):Env:=keep.map fun x=>⟨x.1,[],x.2⟩
def sub:Code->List Nat->Code
 |c,[]=>c
 | .seq x y,k::p=>if k=0 then sub x p else sub y p
 | .cond _ x y,k::p=>if k=0 then sub x p else sub y p
 | .block _ b,_::p=>sub b p
 | .loop b,_::p=>sub b p
 | .scope b,_::p=>sub b p
 | .rangeFunc _ _ x y,k::p=>if k=0 then sub x p else sub y p
 |_,_::_=>.skip
def Yd:Code->Bool| .ret=>true|_=>false
theorem Ic (c:Code):sub c []=c:=by cases c<;>rfl
theorem Md (x y:Code):sub (.seq x y) [0]=x:=by simp only[sub];cases x<;>rfl
theorem Me (x y:Code):sub (.seq x y) [1]=y:=by simp only[sub];cases y<;>rfl
theorem Aw (c:Operand)(x y:Code):sub (.cond c x y) [0]=x:=by simp only[sub];cases x<;>rfl
theorem Ay (c:Operand)(x y:Code):sub (.cond c x y) [1]=y:=by simp only[sub];cases y<;>rfl
theorem F8 (i:Nat)(x:Code):sub (.block i x) [0]=x:=by simp only[sub]
theorem J7 (x:Code):sub (.loop x) [0]=x:=by simp only[sub]
theorem ez (k:Nat):∀(p:List Nat) (B:Code),sub B (p++[k])=sub (sub B p) [k]
 |[],B=>by cases B<;>rfl
 |j::p,B=>by
  cases B with
  |seq x y=>simp only[List.cons_append,sub];split<;>exact ez k p _
  |cond c x y=>simp only[List.cons_append,sub];split<;>exact ez k p _
  |block i b=>exact ez k p b
  |loop b=>exact ez k p b
  |scope b=>exact ez k p b
  |rangeFunc f ps x y=>simp only[List.cons_append,sub];split<;>exact ez k p _
  |_=>rfl
abbrev iM:=Exit->Act->World->Prop
theorem DI {p:Nat->Prop}:∀n,p n->∃m,p m/\∀k,p k->m<=k:=by
 intro n
 induction n using Nat.strongRecOn with
 |_ n ih=>
  intro hn
  by_cases h:∃k,k<n/\p k
  .obtain⟨k,hk,hpk⟩:=h;exact ih k hk hpk
  exact⟨n,hn,fun k hk=>Nat.le_of_not_lt fun iL=>h ⟨k,iL,hk⟩⟩
section
variable {P:Program}{B:Code}{p:List Nat}{Q:iM}{a:Act}{w:World}
abbrev On (w:World):World->Prop:=fun w'=>Below w.heap.size w w'
theorem enter {f:FuncId}(fn:Func)(n:Nat){args:List Value}{R:Ending->World->Prop}(hf:P.funcs[f]?=some fn)
  (k:∀a,T9 n a (Ib ((List.range args.length).zip args))->(sub (fn.body.getD .skip) []).wp P (bodyPost P fn R) a w) (hb:fn.body.isSome=true:=by kernel_rfl) (hn:fn.ntmps=n:=by kernel_rfl) (hl:decide (args.length<=n)=true:=by kernel_rfl):Calls P f args.toArray w R:=by
 obtain⟨B,hb⟩:=Option.isSome_iff_exists.1 hb
 rw[hb] at k
 have hl:=of_decide_eq_true hl
 refine calls_of_wp hf hb ?_
 rw[<-Ic B]
 refine k _ ⟨?_,rfl,fun e he=>?_⟩
 .simp;omega
 obtain⟨x,hx,rfl⟩:=List.mem_map.1 he
 obtain⟨j,hj,rfl⟩:=List.getElem_of_mem hx
 have J8:j<args.length:=by simp at hj;exact hj
 refine⟨fun _=>?_,fun hn=>(hn (fun l hl=>by simp at hl)).elim⟩
 simp only[List.getElem_zip,List.getElem_range]
 rw[Array.getElem?_append_left (by simpa using J8)]
 simp[J8]
end
abbrev Ans (v:Value)(w:World):Ending->World->Prop:=fun e w'=>e= .returned v/\Below w.heap.size w w'
theorem Ye {a b:ByteArray}(h:(a.toList==b.toList)=true):a=b:=by
 have:=beq_iff_eq.1 h
 rw[ByteArray.toList_eq,ByteArray.toList_eq] at this
 cases a;cases b
 congr 1
 exact Array.ext' this
theorem nT {b:Bool}(h:(!b)=true):b=false:=by simpa using h
section
variable {P:Program}{B:Code}{p:List Nat}{Q:iM}{a:Act}{w:World}
end
section
variable {P:Program}
theorem Fr.same {w0:Orig}{w:World}{S:aL}{rs Dt:List n0}(h:Fr w0 w S rs)(e:rs=Dt):Fr w0 w S Dt:=e▸h
variable {B:Code}{p:List Nat}{Q:iM}{a:Act}{w:World}
end
end Go.Proofs.YtnfdimfepbbbpaaGreat
namespace Go.Proofs.YtnfdimfepbbbpaaGreat
open Go.RowKit
class Flat (α:Type) extends Data α where
 enc:α->List Value
 fix:∀ {S w cs a},toData.rd S w cs a->cs=enc a
instance:Flat Int:={(inferInstance:Data Int) with enc:=fun n=>[.int .i64 n],fix:=fun h=>h}
instance:Flat Bool:={(inferInstance:Data Bool) with enc:=fun n=>[.bool n],fix:=fun h=>h}
instance:Flat ByteArray:={(inferInstance:Data ByteArray) with enc:=fun n=>[.string n],fix:=fun h=>h}
instance {α β:Type} [Flat α] [Flat β]:Flat (α×β):=
 {(inferInstance:Data (α×β)) with
  enc:=fun x=>Flat.enc x.1++Flat.enc x.2
  fix:=by rintro S w cs a ⟨c1,c2,rfl,h1,h2⟩;rw[Flat.fix h1,Flat.fix h2]}
abbrev Ie (o:Orig)(R:aL->Value->World->Prop):Ending->World->Prop:=fun e w'=> ∃v,e= .returned v/\R (rT o w') v w'/\Below o.w.heap.size o.w w'
section
variable {P:Program}{Q:iM}{a:Act}{w:World}
end
end Go.Proofs.YtnfdimfepbbbpaaGreat
namespace Go.Proofs.YtnfdimfepbbbpaaGreat
open Go.ChangeShapes Go.WideShapes Go.ChangeAt Go.RowKit
theorem Tryz.own:ownKnob Tryz.prog.godebug=none:=by kernel_rfl
theorem Tryz.laidOut:laidOutB Tryz.prog=true:=by kernel_rfl
theorem zT {H:Type}{enc:TypeId×Value->H}{P:Program}{f:Func}{s:ChangeSpec}{apart fresh handsOn:Bool}{W W':World}{args:Array Value}{v:Value}{ds gs:List (DataW H)}{before pa pv:List MemPlace}
  (hW:DataW.Whole enc P f.params.toList s.vars apart W args.toList ds gs before)
  (n9:∀(b:Nat) (sp:Nat->Bool) (hd:Bool),DataW.TrodAll enc P W' b sp hd f.resultTypes.toList (v.resultList f.resultTypes.size) (s.fn H (ds++gs)).results [])
  (dD:DataW.TrodAll enc P W' 0 (fun b=>decide (b<W.heap.size)) true f.params.toList args.toList (s.fn H (ds++gs)).args pa)
  (Yf:DataW.TrodVars enc P W' (fun b=>decide (b<W.heap.size)) s.vars (s.fn H (ds++gs)).vars pv)
  (J9:before=pa++pv) (hb:Below W.heap.size W W'):s.post enc P f apart fresh handsOn false W args v W':=by
 refine⟨ds,gs,before,[],pa,pv,hW,n9 _ _ _,dD,Yf,World.keptBut_mono (fun p hp=>⟨hp,?_⟩) (hb.frame (· ∈before)),fun h=>by cases h⟩
 rw[J9,List.mem_append] at hp
 exact Or.inr hp
theorem wf_i64 {n:Int}(h:(Lit.int .i64 n).wf=true): -9223372036854775808<=n/\n<=9223372036854775807:=by
 simpa[Lit.wf,IntKind.min,IntKind.max,IntKind.signed,IntKind.bits] using h
theorem U9 {P:Program}{ats:Array TypeId}{k:IntKind}{a b:Int}(ty:TypeId)(w:World):(Builtin.max_ ats ty [.int k a,.int k b].toArray).run P w= .ok (.int k (max a b)) w:=by
 have e:(if b>a then b else a)=max a b:=by split<;>omega
 simp[Builtin.max_,Builtin.max2,e]
theorem Va {P:Program}{ats:Array TypeId}{k:IntKind}{a b:Int}(ty:TypeId)(w:World):(Builtin.min_ ats ty [.int k a,.int k b].toArray).run P w= .ok (.int k (min a b)) w:=by
 have e:(if b<a then b else a)=min a b:=by split<;>omega
 simp[Builtin.min_,Builtin.min2,e]
theorem Rc {a:Int}{n:Nat}(h:1<=n):0<=(1:Int)/\a.fdiv (2 ^ (min (1:Int).toNat n))=a/2:=by
 refine⟨by decide,?_⟩
 rw[show min (1:Int).toNat n=1 by omega]
 exact Int.fdiv_eq_ediv_of_nonneg a (by decide)
section
variable {P:Program}{Q:iM}{a:Act}{w:World}
theorem oW (w:World)(t e:TypeId)(b o:Nat)(vs us:List Value)(u:Value)(hb:w.heap[b]?=some (.cells vs.toArray e (0,0)))(hc:u.cells.toList=us)(ho:o+us.length<=vs.length)
  (dc:(P.info? t).map (·.size)=some us.length) (h1:∀v∈us,v.oneCell'=true):
  (Instr.storeAt t (.pointer (some ⟨b,o,none⟩)) u).run P w= .ok () (w.setRow b (vs.take o++us++vs.drop (o+us.length)).toArray):=by
 obtain⟨i,hi,hs⟩:=Option.map_eq_some_iff.1 dc
 have cE:u.cells.size=us.length:=by rw[<-hc,Array.length_toList]
 have Du:P.cellsOf t=us.length:=by simp[Program.cellsOf,hi,hs]
 have:=run_storeCells_at (P:=P) b o e us 0 vs.toArray w hb (by simpa using ho) h1
 simp only[Nat.add_zero] at this
 simp only[Instr.storeAt,Instr.sureAddr,storeVar,Sem.run_bind,Sem.run_pure,Result.andThen_ok,run_sizeOf w hi,hs,cE,Du,ne_eq,not_true_eq_false,if_false,hc]
 exact this
end
def Yg (w:World)(m:Option Nat)(w':World):Prop:=w.heap.size<=w'.heap.size/\∀k,k<w.heap.size->some k≠m->w'.heap[k]?=w.heap[k]?
theorem Yg.refl (w:World)(m:Option Nat):Yg w m w:=⟨Nat.le_refl _,fun _ _ _=>rfl⟩
theorem Yg.below {w w1 w2:World}{m:Option Nat}(h:Yg w m w1)(hb:Below w1.heap.size w1 w2):Yg w m w2:=
 ⟨Nat.le_trans h.1 hb.size,fun k hk hm=>(hb.block k (Nat.lt_of_lt_of_le hk h.1)).trans (h.2 k hk hm)⟩
section
variable {P:Program}{ops:Array Oper}{Q:Exit->Act->World->Prop}{D:World->Prop}
def Mix (P:Program)(ops:Array Oper)(Q:Exit->Act->World->Prop)(D:World->Prop)(hd:List Nat):Nat->Array Bool->Act->World->Prop
 |0,bu,a,w=>Region.ready .any ops bu=[]/\Q .normal a w
 |n+1,bu,a,w=>(Region.ready .any ops bu=[]->Q .normal a w)/\
  ∀i∈Region.ready .any ops bu,wpOp P ops Q i (fun a' w'=>(i∈hd->D w')/\Mix P ops Q D hd n (bu.setIfInBounds i true) a' w') a w
theorem Mix.any {hd:List Nat}:∀(n:Nat) (bu:Array Bool) (a:Act) (w:World),Mix P ops Q D hd n bu a w->wpAny P .any ops Q n bu a w
 |0,_,_,_,h=>h
 |n+1,_,_,_,h=>⟨h.1,fun i hi=>wpOp_mono (fun a' w' q=>Mix.any n _ a' w' q.2) (h.2 i hi)⟩
end
section
variable {P:Program}{B:Code}{p:List Nat}{Q:Exit->Act->World->Prop}{a:Act}{w:World}
end
abbrev Old (o:Orig)(S:aL):aL:=fun k=>k<o.w.heap.size\/S k
theorem Fr.old {o:Orig}{w:World}{S:aL}{rs:List n0}(H:Fr o w S rs){k:Nat}(h:Old o S k):k<w.heap.size:=by
 rcases h with h|h
 .exact Nat.lt_of_lt_of_le h H.below.size
 exact H.iI k h
theorem Az {α:Type}[Data α]{T:aL}{C:World->Prop}{w:World}{v:Value}{l:List α}(hC:∀w',C w'->cK T w w')(h:Rd T w v l){i:Int}(h0:0<=i)(h1:i<(l.length:Int))(d:α):
  ∃cs,Data.rd T w cs (l.getD i.toNat d)/\∀j,j<Data.size α->∀w',C w'->w'.cell? ⟨Ar v,As v+i.toNat*Data.size α+j,none⟩=cs[j]?:=by
 obtain⟨p,c,rfl,_,_,h3⟩:=cq h
 rcases h3 with rfl|⟨g,off,cur,t,fz,rfl,hg,hw,hc⟩
 .simp at h1;omega
 have hi:i.toNat<l.length:=by omega
 obtain⟨cs,hr,hj⟩:=hc i.toNat hi
 refine⟨cs,?_,fun j J8 w' zK=>?_⟩
 .rw[List.getD_eq_getElem?_getD,List.getElem?_eq_getElem hi];exact hr
 show w'.cell? ⟨g,off+i.toNat*Data.size α+j,none⟩=_
 rw[cell_of_row w' g _ cur t fz ((hC w' zK g hg).trans hw)]
 exact hj j J8
section
variable {P:Program}{Q:Exit->Act->World->Prop}{a:Act}{w:World}
end
section
variable {P:Program}{Q:iM}{a:Act}{w:World}
end
theorem F9 {α:Type}[Data α]{S:aL}{w:World}:Rd S w (.slice none 0 0) ([]:List α):=
 iy ⟨none,0,rfl,by simp,by simp[maxLen],.inl rfl⟩
section
variable {P:Program}{Q:iM}{a:Act}{w:World}
end
end Go.Proofs.YtnfdimfepbbbpaaGreat
namespace Go.Proofs.YtnfdimfepbbbpaaGreat
open Go.ChangeShapes Go.WideShapes Go.ChangeAt Go.RowKit
def oZ (P:Program)(t:TypeId){α:Type}[Data α](ok:α->Prop):Prop:=
 ∀ {H:Type} {enc:TypeId×Value->H} {w:World} {base:Nat} {sp:Nat->Bool} {hd:Bool} {fuel:Nat} {cs:List Value} {x:DataW H×List MemPlace},
  DataW.trod enc P w base sp hd fuel t cs=some x->∃a:α,Data.rd (· <w.heap.size) w cs a/\ok a
def aaI (n:Int):Prop:= -9223372036854775808<=n/\n<=9223372036854775807
theorem gY {P:Program}{t:TypeId}(ht:P.underlying t=some (.int .i64)):oZ P t aaI:=by
 intro H enc w base sp hd fuel cs x h
 obtain⟨n,rfl,_,hw⟩:=DataW.trod_int ht h
 exact⟨n,rfl,wf_i64 hw⟩
theorem kP {P:Program}{t:TypeId}{f0 f1:Field}{α β:Type}[Data α][Data β]{Yh:α->Prop}{Yi:β->Prop}(ht:P.underlying t=some (.struct #[f0,f1]))(h0:oZ P f0.type Yh)(h1:oZ P f1.type Yi)
  (o0:f0.offset=0) (o1:f1.offset=Data.size α) (c0:P.cellsOf f0.type=Data.size α) (c1:P.cellsOf f1.type=Data.size β) (ct:P.cellsOf t=Data.size α+Data.size β):oZ P t (α:=α×β) fun x=>Yh x.1/\Yi x.2:=by
 intro H enc w base sp hd fuel cs x h
 obtain⟨xs,n,_,_,cE,Re,hf⟩:=DataW.trod_struct ht h
 match xs,Re with
 |[y0,y1],_=>
  have g0:=hf 0 f0 rfl
  have g1:=hf 1 f1 rfl
  rw[o0,c0,List.drop_zero] at g0
  rw[o1,c1] at g1
  obtain⟨a,ra,ka⟩:=h0 (x:=y0) g0
  obtain⟨b,rb,kb⟩:=h1 (x:=y1) g1
  refine⟨(a,b),⟨_,_,?_,ra,rb⟩,ka,kb⟩
  have e1:(cs.drop (Data.size α)).take (Data.size β)=cs.drop (Data.size α):=List.take_of_length_le (by rw[List.length_drop,cE,ct];omega)
  rw[e1,List.take_append_drop]
theorem dU {P:Program}{t e:TypeId}{α:Type}[Data α]{ok:α->Prop}(ht:P.underlying t=some (.slice e))(h:oZ P e ok)(hc:P.cellsOf e=Data.size α)(hp:0<Data.size α):oZ P t (α:=List α) fun l=> ∀a∈l,ok a:=by
 intro H enc w base sp hd fuel cs x hx
 rcases Go.Deep.open_slice ht hx with⟨rfl,_⟩|⟨a,len,cap,m,n,D,Pl,rfl,hb,hl,hm,zL,rfl,Rf⟩
 .exact⟨[],⟨_,rfl,none,0,rfl,by simp,by simp[maxLen],.inl rfl⟩,by simp⟩
 have hlm:len<=m:=by rw[zL];split<;>omega
 have each:∀i:Fin len,∃y:α,∃tc:List Value,(∀j,j<Data.size α->w.cell? ((a.add (i.val*Data.size α)).add j)=tc[j]?)/\tc.length=Data.size α/\Data.rd (· <w.heap.size) w tc y/\ok y:=by
  intro i
  obtain⟨tc,h1,h2⟩:=Rf i.val (by omega)
  rw[hc] at h1
  obtain⟨_,hlen,kr⟩:=World.cells?_some h1
  obtain⟨y,ry,ky⟩:=h h2
  exact⟨y,tc,kr,hlen,ry,ky⟩
 refine⟨List.ofFn fun i=>Classical.choose (each i),⟨_,rfl,some a,cap,by rw[List.length_ofFn],by rw[List.length_ofFn];exact hl,hm,?_⟩,fun y hy=>?_⟩
 .by_cases h0:len=0
  .left;subst h0;rfl
  right
  obtain⟨cs0,k1,k2,_⟩:=Classical.choose_spec (each ⟨0,by omega⟩)
  have k0:=k1 0 hp
  rw[Go.Deep.add_add,List.getElem?_eq_getElem (by omega)] at k0
  have e0:a.add (0*Data.size α+0)=a:=by simp[Addr.add]
  simp only[e0] at k0
  obtain⟨g,off,spot⟩:=a
  unfold World.cell? at k0
  simp only at k0
  split at k0
  .rename_i cur ty fz Mf
   split at k0
   .cases k0
   rename_i hs
   have hsp:spot=none:=by cases spot<;>simp_all
   subst hsp
   refine⟨g,off,cur,ty,fz,rfl,(Array.getElem?_eq_some_iff.1 Mf).1,Mf,fun i hi=>?_⟩
   rw[List.length_ofFn] at hi
   obtain⟨tc,k1,k2,k3,_⟩:=Classical.choose_spec (each ⟨i,hi⟩)
   refine⟨tc,by rw[List.getElem_ofFn];exact k3,fun j hj=>?_⟩
   rw[<-k1 j hj,Go.Deep.add_add]
   have jx:(⟨g,off,none⟩:Addr).add (i*Data.size α+j)=⟨g,off+(i*Data.size α+j),none⟩:=by unfold Addr.add;split<;>simp_all
   rw[jx,cell_of_row w g _ cur ty fz Mf,Nat.add_assoc]
  cases k0
 obtain⟨i,rfl⟩:=List.mem_ofFn.1 hy
 obtain⟨tc,_,_,_,k4⟩:=Classical.choose_spec (each i)
 exact k4
theorem Ga {P:Program}{t:TypeId}{fs:Array Field}{α:Type}[Data α]{ok:α->Prop}(ho:oZ P t ok)(ht:P.underlying t=some (.struct fs)){H:Type}{enc:TypeId×Value->H}{W:World}{b0:Nat}{sp:Nat->Bool}{hd:Bool}{v:Value}{d:DataW H}{ps:List MemPlace}
  (uE:Value.okWide P W .any b0 t v) (h:DataW.Trod enc P W 0 sp hd t v d ps):∃(cs:List Value) (a:α),v= .agg cs.toArray/\Data.rd (· <W.heap.size) W cs a/\ok a:=by
 obtain⟨cs,rfl,_⟩:=okWide_struct ht uE
 obtain⟨fuel,hx⟩:=h
 obtain⟨a,ha,hk⟩:=ho hx
 exact⟨cs.toList,a,rfl,ha,hk⟩
end Go.Proofs.YtnfdimfepbbbpaaGreat
namespace Go.Proofs.YtnfdimfepbbbpaaGreat
open Go.ChangeShapes Go.WideShapes Go.ChangeAt Go.RowKit
theorem Ca {P:Program}{t:TypeId}{f0 f1 f2:Field}{α β γ:Type}[Data α][Data β][Data γ]{Yh:α->Prop}{Yi:β->Prop}{ok2:γ->Prop}(ht:P.underlying t=some (.struct #[f0,f1,f2]))(h0:oZ P f0.type Yh)(h1:oZ P f1.type Yi)(h2:oZ P f2.type ok2)
  (o0:f0.offset=0) (o1:f1.offset=Data.size α) (o2:f2.offset=Data.size α+Data.size β) (c0:P.cellsOf f0.type=Data.size α) (c1:P.cellsOf f1.type=Data.size β) (c2:P.cellsOf f2.type=Data.size γ) (ct:P.cellsOf t=Data.size α+(Data.size β+Data.size γ)):oZ P t (α:=α×β×γ) fun x=>Yh x.1/\Yi x.2.1/\ok2 x.2.2:=by
 intro H enc w base sp hd fuel cs x h
 obtain⟨xs,n,_,_,cE,Re,hf⟩:=DataW.trod_struct ht h
 match xs,Re with
 |[y0,y1,y2],_=>
  have g0:=hf 0 f0 rfl
  have g1:=hf 1 f1 rfl
  have g2:=hf 2 f2 rfl
  rw[o0,c0,List.drop_zero] at g0
  rw[o1,c1] at g1
  rw[o2,c2] at g2
  obtain⟨a,ra,ka⟩:=h0 (x:=y0) g0
  obtain⟨b,rb,kb⟩:=h1 (x:=y1) g1
  obtain⟨c,rc,kc⟩:=h2 (x:=y2) g2
  refine⟨(a,b,c),⟨_,cs.drop (Data.size α),(List.take_append_drop _ _).symm,ra,⟨_,_,?_,rb,rc⟩⟩,ka,kb,kc⟩
  have e1:(cs.drop (Data.size α+Data.size β)).take (Data.size γ)=cs.drop (Data.size α+Data.size β):=List.take_of_length_le (by rw[List.length_drop,cE,ct];omega)
  rw[e1,<-List.drop_drop,List.take_append_drop]
section
variable {H:Type}{enc:TypeId×Value->H}{P:Program}{w:World}{base:Nat}{spare:Nat->Bool}{held:Bool}
end
end Go.Proofs.YtnfdimfepbbbpaaGreat
namespace Go.Proofs.YtnfdimfepbbbpaaGreat
open Go.ChangeShapes Go.WideShapes Go.ChangeAt Go.RowKit
theorem Ig {P:Program}{t:TypeId}{fs:Array Field}{α:Type}[Data α]{ok:α->Prop}(ho:oZ P t ok)(ht:P.underlying t=some (.struct fs))(ha:Data.isAgg α=true){H:Type}{enc:TypeId×Value->H}{W:World}{b0:Nat}{sp:Nat->Bool}{hd:Bool}{v:Value}{d:DataW H}{ps:List MemPlace}
  (uE:Value.okWide P W .any b0 t v) (h:DataW.Trod enc P W 0 sp hd t v d ps):∃a:α,Rd (· <W.heap.size) W v a/\ok a:=by
 obtain⟨cs,a,rfl,hr,hk⟩:=Ga ho ht uE h
 exact⟨a,⟨cs,hr,by rw[if_pos ha]⟩,hk⟩
section
variable {P:Program}{Q:Exit->Act->World->Prop}{a:Act}{w:World}
end
def Rv (v:Value):Option (DataW Value×List MemPlace):=some (.held v,[])
def wfI (x:Int):Prop:= -9223372036854775808<=x/\x<=9223372036854775807
theorem Yj {x:Int}(h:wfI x):(Lit.int .i64 x).wf=true:=by
 have:=h.1;have:=h.2
 simp only[Lit.wf,IntKind.min,IntKind.max,IntKind.signed,IntKind.bits]
 simp
 omega
section
variable {P:Program}{B:Code}{p:List Nat}{Q:iM}{a:Act}{w:World}
end
end Go.Proofs.YtnfdimfepbbbpaaGreat
namespace Go.Proofs.YtnfdimfepbbbpaaGreat
open Go.RowKit
section
variable {P:Program}{Q:Exit->Act->World->Prop}{a:Act}{w:World}
end
structure Raw where
 v:Value
instance:Data Raw where
 size:=1
 isAgg:=false
 rd _ _ cs x:=cs=[x.v]/\x.v.oneCell'=true
 len h:=by rw[h.1];rfl
 up _ h:=h
 keep _ h:=h
 one h u hu:=by rw[h.1] at hu;simp at hu;subst hu;exact h.2
section
variable {P:Program}{o:Orig}{w:World}{S:aL}{rs:List n0}{kt et t:TypeId}
end
section
variable {P:Program}{Q:Exit->Act->World->Prop}{a:Act}{w:World}
end
section
variable {P:Program}{Q:Exit->Act->World->Prop}{a:Act}{w:World}
end
section
variable {P:Program}{Q:iM}{a:Act}{w:World}
end
def Vb (w:World)(ms:List Nat)(w':World):Prop:=w.heap.size<=w'.heap.size/\∀k,k<w.heap.size->k∉ms->w'.heap[k]?=w.heap[k]?
theorem Vb.below {w w1 w2:World}{ms:List Nat}(h:Vb w ms w1)(hb:Below w1.heap.size w1 w2):Vb w ms w2:=
 ⟨Nat.le_trans h.1 hb.size,fun k hk hm=>(hb.block k (Nat.lt_of_lt_of_le hk h.1)).trans (h.2 k hk hm)⟩
inductive Kc where
 |int
 |str
def bL:Kc->Type
 | .int=>Int
 | .str=>ByteArray
instance abR:(k:Kc)->DecidableEq (bL k)
 | .int=>(inferInstance:DecidableEq Int)
 | .str=>(inferInstance:DecidableEq ByteArray)
def fP:(k:Kc)->bL k->Value
 | .int,n=>.int .i64 n
 | .str,s=>.string s
def cN:(k:Kc)->bL k->Lit
 | .int,n=>.int .i64 n
 | .str,s=>.string s.data.toList
def iz:Kc->TypeDesc
 | .int=>.int .i64
 | .str=>.string
def cA:(k:Kc)->bL k->Prop
 | .int,n=>wfI n
 | .str,s=>ByteArray.size s<=maxLen
def ilt (a b:Int):Bool:=decide (a<b)
def Yk:(k:Kc)->bL k->bL k->Bool
 | .int,a,b=>ilt a b
 | .str,a,b=>bytesBefore a.data.toList b.data.toList
theorem Mg:∀(k:Kc) (a b:bL k),(cN k a).before (cN k b)=Yk k a b
 | .int,_,_=>rfl
 | .str,_,_=>rfl
theorem DJ:∀(k:Kc) {a b:bL k},cN k a=cN k b->a=b
 | .int,a,b,h=>by cases h;rfl
 | .str,a,b,h=>by
  have h:Lit.string a.data.toList= .string b.data.toList:=h
  have h2:=Lit.string.inj h
  obtain⟨⟨a⟩⟩:=a;obtain⟨⟨b⟩⟩:=b
  have h2:a=b:=h2
  subst h2;rfl
theorem qJ (k:Kc)(a b:bL k):(cN k a).sameKey (cN k b)=decide (a=b):=by
 by_cases e:a=b
 .subst e
  rw[decide_eq_true rfl]
  cases k
  .have h:∀n:Int,(Lit.int .i64 n).sameKey (.int .i64 n)=true:=fun n=>by simp[Lit.sameKey]
   exact h a
  exact beq_self_eq_true _
 rw[decide_eq_false e]
 exact Bool.eq_false_iff.2 fun q=>e (DJ k (WideAt.sameKey_eq q))
def zU:Kc->Value->Option Lit
 | .int,.int q n=>if q= .i64/\(Lit.int .i64 n).wf=true then some (.int .i64 n) else none
 | .str,.string s=>if s.size<=maxLen then some (.string s.data.toList) else none
 |_,_=>none
section
variable {P P':Program}{kt Dv et t:TypeId}{k:Kc}
theorem qK (h:P.underlying kt=some (iz k)):keyOf P kt=zU k:=by
 funext v
 cases k
 .have h:P.underlying kt=some (.int .i64):=h
  cases v<;>simp[keyOf,mapKey,h,zU]
 have h:P.underlying kt=some .string:=h
 cases v<;>simp[keyOf,mapKey,h,zU]
theorem oa (h:P.underlying kt=some (iz k)):Maps.Keyed P kt:=by
 cases k
 .exact Maps.int_keyed h
 exact Maps.string_keyed h
theorem ob (h:P.underlying kt=some (iz k)){x:bL k}(hw:cA k x):keyOf P kt (fP k x)=some (cN k x):=by
 rw[qK h]
 cases k
 .have h:∀n:Int,wfI n->zU .int (.int .i64 n)=some (.int .i64 n):=fun n hn=>by unfold zU;exact if_pos ⟨rfl,Yj hn⟩
  exact h x hw
 have h:∀s:ByteArray,s.size<=maxLen->zU .str (.string s)=some (.string s.data.toList):=fun n hn=>by unfold zU;exact if_pos hn
 exact h x hw
theorem Mh {v:Value}{l:Lit}(h:zU k v=some l):∃x:bL k,v=fP k x/\l=cN k x/\cA k x:=by
 cases k
 .have key:∀v:Value,zU .int v=some l->∃n:Int,v= .int .i64 n/\l= .int .i64 n/\wfI n:=by
   intro v h
   cases v with
   |int q n=>
    have h:(if q= .i64/\(Lit.int .i64 n).wf=true then some (Lit.int .i64 n) else none)=some l:=h
    split at h
    .rename_i hq
     cases h;obtain⟨rfl,hw⟩:=hq
     refine⟨n,rfl,rfl,?_⟩
     have hw:(decide (IntKind.min .i64<=n) && decide (n<=IntKind.max .i64))=true:=hw
     simp only[Bool.and_eq_true,decide_eq_true_eq] at hw
     have h1:IntKind.min .i64= -9223372036854775808:=by decide
     have h2:IntKind.max .i64=9223372036854775807:=by decide
     rw[h1,h2] at hw
     exact hw
    cases h
   |_=>cases h
  exact key v h
 have key:∀v:Value,zU .str v=some l->∃s:ByteArray,v= .string s/\l= .string s.data.toList/\s.size<=maxLen:=by
  intro v h
  cases v with
  |string s=>
   have h:(if s.size<=maxLen then some (Lit.string s.data.toList) else none)=some l:=h
   split at h
   .rename_i hq;cases h;exact⟨s,rfl,rfl,hq⟩
   cases h
  |_=>cases h
 exact key v h
end
section
variable {k:Kc}{α β:Type}
def aG (l:List (bL k×α))(x:bL k):Option α:=(l.find? fun p=>decide (p.1=x)).map (·.2)
def lU (l:List (bL k×α))(x:bL k):List (bL k×α):=l.filter fun p=>!decide (p.1=x)
def lV (p:bL k×α):List (bL k×α)->List (bL k×α)
 |[]=>[p]
 |y::r=>if Yk k p.1 y.1 then p::y::r else y::lV p r
def gD (l:List (bL k×α))(x:bL k)(v:α):List (bL k×α):=lV (x,v) (lU l x)
def lW (l:List (bL k×Value)):DataW Value:=.map (l.map fun p=>(cN k p.1,.held p.2))
theorem DK (p:bL k×Value):∀l:List (bL k×Value),(lV p l).map (fun p=>(cN k p.1,DataW.held p.2))=DataW.insert (cN k p.1,.held p.2) (l.map fun p=>(cN k p.1,DataW.held p.2))
 |[]=>rfl
 |y::r=>by
  simp only[lV,List.map_cons,DataW.insert,Mg]
  split
  .rfl
  rw[List.map_cons,DK p r]
theorem Ih (l:List (bL k×Value))(x:bL k):(lW l).del (cN k x)=lW (lU l x):=by
 unfold lW DataW.del lU
 simp only[List.filter_map]
 congr 2
 refine List.filter_congr fun p _=>?_
 simp only[Function.comp_apply,qJ]
theorem Rg (l:List (bL k×Value))(x:bL k)(v:Value):(lW l).put (cN k x) (.held v)=lW (gD l x v):=by
 have h:(lW l).put (cN k x) (.held v)= .map (DataW.insert (cN k x,.held v) ((l.map fun p=>(cN k p.1,DataW.held p.2)).filter fun p=>!p.1.sameKey (cN k x))):=rfl
 have h2:(lW l).del (cN k x)= .map ((l.map fun p=>(cN k p.1,DataW.held p.2)).filter fun p=>!p.1.sameKey (cN k x)):=rfl
 rw[Ih] at h2
 have h3:=DataW.map.inj h2
 rw[h,<-h3]
 exact congrArg DataW.map (DK (x,v) (lU l x)).symm
theorem Gb (l:List (bL k×Value))(x:bL k)(z:DataW Value):(lW l).atKey (cN k x) z=match aG l x with|some v=>.held v|none=>z:=by
 unfold lW aG DataW.atKey
 simp only[List.find?_map]
 have:((fun p:Lit×DataW Value=>p.1.sameKey (cN k x))∘fun p:bL k×Value=>(cN k p.1,DataW.held p.2))=fun p=>decide (p.1=x):=by
  funext p;exact qJ k _ _
 rw[this]
 cases l.find? fun p=>decide (p.1=x)<;>rfl
theorem Ii (l:List (bL k×Value))(x:bL k):Maps.has (lW l) (cN k x)=(aG l x).isSome:=by
 unfold lW aG Maps.has
 simp only[List.any_map,Option.isSome_map,List.find?_isSome]
 rw[Bool.eq_iff_iff]
 simp[qJ]
theorem DL (p:bL k×α):∀l:List (bL k×α),(lV p l).length=l.length+1
 |[]=>rfl
 |y::r=>by unfold lV;split<;>simp[DL p r]
theorem Mi (l:List (bL k×α))(x:bL k)(v:α):(gD l x v).length<=l.length+1:=by
 unfold gD lU;rw[DL];exact Nat.succ_le_succ (List.length_filter_le _ _)
theorem Mj (l:List (bL k×α))(x:bL k):(lU l x).length<=l.length:=List.length_filter_le _ _
theorem DM (f:α->β)(p:bL k×α):∀l:List (bL k×α),(lV p l).map (fun q=>(q.1,f q.2))=lV (p.1,f p.2) (l.map fun q=>(q.1,f q.2))
 |[]=>rfl
 |y::r=>by
  simp only[lV,List.map_cons];split;· rfl
  .rw[List.map_cons,DM f p r]
theorem xF (f:α->β)(l:List (bL k×α))(x:bL k):(lU l x).map (fun q=>(q.1,f q.2))=lU (l.map fun q=>(q.1,f q.2)) x:=by
 unfold lU;rw[List.filter_map];rfl
theorem jQ (f:α->β)(l:List (bL k×α))(x:bL k)(v:α):(gD l x v).map (fun q=>(q.1,f q.2))=gD (l.map fun q=>(q.1,f q.2)) x (f v):=by
 unfold gD;rw[DM,xF]
theorem e7 (f:α->β)(l:List (bL k×α))(x:bL k):aG (l.map fun q=>(q.1,f q.2)) x=(aG l x).map f:=by
 unfold aG;rw[List.find?_map]
 show Option.map _ (Option.map _ (l.find? fun p=>decide (p.1=x)))=_
 cases l.find? fun p=>decide (p.1=x)<;>rfl
theorem xG {p q:bL k×α}:∀ {l:List (bL k×α)},q∈lV p l↔q=p\/q∈l
 |[]=>by simp[lV]
 |y::r=>by
  unfold lV;split
  .simp
  simp only[List.mem_cons,xG (l:=r)]
  constructor
  .rintro(h|h|h)
   .exact .inr (.inl h)
   .exact .inl h
   exact .inr (.inr h)
  rintro(h|h|h)
  .exact .inr (.inl h)
  .exact .inl h
  exact .inr (.inr h)
theorem pS {l:List (bL k×α)}{x:bL k}{v:α}{q:bL k×α}:q∈gD l x v↔q=(x,v)\/q∈l/\q.1≠x:=by
 unfold gD lU;rw[xG];simp
theorem jA {l:List (bL k×α)}{x:bL k}{v:α}(h:aG l x=some v):(x,v)∈l:=by
 unfold aG at h
 obtain⟨p,h1,h2⟩:=Option.map_eq_some_iff.1 h
 have:=List.find?_some h1
 have e:p.1=x:=by simpa using this
 subst e;subst h2
 exact List.mem_of_find?_eq_some h1
theorem sn {l:List (bL k×α)}{x:bL k}:aG l x=none↔∀v,(x,v)∉l:=by
 unfold aG
 rw[Option.map_eq_none_iff,List.find?_eq_none]
 constructor
 .intro h v hm;have:=h _ hm;simp at this
 intro h p hp q;have e:p.1=x:=by simpa using q
 exact h p.2 (by rw[<-e];exact hp)
theorem AA (p:bL k×α)(x:bL k):∀l:List (bL k×α),(∀q∈l,q.1≠p.1)->aG (lV p l) x=if p.1=x then some p.2 else aG l x
 |[],_=>by unfold aG lV;by_cases e:p.1=x<;>simp[e]
 |y::r,h=>by
  have ih:=AA p x r fun q hq=>h q (List.mem_cons_of_mem _ hq)
  unfold lV
  split
  .unfold aG
   by_cases e:p.1=x
   .simp[e]
   simp[List.find?_cons,e]
  by_cases e2:y.1=x
  .have cO:p.1≠x:=fun e=>h y (by simp) (e2.trans e.symm)
   rw[if_neg cO]
   unfold aG;simp[List.find?_cons,e2]
  have s1:aG (y::lV p r) x=aG (lV p r) x:=by unfold aG;simp[List.find?_cons,e2]
  have s2:aG (y::r) x=aG r x:=by unfold aG;simp[List.find?_cons,e2]
  rw[s1,s2,ih]
theorem AB (l:List (bL k×α))(y x:bL k):aG (lU l y) x=if y=x then none else aG l x:=by
 by_cases e:y=x
 .rw[if_pos e,sn]
  intro v hm
  unfold lU at hm
  have:=(List.mem_filter.1 hm).2
  simp[e] at this
 rw[if_neg e]
 unfold aG lU
 rw[List.find?_filter]
 congr 2
 funext p
 by_cases q:p.1=x
 .have:¬x=y:=fun h=>e h.symm
  simp[q,this]
 simp[q]
theorem AD (l:List (bL k×α))(y x:bL k)(v:α):aG (gD l y v) x=if y=x then some v else aG l x:=by
 unfold gD
 rw[AA _ _ _ (fun q hq=>by have:=(List.mem_filter.1 hq).2;simpa using this),AB]
 by_cases e:y=x
 .rw[if_pos e,if_pos e]
 rw[if_neg e,if_neg e,if_neg e]
end
def de (k:Kc)(w:World)(b:Nat)(l:List (bL k×Value)):Prop:=∃P kt,P.underlying kt=some (iz k)/\w.ownsMap P kt Rv b l.length (lW l)
section
variable {P P':Program}{kt Dv et t:TypeId}{k:Kc}{w w':World}{b n:Nat}{l:List (bL k×Value)}
theorem Ka (h:keyOf P kt=keyOf P' Dv){D:DataW Value}(ho:w.ownsMap P kt Rv b n D):w.ownsMap P' Dv Rv b n D:=by
 obtain⟨es,clock,hb,F,hs,hD⟩:=ho
 have gF:WideElems.rd P kt Rv=WideElems.rd P' Dv Rv:=by
  funext x;unfold WideElems.rd;rw[h]
 have Yl:WideElems.rg P kt Rv=WideElems.rg P' Dv Rv:=by
  funext x;unfold WideElems.rg;rw[gF]
 exact⟨es,clock,hb,⟨F.size,F.stamped,by rw[<-gF];exact F.reads⟩,hs,by rw[<-Yl];exact hD⟩
theorem Mk {D:DataW Value}(ho:w.ownsMap P kt Rv b n D):w.ownsMap P kt Rv b (Maps.size D) D:=by
 obtain⟨es,clock,hb,F,hs,rfl⟩:=ho
 exact⟨es,clock,hb,F,by simp[Maps.size,length_sorted],rfl⟩
theorem de.to (h:de k w b l)(hu:P.underlying kt=some (iz k)):w.ownsMap P kt Rv b l.length (lW l):=by
 obtain⟨P',Dv,FX,ho⟩:=h
 exact Ka ((qK FX).trans (qK hu).symm) ho
theorem de.mk (hu:P.underlying kt=some (iz k))(ho:w.ownsMap P kt Rv b n (lW l)):de k w b l:=by
 have:=Mk ho
 have e:Maps.size (lW l)=l.length:=by simp[Maps.size,lW]
 rw[e] at this
 exact⟨P,kt,hu,this⟩
theorem de.keep (h:de k w b l)(hb:w'.heap[b]?=w.heap[b]?):de k w' b l:=by
 obtain⟨P,kt,hu,es,clock,mX,r⟩:=h
 exact⟨P,kt,hu,es,clock,hb.trans mX,r⟩
theorem de.lt (h:de k w b l):b<w.heap.size:=by obtain⟨P,kt,hu,ho⟩:=h;exact ho.lt
theorem de.new (w:World)(hu:P.underlying kt=some (iz k)):de k (w.alloc (.map #[] 0)) w.heap.size []:=de.mk hu (World.ownsMap_made (H:=Value) w P kt Rv)
theorem de.look (h:de k w b l)(ht:P.underlying t=some (.map kt et))(hu:P.underlying kt=some (iz k)){z:Value}(hz:(zeroValue et).run P w= .ok z w){x:bL k}(hx:cA k x):
  (Instr.lookup t (.map (some b)) (fP k x) false).run P w= .ok ((aG l x).getD z) w:=by
 obtain⟨v,ps,bY,hv⟩:=(h.to hu).lookup (oa hu) ht hz (zd:=.held z) (zp:=[]) rfl (ob hu hx)
 rw[Gb] at hv
 rw[bY]
 cases hl:aG l x with
 |none=>rw[hl] at hv;simp only[Rv,Option.some.injEq,Prod.mk.injEq,DataW.held.injEq] at hv;rw[hv.1];rfl
 |some u=>rw[hl] at hv;simp only[Rv,Option.some.injEq,Prod.mk.injEq,DataW.held.injEq] at hv;rw[hv.1];rfl
theorem de.AE (h:de k w b l)(ht:P.underlying t=some (.map kt et))(hu:P.underlying kt=some (iz k)){z:Value}(hz:(zeroValue et).run P w= .ok z w){x:bL k}(hx:cA k x):
  (Instr.lookup t (.map (some b)) (fP k x) true).run P w= .ok (.tuple #[(aG l x).getD z,.bool (aG l x).isSome]) w:=by
 obtain⟨v,ps,bY,hv⟩:=(h.to hu).look_ok (oa hu) ht hz (zd:=.held z) (zp:=[]) rfl (ob hu hx)
 rw[Gb] at hv
 rw[bY,Ii]
 cases hl:aG l x with
 |none=>rw[hl] at hv;simp only[Rv,Option.some.injEq,Prod.mk.injEq,DataW.held.injEq] at hv;rw[hv.1];rfl
 |some u=>rw[hl] at hv;simp only[Rv,Option.some.injEq,Prod.mk.injEq,DataW.held.injEq] at hv;rw[hv.1];rfl
theorem de.put (h:de k w b l)(ht:P.underlying t=some (.map kt et))(hu:P.underlying kt=some (iz k))(hl:l.length<=2147483647){x:bL k}(hx:cA k x)(v:Value):
  ∃w',(Instr.mapUpdate t (.map (some b)) (fP k x) v).run P w= .ok () w'/\de k w' b (gD l x v)/\w.grownBy w' (some b)/\w'.heap.size=w.heap.size:=by
 obtain⟨w',bY,ho,hG⟩:=(h.to hu).store (oa hu) ht (by simp only[maxLen];omega) (ob hu hx) (val:=v) (d:=.held v) (ps:=[]) rfl
 rw[Rg] at ho
 refine⟨w',bY,de.mk hu ho,hG.grown,?_⟩
 obtain⟨_,_,_,_,_,rfl⟩:=hG
 simp[ChangeMaps.setBlock]
theorem de.drop (h:de k w b l)(ht:P.underlying t=some (.map kt et))(hu:P.underlying kt=some (iz k)){x:bL k}(hx:cA k x)(ty:TypeId):
  ∃w',(Builtin.delete_ #[t,kt] ty #[.map (some b),fP k x]).run P w= .ok (.tuple #[]) w'/\de k w' b (lU l x)/\w.grownBy w' (some b):=by
 obtain⟨w',bY,ho,hG⟩:=(h.to hu).drop (oa hu) ht (ob hu hx) ty
 rw[Ih] at ho
 exact⟨w',bY,de.mk hu ho,hG.grown⟩
theorem de.len (h:de k w b l)(ht:P.underlying t=some (.map kt et))(hu:P.underlying kt=some (iz k))(ty:TypeId):(Builtin.len_ #[t] ty #[.map (some b)]).run P w= .ok (.int .i64 (l.length:Int)) w:=by
 have:=(h.to hu).len ht ty
 have e:Maps.size (lW l)=l.length:=by simp[Maps.size,lW]
 rw[e] at this;exact this
end
section
variable {α:Type}
def af (m:List (Int×α))(x:Int):Option α:=aG (k:=.int) m x
def b9 (m:List (Int×α))(x:Int)(v:α):List (Int×α):=gD (k:=.int) m x v
def xJ (m:List (Int×α))(x:Int):List (Int×α):=lU (k:=.int) m x
theorem bK (m:List (Int×α))(y x:Int)(v:α):af (b9 m y v) x=if y=x then some v else af m x:=AD (k:=.int) m y x v
theorem xK (m:List (Int×α))(y x:Int):af (xJ m y) x=if y=x then none else af m x:=AB (k:=.int) m y x
theorem cQ (m:List (Int×α))(x:Int)(v:α):(b9 m x v).length<=m.length+1:=Mi (k:=.int) m x v
theorem mZ {m:List (Int×α)}{x:Int}:af m x=none↔∀v,(x,v)∉m:=sn (k:=.int)
theorem mw {m:List (Int×α)}{x:Int}{v:α}(h:af m x=some v):(x,v)∈m:=jA (k:=.int) h
theorem Ij {m:List (Int×α)}{x:Int}{v:α}{q:Int×α}:q∈b9 m x v↔q=(x,v)\/q∈m/\q.1≠x:=pS (k:=.int)
theorem uF {k:Kc}(p:bL k×α):∀l:List (bL k×α),(lV p l).Perm (p::l)
 |[]=>List.Perm.refl _
 |y::r=>by
  unfold lV;split
  .exact List.Perm.refl _
  exact(List.Perm.cons y (uF p r)).trans (List.Perm.swap p y r)
theorem Kb {k:Kc}{l:List (bL k×α)}{x:bL k}(h:aG l x=none):lU l x=l:=by
 unfold lU
 rw[List.filter_eq_self]
 intro p hp
 have:=sn.1 h p.2
 by_cases e:p.1=x
 .exact(this (by rw[<-e];exact hp)).elim
 simp[e]
theorem Ke {k:Kc}{l:List (bL k×α)}{x:bL k}{v:α}(h:aG l x=none):(gD l x v).Perm ((x,v)::l):=by
 unfold gD;rw[Kb h];exact uF _ _
theorem DN {m:List (Int×α)}{x:Int}{v:α}(h:af m x=none):(b9 m x v).Perm ((x,v)::m):=Ke (k:=.int) h
end
theorem Kf {P P':Program}{r b since c0 clock:Nat}{seen:Array Nat}{es:Array MapEntry}{w w':World}{v:Value}(h:(Instr.entry (.pointer (some ⟨r,0,none⟩))).run P w= .ok v w)
  (hb:w.heap[b]?=some (.map es clock)) (hr:w.heap[r]?=some (.mapIter (some b) since seen c0)) (mX:w'.heap[b]?=w.heap[b]?) (wB:w'.heap[r]?=w.heap[r]?):(Instr.entry (.pointer (some ⟨r,0,none⟩))).run P' w'= .ok v w':=by
 rw[hb] at mX;rw[hr] at wB
 simp only[Instr.entry,getObj,Sem.run_bind,Sem.run,hr,hb,Result.andThen] at h
 simp only[Instr.entry,getObj,Sem.run_bind,Sem.run,wB,mX,Result.andThen]
 revert h
 generalize seen.back?=bk
 cases bk with
 |none=>intro h;simp[Sem.run] at h
 |some q=>
  intro h
  simp only[Sem.run_bind,Sem.run,hb,Result.andThen] at h
  simp only[Sem.run_bind,Sem.run,mX,Result.andThen]
  revert h
  cases hq:(clock !=c0) with
  |true=>intro h;simp[Sem.run,Sem.run_bind,unsupported,Result.andThen] at h
  |false=>
   simp only[Bool.false_eq_true,if_false]
   cases hf:es.find? (fun x=>x.born==q) with
   |none=>intro h;simp[Sem.run,unsupported] at h
   |some e=>intro h;simp only[Sem.run_pure] at h ⊢;cases h;rfl
def j5 (k:Kc)(w:World)(mb r:Nat)(l:List (bL k×Value))(lf:bL k->Bool)(cnt:Nat)(cur:Option (bL k×Value)):Prop:=
 (∃P kt left,P.underlying kt=some (iz k)/\w.ranges P kt Rv mb r l.length (lW l) left cnt/\∀x,left (cN k x)=lf x)/\
 ∀x v,cur=some (x,v)->∀(P:Program) (w':World),w'.heap[mb]?=w.heap[mb]?->w'.heap[r]?=w.heap[r]?->(Instr.entry (.pointer (some ⟨r,0,none⟩))).run P w'= .ok (.tuple #[fP k x,v]) w'
section
variable {P P':Program}{kt Dv et t:TypeId}{k:Kc}{w w':World}{mb r n cnt:Nat}{l:List (bL k×Value)}{lf:bL k->Bool}{cur:Option (bL k×Value)}
theorem j5.keep (h:j5 k w mb r l lf cnt cur)(hb:w'.heap[mb]?=w.heap[mb]?)(hr:w'.heap[r]?=w.heap[r]?):j5 k w' mb r l lf cnt cur:=by
 obtain⟨⟨P,kt,left,hu,⟨es,clock,since,seen,c0,h1,F,hs,hD,h2,rest⟩,hl⟩,hc⟩:=h
 exact⟨⟨P,kt,left,hu,⟨es,clock,since,seen,c0,hb.trans h1,F,hs,hD,hr.trans h2,rest⟩,hl⟩,fun x v e P w'' h3 h4=>hc x v e P w'' (h3.trans hb) (h4.trans hr)⟩
theorem j5.lt (h:j5 k w mb r l lf cnt cur):r<w.heap.size:=by obtain⟨⟨P,kt,left,hu,h,_⟩,_⟩:=h;exact h.lt
theorem j5.ne (h:j5 k w mb r l lf cnt cur):r≠mb:=by obtain⟨⟨P,kt,left,hu,h,_⟩,_⟩:=h;exact h.ne
theorem de.range (h:de k w mb l)(ht:P.underlying t=some (.map kt et))(hu:P.underlying kt=some (iz k)):
  ∃w',(Instr.range t (.map (some mb))).run P w= .ok (.pointer (some ⟨w.heap.size,0,none⟩)) w'/\j5 k w' mb w.heap.size l (fun x=>(aG l x).isSome) l.length none/\w.grownBy w' none/\w'.heap.size=w.heap.size+1:=by
 obtain⟨w',h1,h2,h3,h4⟩:=(h.to hu).range (oa hu) ht
 have e:Maps.size (lW l)=l.length:=by simp[Maps.size,lW]
 rw[e] at h2
 exact⟨w',h1,⟨⟨P,kt,_,hu,h2,fun x=>Ii l x⟩,fun _ _ q=>by cases q⟩,h3,h4⟩
theorem DO (h:keyOf P kt=keyOf P' Dv){D:DataW Value}{left:Lit->Bool}(ho:w.ranges P kt Rv mb r n D left cnt):w.ranges P' Dv Rv mb r n D left cnt:=by
 have gF:WideElems.rd P kt Rv=WideElems.rd P' Dv Rv:=by
  funext x;unfold WideElems.rd;rw[h]
 have Yl:WideElems.rg P kt Rv=WideElems.rg P' Dv Rv:=by
  funext x;unfold WideElems.rg;rw[gF]
 obtain⟨es,clock,since,seen,c0,hb,F,hs,hD,h1,h2,h3,h4,h5,h6⟩:=ho
 exact⟨es,clock,since,seen,c0,hb,⟨F.size,F.stamped,by rw[<-gF];exact F.reads⟩,hs,by rw[<-Yl];exact hD,h1,h2,h3,by rw[<-Yl];exact h4,by rw[<-Yl];exact h5,h6⟩
theorem j5.next (h:j5 k w mb r l lf cnt cur)(hu:P.underlying kt=some (iz k))(ty:TypeId):
  ((∀x,lf x=false)/\(Instr.next (.pointer (some ⟨r,0,none⟩)) false ty).run P w= .ok (.tuple #[.bool false]) w)\/
  ∃x v w' jR,lf x=true/\cA k x/\aG l x=some v/\jR<cnt/\(Instr.next (.pointer (some ⟨r,0,none⟩)) false ty).run P w= .ok (.tuple #[.bool true,fP k x,v]) w'/\
   j5 k w' mb r l (fun z=>lf z && !decide (z=x)) jR (some (x,v))/\w.grownBy w' (some r)/\w'.heap.size=w.heap.size:=by
 obtain⟨⟨P',Dv,left,FX,Kg,hl⟩,_⟩:=h
 have hR:w.ranges P kt Rv mb r l.length (lW l) left cnt:=DO ((qK FX).trans (qK hu).symm) Kg
 have cO:=hR.ne
 rcases hR.next (oa hu) ty with⟨_,h2,h3⟩|⟨key,v,kl,y,w',jR,h1,h2,h3,h4,h5,h6,h7,h8,h9,h10⟩
 .exact .inl ⟨fun x=>by rw[<-hl];exact h2 _,h3⟩
 rw[qK hu] at h1
 obtain⟨x,rfl,rfl,hw⟩:=Mh h1
 simp only[Rv,Option.some.injEq] at h3
 subst h3
 have zV:aG l x=some v:=by
  have a:=h4 (.held (.bool false))
  have b:=h4 (.held (.bool true))
  rw[Gb] at a b
  cases hq:aG l x with
  |none=>
   rw[hq] at a b
   have a:DataW.held (Value.bool false)= .held v:=a
   have b:DataW.held (Value.bool true)= .held v:=b
   rw[<-b] at a;cases a
  |some u=>rw[hq] at a;have a:DataW.held u= .held v:=a;cases a;rfl
 obtain⟨es,clock,since,seen,c0,e1,F,hs,hD,e2,e3⟩:=h6
 refine .inr ⟨x,v,w',jR,by rw[<-hl];exact h2,hw,zV,h7,h5,⟨⟨P,kt,fun q=>left q && !q.sameKey (cN k x),hu,⟨es,clock,since,seen,c0,e1,F,hs,hD,e2,e3⟩,fun z=>?_⟩,fun x' v' q P2 w2 q1 q2=>?_⟩,h8,h9⟩
 .show(left (cN k z) && !(cN k z).sameKey (cN k x))=_
  rw[hl,qJ]
 cases q
 exact Kf h10 e1 e2 q1 q2
theorem AF (ht:P.underlying t=some (.map kt et)):(Instr.range t (.map none)).run P w= .ok (.pointer (some ⟨w.heap.size,0,none⟩)) (w.alloc (.mapIter none 0 #[] 0)):=by
 simp[Instr.range,run_underlying ht,newObj,Result.andThen,Sem.run,Sem.run_bind,Sem.run_pure]
theorem Ml {since c0:Nat}{seen:Array Nat}(hr:w.heap[r]?=some (.mapIter none since seen c0))(ty:TypeId):(Instr.next (.pointer (some ⟨r,0,none⟩)) false ty).run P w= .ok (.tuple #[.bool false]) w:=by
 simp[Instr.next,getObj,Sem.run_bind,Sem.run,hr,Result.andThen]
end
end Go.Proofs.YtnfdimfepbbbpaaGreat
namespace Go.Proofs.YtnfdimfepbbbpaaGreat
open Go.RowKit Maps ChangeMaps WideElems
def Kh (k:Kc)(w:World)(b:Nat)(x:bL k)(st:Int):Prop:=∃(es:Array MapEntry) (clock j:Nat) (e:MapEntry),w.heap[b]?=some (.map es clock)/\es[j]?=some e/\e.key=fP k x/\(e.born:Int)=st
theorem Kh.keep {k:Kc}{w w':World}{b:Nat}{x:bL k}{st:Int}(h:Kh k w b x st)(hb:w'.heap[b]?=w.heap[b]?):Kh k w' b x st:=let⟨es,c,j,e,h1,h2⟩:=h;⟨es,c,j,e,hb.trans h1,h2⟩
section
variable {P:Program}{kt et t:TypeId}{k:Kc}{w w':World}{b:Nat}{l:List (bL k×Value)}
theorem td {es:Array MapEntry}{clock:Nat}{o:Obj}(hb:w.heap[b]?=some (.map es clock)):(ChangeMaps.setBlock w b o).heap[b]?=some o:=by
 have iL:=(Array.getElem?_eq_some_iff.1 hb).1
 show(w.heap.setIfInBounds b o)[b]?=_
 rw[Array.getElem?_setIfInBounds,if_pos rfl,if_pos iL]
theorem de.entry (h:de k w b l)(ht:P.underlying t=some (.map kt et))(hu:P.underlying kt=some (iz k))(hl:l.length<=2147483647){z:Value}(hz:(zeroValue et).run P w= .ok z w){x:bL k}(hx:cA k x):
  ∃(st:Int) (w':World),(Instr.mapEntry t (.map (some b)) (fP k x)).run P w= .ok (.tuple #[(aG l x).getD z,.int .i64 st]) w'/\de k w' b (gD l x ((aG l x).getD z))/\Kh k w' b x st/\w.grownBy w' (some b)/\w'.heap.size=w.heap.size:=by
 have Ik:=h.look ht hu hz hx
 obtain⟨w',bY,ho,hG,dc⟩:=h.put ht hu hl hx ((aG l x).getD z)
 have lZ:=ob hu hx
 have K:=oa hu
 obtain⟨es,clock,hb,F,hs,hD⟩:=h.to hu
 generalize hv0:(aG l x).getD z=v0 at*
 rcases K.find w lZ es.toList F.keys with⟨h1,h2⟩|⟨j,e0,h1,h2,h3⟩
 .have hz0:z=v0:=by
   have:(Instr.lookup t (.map (some b)) (fP k x) false).run P w= .ok z w:=by
    simp[Instr.lookup,run_underlying ht,MapKept.run_getObj_map hb,K.check w _ lZ,h1,hz,Result.andThen]
   rw[Ik] at this
   injection this with this
   exact this.symm
  subst hz0
  have hr:(Instr.mapUpdate t (.map (some b)) (fP k x) z).run P w= .ok () (ChangeMaps.setBlock w b (.map (es.push ⟨fP k x,z,clock⟩) (clock+1))):=by
   simp[Instr.mapUpdate,run_underlying ht,MapKept.run_getObj_map hb,K.check w false lZ,h1,MapKept.run_setObj_map _ hb,Result.andThen,ChangeMaps.setBlock]
  have he:w'=ChangeMaps.setBlock w b (.map (es.push ⟨fP k x,z,clock⟩) (clock+1)):=by
   rw[bY] at hr;injection hr
  refine⟨(clock:Int),w',?_,ho,⟨_,_,es.size,⟨fP k x,z,clock⟩,by rw[he];exact td hb,by simp,rfl,rfl⟩,hG,dc⟩
  rw[he]
  simp[Instr.mapEntry,run_underlying ht,MapKept.run_getObj_map hb,K.check w false lZ,h1,hz,MapKept.run_setObj_map _ hb,Result.andThen,ChangeMaps.setBlock,goInt]
 have hj:es[j]?=some e0:=by simpa using h2
 have hv:e0.val=v0:=by
  have:(Instr.lookup t (.map (some b)) (fP k x) false).run P w= .ok e0.val w:=by
   simp[Instr.lookup,run_underlying ht,MapKept.run_getObj_map hb,K.check w _ lZ,h1,hz,Result.andThen]
  rw[Ik] at this
  injection this with this
  exact this.symm
 subst hv
 have hm:(es.modify j fun e=>{e with key:=fP k x})=es.modify j fun e=>{e with key:=fP k x,val:=e0.val}:=by
  apply Array.ext'
  rw[Array.toList_modify,Array.toList_modify,modify_eq_set _ _ _ _ h2,modify_eq_set _ _ _ _ h2]
 have hr:(Instr.mapUpdate t (.map (some b)) (fP k x) e0.val).run P w= .ok () (ChangeMaps.setBlock w b (.map (es.modify j fun e=>{e with key:=fP k x,val:=e0.val}) clock)):=by
  simp[Instr.mapUpdate,run_underlying ht,MapKept.run_getObj_map hb,K.check w false lZ,h1,hj,h3,K.stays w lZ,MapKept.run_setObj_map _ hb,Result.andThen,ChangeMaps.setBlock]
 have he:w'=ChangeMaps.setBlock w b (.map (es.modify j fun e=>{e with key:=fP k x,val:=e0.val}) clock):=by
  rw[bY] at hr;injection hr
 refine⟨(e0.born:Int),w',?_,ho,⟨_,_,j,{e0 with key:=fP k x,val:=e0.val},by rw[he];exact td hb,by rw[Array.getElem?_modify,if_pos rfl,hj];rfl,rfl,rfl⟩,hG,dc⟩
 rw[he,<-hm]
 simp[Instr.mapEntry,run_underlying ht,MapKept.run_getObj_map hb,K.check w false lZ,h1,hj,h3,K.stays w lZ,MapKept.run_setObj_map _ hb,Result.andThen,ChangeMaps.setBlock,goInt]
theorem DP {α β:Type}{f:α->β}{l:List α}(h:(l.map f).Nodup){i j:Nat}{a c:α}(hi:l[i]?=some a)(hj:l[j]?=some c)(e:f a=f c):i=j:=by
 have h1:(l.map f)[i]?=some (f a):=by rw[List.getElem?_map,hi];rfl
 have h2:(l.map f)[j]?=some (f a):=by rw[List.getElem?_map,hj,e];rfl
 have hil:=(List.getElem?_eq_some_iff.1 h1).1
 exact(List.getElem?_inj hil h).1 (h1.trans h2.symm)
theorem de.entryStore (h:de k w b l)(ht:P.underlying t=some (.map kt et))(hu:P.underlying kt=some (iz k))(hl:l.length<=2147483647){x:bL k}(hx:cA k x){st:Int}(uB:Kh k w b x st)(v:Value):
  ∃w',(Instr.entryStore t (.map (some b)) (.int .i64 st) v).run P w= .ok () w'/\de k w' b (gD l x v)/\w.grownBy w' (some b)/\w'.heap.size=w.heap.size:=by
 obtain⟨w',bY,ho,hG,dc⟩:=h.put ht hu hl hx v
 have lZ:=ob hu hx
 have K:=oa hu
 obtain⟨es,clock,hb,F,hs,hD⟩:=h.to hu
 obtain⟨Vc,aaJ,j,e,mX,hj,hek,heb⟩:=uB
 rw[hb] at mX
 cases mX
 have LI:es.toList[j]?=some e:=by simpa using hj
 rcases K.find w lZ es.toList F.keys with⟨h1,h2⟩|⟨i,e0,h1,h2,h3⟩
 .exact(h2 e (List.mem_of_getElem? LI) hek).elim
 have wD:i=j:=DP F.stamped.2.2 h2 LI (h3.trans hek.symm)
 subst wD
 rw[LI] at h2
 cases h2
 have hfi:es.findIdx? (fun e=>(e.born:Int)==st)=some i:=by
  rw[Array.findIdx?_eq_some_iff_getElem]
  have iL:i<es.size:=(Array.getElem?_eq_some_iff.1 hj).1
  have kG:es[i]=e:=(Array.getElem?_eq_some_iff.1 hj).2
  refine⟨iL,by rw[kG];simp[heb],fun q hq hp=>?_⟩
  have hp:((es[q].born:Int))=st:=by simpa using hp
  have Mm:es[q].born=e.born:=by
   have:(es[q].born:Int)=(e.born:Int):=hp.trans heb.symm
   omega
  have:q=i:=DP (f:=MapEntry.born) F.stamped.2.1 (l:=es.toList) (i:=q) (j:=i) (a:=es[q]) (c:=e) (by simp) LI Mm
  omega
 have hm:(es.modify i fun e=>{e with val:=v})=es.modify i fun e=>{e with key:=fP k x,val:=v}:=by
  apply Array.ext'
  rw[Array.toList_modify,Array.toList_modify,modify_eq_set _ _ _ _ LI,modify_eq_set _ _ _ _ LI,hek]
 have hr:(Instr.mapUpdate t (.map (some b)) (fP k x) v).run P w= .ok () (ChangeMaps.setBlock w b (.map (es.modify i fun e=>{e with key:=fP k x,val:=v}) clock)):=by
  simp[Instr.mapUpdate,run_underlying ht,MapKept.run_getObj_map hb,K.check w false lZ,h1,hj,hek,K.stays w lZ,MapKept.run_setObj_map _ hb,Result.andThen,ChangeMaps.setBlock]
 have he:w'=ChangeMaps.setBlock w b (.map (es.modify i fun e=>{e with key:=fP k x,val:=v}) clock):=by
  rw[bY] at hr;injection hr
 refine⟨w',?_,ho,hG,dc⟩
 rw[he,<-hm]
 simp[Instr.entryStore,MapKept.run_getObj_map hb,asInt,asIntOf,hfi,MapKept.run_setObj_map _ hb,Result.andThen,ChangeMaps.setBlock]
end
def bh (k:Kc)(α:Type):Type:=List (bL k×α)
def mz {k:Kc}{α:Type}[Data α](S:aL)(w:World)(b:Nat)(m:bh k α):Prop:=
 ∃zs:List (bL k×(Value×α)),de k w b (zs.map fun q=>(q.1,q.2.1))/\m=zs.map (fun q=>(q.1,q.2.2))/\∀z∈zs,Rd S w z.2.1 z.2.2
def Mn {k:Kc}{α:Type}[Data α](S:aL)(w:World)(v:Value)(m:bh k α):Prop:=∃x,v= .map x/\match x with
 |none=>m=([]:List (bL k×α))
 |some b=>S b/\mz S w b m
theorem mz.keep {k:Kc}{α:Type}[Data α]{S:aL}{w w':World}{b:Nat}{m:bh k α}(h:mz S w b m)(hk:cK S w w')(hb:w'.heap[b]?=w.heap[b]?):mz S w' b m:=by
 obtain⟨zs,h1,h2,h3⟩:=h
 exact⟨zs,h1.keep hb,h2,fun z hz=>(h3 z hz).keep hk⟩
theorem mz.up {k:Kc}{α:Type}[Data α]{S S':aL}{w:World}{b:Nat}{m:bh k α}(h:mz S w b m)(hs:∀k,S k->S' k):mz S' w b m:=by
 obtain⟨zs,h1,h2,h3⟩:=h
 exact⟨zs,h1,h2,fun z hz=>(h3 z hz).up hs⟩
instance Vd {k:Kc} {α:Type} [Data α]:Data (bh k α) where
 size:=1
 isAgg:=false
 rd S w cs m:=∃v,cs=[v]/\Mn S w v m
 len:=by rintro S w cs l ⟨v,rfl,_⟩;rfl
 up:=by
  rintro S S' w cs l hs ⟨v,rfl,x,rfl,h⟩
  refine⟨_,rfl,x,rfl,?_⟩
  cases x with
  |none=>exact h
  |some b=>exact⟨hs _ h.1,h.2.up hs⟩
 keep:=by
  rintro S w w' cs l hk ⟨v,rfl,x,rfl,h⟩
  refine⟨_,rfl,x,rfl,?_⟩
  cases x with
  |none=>exact h
  |some b=>exact⟨h.1,h.2.keep hk (hk b h.1)⟩
 one:=by
  rintro S w cs l ⟨v,rfl,x,rfl,_⟩ u hu
  simp at hu;subst hu;rfl
theorem sq {k:Kc}{α:Type}[Data α]{S:aL}{w:World}{v:Value}{m:bh k α}(h:Rd S w v m):Mn S w v m:=by
 obtain⟨cs,⟨v',rfl,h⟩,rfl⟩:=h;exact h
theorem Cb {k:Kc}{α:Type}[Data α]{S:aL}{w:World}{v:Value}{m:bh k α}(h:Mn S w v m):Rd S w v m:=⟨[v],⟨v,rfl,h⟩,rfl⟩
def l5 (α:Type):Type:=Option α
def kQ {α:Type}[Data α](S:aL)(w:World)(v:Value):l5 α->Prop
 |none=>v= .pointer none
 |some y=> ∃b cur t fz cs,v= .pointer (some ⟨b,0,none⟩)/\S b/\w.heap[b]?=some (.cells cur t fz)/\Data.rd S w cs y/\∀j,j<Data.size α->cur[j]?=cs[j]?
theorem kQ.keep {α:Type}[Data α]{S:aL}{w w':World}{v:Value}{x:l5 α}(h:kQ S w v x)(hk:cK S w w'):kQ S w' v x:=by
 cases x with
 |none=>exact h
 |some y=>
  obtain⟨b,cur,t,fz,cs,h1,h2,h3,h4,h5⟩:=h
  exact⟨b,cur,t,fz,cs,h1,h2,(hk b h2).trans h3,Data.keep hk h4,h5⟩
theorem kQ.up {α:Type}[Data α]{S S':aL}{w:World}{v:Value}{x:l5 α}(h:kQ S w v x)(hs:∀k,S k->S' k):kQ S' w v x:=by
 cases x with
 |none=>exact h
 |some y=>
  obtain⟨b,cur,t,fz,cs,h1,h2,h3,h4,h5⟩:=h
  exact⟨b,cur,t,fz,cs,h1,hs _ h2,h3,Data.up hs h4,h5⟩
theorem kQ.val {α:Type}[Data α]{S:aL}{w:World}{v:Value}{x:l5 α}(h:kQ S w v x):∃p,v= .pointer p:=by
 cases x with
 |none=>exact⟨_,h⟩
 |some y=>obtain⟨b,cur,t,fz,cs,h1,_⟩:=h;exact⟨_,h1⟩
instance Ve {α:Type} [Data α]:Data (l5 α) where
 size:=1
 isAgg:=false
 rd S w cs x:=∃v,cs=[v]/\kQ S w v x
 len:=by rintro S w cs l ⟨v,rfl,_⟩;rfl
 up:=by rintro S S' w cs l hs ⟨v,rfl,h⟩;exact⟨v,rfl,h.up hs⟩
 keep:=by rintro S w w' cs l hk ⟨v,rfl,h⟩;exact⟨v,rfl,h.keep hk⟩
 one:=by
  rintro S w cs l ⟨v,rfl,h⟩ u hu
  obtain⟨p,rfl⟩:=h.val
  simp at hu;subst hu;rfl
theorem od {α:Type}[Data α]{S:aL}{w:World}{v:Value}{x:l5 α}(h:Rd S w v x):kQ S w v x:=by
 obtain⟨cs,⟨v',rfl,h⟩,rfl⟩:=h;exact h
theorem Gc {α:Type}[Data α]{S:aL}{w:World}{v:Value}{x:l5 α}(h:kQ S w v x):Rd S w v x:=⟨[v],⟨v,rfl,h⟩,rfl⟩
inductive Ty where
 |int
 |bool
 |str
 |list (t:Ty)
 |pair (a b:Ty)
 |map (k:Kc) (t:Ty)
 |ptr (t:Ty)
def El:Ty->Type
 | .int=>Int
 | .bool=>Bool
 | .str=>ByteArray
 | .list t=>List (El t)
 | .pair a b=>El a×El b
 | .map k t=>bh k (El t)
 | .ptr t=>l5 (El t)
instance DQ:(t:Ty)->Data (El t)
 | .int=>(inferInstance:Data Int)
 | .bool=>(inferInstance:Data Bool)
 | .str=>(inferInstance:Data ByteArray)
 | .list t=>@instDataList (El t) (DQ t)
 | .pair a b=>@instDataProd (El a) (El b) (DQ a) (DQ b)
 | .map k t=>@Vd k (El t) (DQ t)
 | .ptr t=>@Ve (El t) (DQ t)
def sr:(t:Ty)->El t
 | .int=>(0:Int)
 | .bool=>false
 | .str=>(⟨#[]⟩:ByteArray)
 | .list _=>[]
 | .pair a b=>(sr a,sr b)
 | .map k t=>([]:List (bL k×El t))
 | .ptr t=>(none:Option (El t))
def Ge:(t s:Ty)->Option (PLift (t=s))
 | .int,.int=>some ⟨rfl⟩
 | .bool,.bool=>some ⟨rfl⟩
 | .str,.str=>some ⟨rfl⟩
 | .list t,.list s=>match Ge t s with
  |some ⟨h⟩=>some ⟨congrArg Ty.list h⟩
  |none=>none
 | .pair a b,.pair c d=>match Ge a c,Ge b d with
  |some ⟨h⟩,some ⟨k⟩=>some ⟨h▸k▸rfl⟩
  |_,_=>none
 | .map .int a,.map .int b=>match Ge a b with
  |some ⟨h⟩=>some ⟨congrArg (Ty.map .int) h⟩
  |none=>none
 | .map .str a,.map .str b=>match Ge a b with
  |some ⟨h⟩=>some ⟨congrArg (Ty.map .str) h⟩
  |none=>none
 | .ptr t,.ptr s=>match Ge t s with
  |some ⟨h⟩=>some ⟨congrArg Ty.ptr h⟩
  |none=>none
 |_,_=>none
def iN {t s:Ty}(a:El t):Option (El s):=match Ge t s with
 |some ⟨h⟩=>some (h▸a)
 |none=>none
theorem eE {t s:Ty}{a:El t}{b:El s}(h:iN (s:=s) a=some b):∃e:t=s,e▸a=b:=by
 unfold iN at h
 split at h
 .rename_i e _;exact⟨e,Option.some.inj h⟩
 cases h
inductive l6 where
 |i (n:Int)
 |b (b:Bool)
 |s (s:ByteArray)
 |l (t:Ty) (l:List (El t))
 |m (k:Kc) (t:Ty) (m:bh k (El t))
 |p (t:Ty) (x:l5 (El t))
def bl:(t:Ty)->El t->List l6
 | .int,n=>[.i n]
 | .bool,b=>[.b b]
 | .str,s=>[.s s]
 | .list t,l=>[.l t l]
 | .pair a b,x=>bl a x.1++bl b x.2
 | .map k t,m=>[.m k t m]
 | .ptr t,x=>[.p t x]
def kR (S:aL)(w:World)(v:Value):l6->Prop
 | .i n=>v= .int .i64 n
 | .b b=>v= .bool b
 | .s s=>v= .string s
 | .l _ l=>Rd S w v l
 | .m _ _ m=>Rd S w v m
 | .p _ x=>Rd S w v x
def bV (S:aL)(w:World):List Value->List l6->Prop
 |[],[]=>True
 |v::vs,c::cs=>kR S w v c/\bV S w vs cs
 |_,_=>False
theorem bV.append {S:aL}{w:World}:∀ {a:List Value} {b:List l6} {c:List Value} {d:List l6},bV S w a b->bV S w c d->bV S w (a++c) (b++d)
 |[],[],_,_,_,h=>h
 |_::_,_::_,_,_,h,k=>⟨h.1,h.2.append k⟩
 |[],_::_,_,_,h,_=>h.elim
 |_::_,[],_,_,h,_=>h.elim
theorem bV.split {S:aL}{w:World}:∀ {vs:List Value} {a b:List l6},bV S w vs (a++b)->bV S w (vs.take a.length) a/\bV S w (vs.drop a.length) b
 |vs,[],b,h=>by simpa using⟨tv,h⟩
 |[],_::_,_,h=>h.elim
 |v::vs,x::a,b,h=>by
  obtain⟨h1,h2⟩:=bV.split (vs:=vs) (a:=a) (b:=b) h.2
  exact⟨⟨h.1,h1⟩,h2⟩
theorem bV.len {S:aL}{w:World}:∀ {vs:List Value} {a:List l6},bV S w vs a->vs.length=a.length
 |[],[],_=>rfl
 |_::_,_::_,h=>by simp[bV.len h.2]
 |[],_::_,h=>h.elim
 |_::_,[],h=>h.elim
theorem bV.get {S:aL}{w:World}:∀ {vs:List Value} {a:List l6},bV S w vs a->∀ {j:Nat} {c:l6},a[j]?=some c->∃v,vs[j]?=some v/\kR S w v c
 |[],[],_,_,_,h=>by simp at h
 |v::vs,x::a,h,0,c,e=>by simp at e;subst e;exact⟨v,rfl,h.1⟩
 |v::vs,x::a,h,j+1,c,e=>h.2.get (j:=j) (by simpa using e)
 |[],_::_,h,_,_,_=>h.elim
 |_::_,[],h,_,_,_=>h.elim
theorem kR.keep {S:aL}{w w':World}(hk:cK S w w'){v:Value}{c:l6}(h:kR S w v c):kR S w' v c:=by
 cases c with
 |l t l=>exact Rd.keep hk h
 |m k t m=>exact Rd.keep hk h
 |p t x=>exact Rd.keep hk h
 |_=>exact h
theorem kR.up {S S':aL}{w:World}(hs:∀k,S k->S' k){v:Value}{c:l6}(h:kR S w v c):kR S' w v c:=by
 cases c with
 |l t l=>exact Rd.up hs h
 |m k t m=>exact Rd.up hs h
 |p t x=>exact Rd.up hs h
 |_=>exact h
theorem gZ {S:aL}{w:World}:∀(t:Ty) {cs:List Value} {a:El t},Data.rd S w cs a->bV S w cs (bl t a)
 | .int,cs,a,h=>by have h:cs=[.int .i64 a]:=h;subst h;exact⟨rfl,tv⟩
 | .bool,cs,a,h=>by have h:cs=[.bool a]:=h;subst h;exact⟨rfl,tv⟩
 | .str,cs,a,h=>by have h:cs=[.string a]:=h;subst h;exact⟨rfl,tv⟩
 | .list t,cs,a,h=>by
  obtain⟨v,rfl,h⟩:=h
  exact⟨iy h,tv⟩
 | .pair a b,cs,x,h=>by
  obtain⟨c1,c2,rfl,h1,h2⟩:=h
  exact(gZ a h1).append (gZ b h2)
 | .map k t,cs,a,h=>by
  obtain⟨v,rfl,h⟩:=h
  exact⟨Cb h,tv⟩
 | .ptr t,cs,a,h=>by
  obtain⟨v,rfl,h⟩:=h
  exact⟨Gc h,tv⟩
theorem wE {S:aL}{w:World}:∀(t:Ty) {cs:List Value} {a:El t},bV S w cs (bl t a)->Data.rd S w cs a
 | .int,cs,a,h=>by
  match cs,h with
  |[v],h=>have h1:v= .int .i64 a:=h.1;subst h1;rfl
 | .bool,cs,a,h=>by
  match cs,h with
  |[v],h=>have h1:v= .bool a:=h.1;subst h1;rfl
 | .str,cs,a,h=>by
  match cs,h with
  |[v],h=>have h1:v= .string a:=h.1;subst h1;rfl
 | .list t,cs,a,h=>by
  match cs,h with
  |[v],h=>exact⟨v,rfl,cq h.1⟩
 | .pair a b,cs,x,h=>by
  obtain⟨h1,h2⟩:=bV.split h
  exact⟨_,_,(List.take_append_drop _ _).symm,wE a h1,wE b h2⟩
 | .map k t,cs,a,h=>by
  match cs,h with
  |[v],h=>exact⟨v,rfl,sq h.1⟩
 | .ptr t,cs,a,h=>by
  match cs,h with
  |[v],h=>exact⟨v,rfl,od h.1⟩
theorem xL:∀(t:Ty) (a:El t),(bl t a).length=Data.size (El t)
 | .int,_=>rfl
 | .bool,_=>rfl
 | .str,_=>rfl
 | .list _,_=>rfl
 | .map _ _,_=>rfl
 | .ptr _,_=>rfl
 | .pair a b,x=>by
  show(bl a x.1++bl b x.2).length=Data.size (El a)+Data.size (El b)
  rw[List.length_append,xL a,xL b]
def cG:Ty->Bool| .pair _ _=>true|_=>false
theorem xM:∀t:Ty,Data.isAgg (El t)=cG t
 | .int=>rfl
 | .bool=>rfl
 | .str=>rfl
 | .list _=>rfl
 | .pair _ _=>rfl
 | .map _ _=>rfl
 | .ptr _=>rfl
def aF:Ty->Nat
 | .int=>1
 | .bool=>1
 | .str=>1
 | .list _=>1
 | .map _ _=>1
 | .ptr _=>1
 | .pair a b=>aF a+aF b
theorem b5:∀t:Ty,aF t=Data.size (El t)
 | .int=>rfl
 | .bool=>rfl
 | .str=>rfl
 | .list _=>rfl
 | .map _ _=>rfl
 | .ptr _=>rfl
 | .pair a b=>by
  show aF a+aF b=Data.size (El a)+Data.size (El b)
  rw[b5 a,b5 b]
theorem dw (t:Ty)(a:El t):(bl t a).length=aF t:=by rw[xL,b5]
inductive BE where
 |lit (b:Bool)
 |dec (p:Prop) (i:Decidable p)
 |raw (b:Bool)
 |not (x:BE)
 |and (x y:BE)
 |or (x y:BE)
def BE.den:BE->Bool
 | .lit b=>b
 | .dec p i=>@decide p i
 | .raw b=>b
 | .not x=>!x.den
 | .and x y=>x.den && y.den
 | .or x y=>x.den||y.den
def BE.is:BE->Bool->Prop
 | .lit c,b=>c=b
 | .dec p _,true=>p
 | .dec p _,false=>¬p
 | .raw c,b=>c=b
 | .not x,true=>x.is false
 | .not x,false=>x.is true
 | .and x y,true=>x.is true/\y.is true
 | .and x y,false=>x.is false\/y.is false
 | .or x y,true=>x.is true\/y.is true
 | .or x y,false=>x.is false/\y.is false
theorem BE.je:∀(e:BE) (b:Bool),e.is b↔e.den=b
 | .lit c,b=>Iff.rfl
 | .dec p i,true=>by simp[is,den]
 | .dec p i,false=>by simp[is,den]
 | .raw c,b=>Iff.rfl
 | .not x,true=>by simp[is,den,je x]
 | .not x,false=>by simp[is,den,je x]
 | .and x y,true=>by simp[is,den,je x,je y]
 | .and x y,false=>by rw[is,den,je x,je y];cases x.den<;>cases y.den<;>simp
 | .or x y,true=>by rw[is,den,je x,je y];cases x.den<;>cases y.den<;>simp
 | .or x y,false=>by simp[is,den,je x,je y]
structure bF where
 p:Nat->Option Addr
 n:Nat->Nat
 c:Nat->Nat
 b:Nat->Nat
 f:Nat->Lit->Value
 m:Nat->Option Nat
def bF.v (A:bF)(j:Nat):Value:=.slice (A.p j) (A.n j) (A.c j)
def bF.set (A:bF)(j:Nat)(p:Option Addr)(n c b:Nat):bF:=⟨fun k=>if k=j then p else A.p k,fun k=>if k=j then n else A.n k,fun k=>if k=j then c else A.c k,fun k=>if k=j then b else A.b k,A.f,A.m⟩
def bF.dF (A:bF)(j:Nat)(g:Lit->Value):bF:=⟨A.p,A.n,A.c,A.b,fun k=>if k=j then g else A.f k,A.m⟩
theorem bF.j6 (A:bF)(j:Nat)(g:Lit->Value):(A.dF j g).f j=g:=by simp[bF.dF]
def bF.aQ (A:bF)(j:Nat)(x:Option Nat):bF:=⟨A.p,A.n,A.c,A.b,A.f,fun k=>if k=j then x else A.m k⟩
theorem bF.xN (A:bF)(j:Nat)(x:Option Nat):(A.aQ j x).m j=x:=by simp[bF.aQ]
theorem bF.ku (A:bF)(j:Nat)(p:Option Addr)(n c b:Nat):(A.set j p n c b).v j= .slice p n c:=by simp[bF.set,bF.v]
theorem bF.Ym (A:bF)(j:Nat)(p:Option Addr)(n c b:Nat):(A.set j p n c b).p j=p:=by simp[bF.set]
theorem bF.xO (A:bF)(j:Nat)(p:Option Addr)(n c b:Nat):(A.set j p n c b).b j=b:=by simp[bF.set]
inductive Hx where
 |el (i:Int) (sz off:Nat)
 |ky (k:Kc) (x:bL k)
def ix (c:Nat):Lit:=.int .i64 (c:Int)
theorem Vf {c d:Nat}(h:ix c=ix d):c=d:=by
 unfold ix at h
 injection h with _ h
 exact Int.ofNat.inj h
def Hx.lit:Hx->Lit
 | .el i sz off=>ix (i.toNat*sz+off)
 | .ky k x=>cN k x
inductive Sc where
 |v (x:Value)
 |b (e:BE)
 |own (j:Nat)
 |mp (j:Nat)
 |ptr (j off:Nat)
 |el (j:Nat) (i:Int) (sz off:Nat)
 |mA (f:FuncId) (cr:List (Nat×Nat))
 |hd (p q:Nat) (x:Hx)
 |pd (j:Nat)
def Sc.den (A:bF):Sc->Value
 | .v x=>x
 | .b e=>.bool e.den
 | .own j=>A.v j
 | .mp j=>.map (A.m j)
 | .ptr j off=>.pointer (some ⟨A.b j,off,none⟩)
 | .el j i sz off=>.pointer (some ⟨Ar (A.v j),As (A.v j)+i.toNat*sz+off,none⟩)
 | .mA f cr=>.func (.func f) #[] (cr.map fun c=>.pointer (some ⟨A.b c.1,c.2,none⟩)).toArray
 | .hd _ q x=>A.f q x.lit
 | .pd j=>.pointer (A.p j)
def Sc.all (F:Nat->Prop):Sc->Prop
 | .v _=>True
 | .b _=>True
 | .own j=>F j
 | .mp j=>F j
 | .ptr j _=>F j
 | .el j _ _ _=>F j
 | .mA _ cr=> ∀c∈cr,F c.1
 | .hd p q _=>F p/\F q
 | .pd j=>F j
inductive Sy where
 |one (s:Sc)
 |agg (cs:List Sc)
 |mU (ps:List (Bool×List Sc))
def fe (A:bF)(p:Bool×List Sc):Value:=if p.1 then .agg (p.2.map (Sc.den A)).toArray else(p.2.map (Sc.den A)).headD undef
def Sy.den (A:bF):Sy->Value
 | .one s=>s.den A
 | .agg cs=>.agg (cs.map (Sc.den A)).toArray
 | .mU ps=>.tuple (ps.map (fe A)).toArray
def Sy.all (F:Nat->Prop):Sy->Prop
 | .one s=>s.all F
 | .agg cs=> ∀c∈cs,c.all F
 | .mU ps=> ∀p∈ps,∀c∈p.2,c.all F
structure E2 where
 ch:List (Nat×Bool)
 sy:Sy
def gw (w:World)(e:TypeId)(sz:Nat)(v:Value)(n:Nat)(xs:List Value):Prop:=
 xs.length=n*sz/\((v= .slice none 0 0/\n=0)\/∃g d cap cur,v= .slice (some ⟨g,d*sz,none⟩) n cap/\w.heap[g]?=some (.cells cur e (0,0))/\n<=cap/\cap<=maxLen/\(d+cap)*sz<=cur.size/\(cur.toList.drop (d*sz)).take (n*sz)=xs)
theorem gw.keep {w w':World}{e:TypeId}{sz:Nat}{v:Value}{n:Nat}{xs:List Value}(h:gw w e sz v n xs)(hb:∀b,v.ownBlock=some b->w'.heap[b]?=w.heap[b]?):gw w' e sz v n xs:=by
 refine⟨h.1,?_⟩
 rcases h.2 with q|⟨g,d,cap,cur,rfl,hg,rest⟩
 .exact .inl q
 exact .inr ⟨g,d,cap,cur,rfl,(hb g rfl).trans hg,rest⟩
theorem gw.of {w:World}{e:TypeId}{sz:Nat}{v:Value}{n:Nat}{xs:List Value}{base:Nat}(h:w.ownsRow base e sz v n xs):gw w e sz v n xs:=by
 refine⟨h.1,?_⟩
 rcases h.2 with q|⟨g,cap,cur,h1,_,h2,h3,h4,h5,h6⟩
 .exact .inl q
 exact .inr ⟨g,0,cap,cur,by rw[h1,Nat.zero_mul],h2,h3,h4,by rw[Nat.zero_add,h5];exact Nat.le_refl _,by rw[Nat.zero_mul,List.drop_zero];exact h6⟩
theorem gw.nil (w:World)(e:TypeId)(sz:Nat):gw w e sz (.slice none 0 0) 0 []:=⟨by simp,.inl ⟨rfl,rfl⟩⟩
theorem gw.slice {w:World}{e:TypeId}{sz:Nat}{v:Value}{n:Nat}{xs:List Value}(h:gw w e sz v n xs):∃p c,v= .slice p n c/\n<=c/\c<=maxLen:=by
 rcases h.2 with⟨rfl,rfl⟩|⟨g,d,cap,cur,rfl,hg,h1,h2,_⟩
 .exact⟨_,_,rfl,Nat.le_refl _,by simp[maxLen]⟩
 exact⟨_,_,rfl,h1,h2⟩
def dg {α:Type}[Data α](S:aL)(w:World)(e:TypeId)(v:Value)(l:List α):Prop:=∃xs,gw w e (Data.size α) v l.length xs/\cw S w xs l
section
variable {α:Type}[Data α]{S S':aL}{w w':World}{e:TypeId}{v:Value}{l:List α}
theorem dg.keep (h:dg S w e v l)(hk:cK S w w')(hb:∀b,v.ownBlock=some b->w'.heap[b]?=w.heap[b]?):dg S w' e v l:=let⟨xs,h1,h2⟩:=h;⟨xs,h1.keep hb,h2.keep hk⟩
theorem dg.up (h:dg S w e v l)(hs:∀k,S k->S' k):dg S' w e v l:=let⟨xs,h1,h2⟩:=h;⟨xs,h1,h2.up hs⟩
theorem dg.of (h:Own S w e v l):dg S w e v l:=let⟨xs,h1,h2⟩:=h;⟨xs,.of h1,h2⟩
theorem dg.nil:dg S w e (.slice none 0 0) ([]:List α):=⟨[],gw.nil w e _,cw.nil _ _⟩
theorem dg.cells (h:dg S w e v l){i:Int}(h0:0<=i)(h1:i<(l.length:Int))(d:α):
  ∃cs,Data.rd S w cs (l.getD i.toNat d)/\∀j,j<Data.size α->w.cell? ⟨Ar v,As v+i.toNat*Data.size α+j,none⟩=cs[j]?:=by
 obtain⟨xs,hh,hR⟩:=h
 rcases hh.2 with⟨_,hn⟩|⟨g,dd,cap,cur,rfl,hg,J4,rQ,cE,kq⟩
 .omega
 have hi:i.toNat<l.length:=by omega
 refine⟨_,by rw[List.getD_eq_getElem?_getD,List.getElem?_eq_getElem hi];exact hR.2 i.toNat hi,fun q hq=>?_⟩
 show w.cell? ⟨g,dd*Data.size α+i.toNat*Data.size α+q,none⟩=_
 rw[cell_of_row w g _ cur e (0,0) hg]
 rw[List.getElem?_take,if_pos hq,List.getElem?_drop,<-kq,List.getElem?_take,if_pos ?_,List.getElem?_drop,Nat.add_assoc,Array.getElem?_toList]
 have:=Nat.mul_le_mul_right (Data.size α) (show i.toNat+1<=l.length from hi)
 rw[Nat.succ_mul] at this
 omega
theorem wF {α:Type}[Data α]{xs:List Value}{l:List α}{lo hi:Nat}(h:cw S w xs l)(h1:lo<=hi)(h2:hi<=l.length):cw S w ((xs.drop (lo*Data.size α)).take ((hi-lo)*Data.size α)) ((l.drop lo).take (hi-lo)):=by
 refine⟨?_,fun i zM=>?_⟩
 .rw[List.length_take,List.length_drop,List.length_take,List.length_drop,h.1,<-Nat.sub_mul]
  have:hi-lo<=l.length-lo:=by omega
  rw[Nat.min_eq_left (Nat.mul_le_mul_right _ this),Nat.min_eq_left this]
 rw[List.length_take,List.length_drop] at zM
 have hil:lo+i<l.length:=by omega
 have e1:((l.drop lo).take (hi-lo))[i]'(by rw[List.length_take,List.length_drop];exact zM)=l[lo+i]:=by simp
 rw[e1]
 have e2:((((xs.drop (lo*Data.size α)).take ((hi-lo)*Data.size α)).drop (i*Data.size α)).take (Data.size α))=(xs.drop ((lo+i)*Data.size α)).take (Data.size α):=by
  rw[List.drop_take,List.take_take,List.drop_drop,<-Nat.add_mul,Nat.min_eq_left]
  rw[<-Nat.sub_mul]
  have:1<=hi-lo-i:=by omega
  calc Data.size α=1*Data.size α:=(Nat.one_mul _).symm
   _<=_:=Nat.mul_le_mul_right _ this
 rw[e2]
 exact h.2 (lo+i) hil
theorem uG {α:Type}[Data α]{p:Option Addr}{len cap lo hi:Nat}{l:List α}(h:iH S w (.slice p len cap) l)(h1:lo<=hi)(h2:hi<=l.length):iH S w (sliced p lo hi cap (Data.size α)) ((l.drop lo).take (hi-lo)):=by
 obtain⟨p',c',e,k1,k2,k3⟩:=h
 cases e
 have hlen:((l.drop lo).take (hi-lo)).length=hi-lo:=by rw[List.length_take,List.length_drop];omega
 refine⟨_,cap-lo,by unfold sliced;rw[hlen],by rw[hlen];omega,by omega,?_⟩
 rcases k3 with rfl|⟨g,off,cur,t,fz,rfl,hg,hw,hc⟩
 .exact .inl (by simp)
 by_cases q:cap=lo
 .exact .inl (List.eq_nil_of_length_eq_zero (by rw[hlen];omega))
 refine .inr ⟨g,off+lo*Data.size α,cur,t,fz,by rw[if_neg q];simp[Addr.add_lit],hg,hw,fun i zM=>?_⟩
 rw[hlen] at zM
 obtain⟨cs,q1,q2⟩:=hc (lo+i) (by omega)
 have e1:((l.drop lo).take (hi-lo))[i]'(by rw[hlen];exact zM)=l[lo+i]:=by simp
 refine⟨cs,by rw[e1];exact q1,fun j hj=>?_⟩
 rw[<-q2 j hj,Nat.add_mul]
 congr 1;omega
theorem dg.rd (h:dg S w e v l):Rd (fun k=>S k\/v.ownBlock=some k) w v l:=by
 obtain⟨xs,h1,h2⟩:=h
 refine iy ?_
 rcases h1.2 with⟨rfl,hn⟩|⟨g,d,cap,cur,rfl,hg,J4,rQ,cE,kq⟩
 .have:l=[]:=List.eq_nil_of_length_eq_zero hn
  subst this
  exact⟨none,0,rfl,by simp,by simp[maxLen],.inl rfl⟩
 refine⟨_,cap,rfl,J4,rQ,.inr ⟨g,d*Data.size α,cur,e,(0,0),rfl,.inr rfl,hg,fun j hj=>?_⟩⟩
 refine⟨_,Data.up (fun _=>.inl) (h2.2 j hj),fun q hq=>?_⟩
 rw[List.getElem?_take,if_pos hq,List.getElem?_drop,<-kq,List.getElem?_take,if_pos ?_,List.getElem?_drop,Nat.add_assoc,Array.getElem?_toList]
 have:=Nat.mul_le_mul_right (Data.size α) (show j+1<=l.length from hj)
 rw[Nat.succ_mul] at this
 omega
end
inductive X2 where
 |nest (q:Nat) (h:Option Nat) (e:TypeId) (t:Ty) (ie:TypeId) (l:List (El t))
 |ff (q:Nat) (k:Kc) (h:Option (bL k)) (t:Ty) (ie:TypeId) (m:bh k (List (El t)))
 |vC (t:Ty) (x:l5 (El t))
 |par (t:Ty) (x:l5 (El t))
 |DR (t:Ty) (x:El t)
 |zN (t:Ty) (x:El t)
 |DS (q:Nat) (k:Kc) (t:Ty) (m:bh k (El t)) (x:bL k)
 |DT (D:Nat)
 |vw (q lo:Nat) (e:TypeId) (t:Ty) (l:List (El t))
 |fwd (b:Nat)
inductive R2 where
 |ro (t:Ty) (l:List (El t))
 |ar (t:Ty) (l:List (El t))
 |row (e:TypeId) (t:Ty) (l:List (El t))
 |box (t:TypeId) (cs:List Sc)
 |mL (k:Kc) (t:Ty) (m:bh k (El t))
 |wG (k:Kc) (t:Ty) (m:bh k (El t))
 |map (k:Kc) (t:Ty) (m:bh k (El t))
 |iter (k:Kc) (t:Ty) (m:bh k (El t)) (lf:bL k->Bool) (cnt:Nat) (cur:Option (bL k×El t))
 |ext (x:X2)
structure Rs where
 ok:aL->World->Prop
 has:Nat->Prop
 keep:∀S w w',ok S w->cK S w w'->(∀b,has b->w'.heap[b]?=w.heap[b]?)->ok S w'
 up:∀(S S':aL) w,ok S w->(∀k,S k->S' k)->ok S' w
def Rs.of (r:n0):Rs:=⟨fun S w=>r.ok S w,fun b=>r.block=some b,fun _ _ _ h hk hb=>n0.HY h hk hb,fun _ _ _ h hs=>n0.T7 h hs⟩
def kS:Rs:=⟨fun _ _=>True,fun _=>False,fun _ _ _ _ _ _=>trivial,fun _ _ _ _ _=>trivial⟩
def o5 {α:Type}[Data α](e:TypeId)(v:Value)(l:List α):Rs:=⟨fun S w=>dg S w e v l,fun b=>v.ownBlock=some b,fun _ _ _ h hk hb=>h.keep hk hb,fun _ _ _ h hs=>h.up hs⟩
def rU {k:Kc}{α:Type}[Data α](x:Option Nat)(m:bh k α):Rs where
 ok S w:=∃b,x=some b/\mz S w b m
 has b:=x=some b
 keep:=fun S w w' ⟨b,e,h⟩ hk hb=>⟨b,e,h.keep hk (hb b e)⟩
 up:=fun S S' w ⟨b,e,h⟩ hs=>⟨b,e,h.up hs⟩
def Cc {k:Kc}{α:Type}[Data α](S:aL)(w:World)(b:Nat)(m:bh k α)(lf:bL k->Bool)(cnt:Nat)(cur:Option (bL k×α)):Prop:=
 ∃mb,∃zs:List (bL k×(Value×α)),∃cu:Option (bL k×(Value×α)),S mb/\j5 k w mb b (zs.map fun q=>(q.1,q.2.1)) lf cnt (cu.map fun q=>(q.1,q.2.1))/\m=zs.map (fun q=>(q.1,q.2.2))/\(∀z∈zs,Rd S w z.2.1 z.2.2)/\cur=cu.map (fun q=>(q.1,q.2.2))/\∀q,cu=some q->Rd S w q.2.1 q.2.2
def tf {k:Kc}{α:Type}(w:World)(b:Nat)(m:bh k α)(lf:bL k->Bool)(cur:Option (bL k×α)):Prop:=
 m=([]:List (bL k×α))/\cur=none/\(∀x,lf x=false)/\∃since seen c0,w.heap[b]?=some (.mapIter none since seen c0)
def Gf {k:Kc}{α:Type}[Data α](b:Nat)(m:bh k α)(lf:bL k->Bool)(cnt:Nat)(cur:Option (bL k×α)):Rs where
 ok S w:=Cc S w b m lf cnt cur\/tf w b m lf cur
 has x:=x=b
 keep:=by
  intro S w w' h hk hb
  rcases h with⟨mb,zs,cu,h1,h2,h3,h4,h5,h6⟩|⟨h1,h2,h3,s,se,c,h4⟩
  .have h7:=h2.keep (hk mb h1) (hb b rfl)
   exact .inl ⟨mb,zs,cu,h1,h7,h3,fun z hz=>(h4 z hz).keep hk,h5,fun q e=>(h6 q e).keep hk⟩
  exact .inr ⟨h1,h2,h3,s,se,c,(hb b rfl).trans h4⟩
 up:=by
  intro S S' w h hs
  rcases h with⟨mb,zs,cu,h1,h2,h3,h4,h5,h6⟩|h
  .exact .inl ⟨mb,zs,cu,hs mb h1,h2,h3,fun z hz=>(h4 z hz).up hs,h5,fun q e=>(h6 q e).up hs⟩
  exact .inr h
def gA (t:Ty)(l:List (El t)):List l6:=l.flatMap (bl t)
theorem dV (t:Ty):∀l:List (El t),(gA t l).length=l.length*aF t
 |[]=>by simp[gA]
 |x::l=>by
  show(bl t x++gA t l).length=_
  rw[List.length_append,dw,dV t l,List.length_cons,Nat.succ_mul];omega
def rR (S:aL)(w:World)(ie:TypeId)(v:Value):l6->Prop
 | .l _ l=>dg S w ie v l
 |c=>kR S w v c/\v.ownBlock=none
theorem rR.keep {S:aL}{w w':World}{ie:TypeId}{v:Value}{c:l6}(h:rR S w ie v c)(hk:cK S w w')(hb:∀b,v.ownBlock=some b->w'.heap[b]?=w.heap[b]?):rR S w' ie v c:=by
 cases c with
 |l t l=>exact dg.keep h hk hb
 |_=>exact⟨h.1.keep hk,h.2⟩
theorem rR.up {S S':aL}{w:World}{ie:TypeId}{v:Value}{c:l6}(h:rR S w ie v c)(hs:∀k,S k->S' k):rR S' w ie v c:=by
 cases c with
 |l t l=>exact dg.up h hs
 |_=>exact⟨h.1.up hs,h.2⟩
structure iO (S:aL)(w:World)(v:Value)(f:Lit->Value)(h:Option Nat)(e:TypeId)(t:Ty)(ie:TypeId)(l:List (El t)):Prop where
 row:∃xs,gw w e (aF t) v l.length xs/\(∀u∈xs,u.oneCell'=true)/\∀c x,(gA t l)[c]?=some x->h≠some c->xs[c]?=some (f (ix c))/\rR S w ie (f (ix c)) x
 inj:∀c d b,c<l.length*aF t->d<l.length*aF t->h≠some c->h≠some d->(f (ix c)).ownBlock=some b->(f (ix d)).ownBlock=some b->c=d
 out:∀c b,c<l.length*aF t->h≠some c->(f (ix c)).ownBlock=some b->v.ownBlock≠some b
def Gg (v:Value)(f:Lit->Value)(h:Option Nat)(e:TypeId)(t:Ty)(ie:TypeId)(l:List (El t)):Rs where
 ok S w:=iO S w v f h e t ie l
 has b:=v.ownBlock=some b\/∃c,c<l.length*aF t/\h≠some c/\(f (ix c)).ownBlock=some b
 keep:=by
  intro S w w' H hk hb
  obtain⟨xs,h1,h2,h3⟩:=H.row
  refine⟨⟨xs,h1.keep fun b q=>hb b (.inl q),h2,fun c x hc hh=>?_⟩,H.inj,H.out⟩
  obtain⟨k1,k2⟩:=h3 c x hc hh
  refine⟨k1,k2.keep hk fun b q=>hb b (.inr ⟨c,?_,hh,q⟩)⟩
  have:=(List.getElem?_eq_some_iff.1 hc).1
  rwa[dV] at this
 up:=fun S S' w H hs=>⟨let⟨xs,h1,h2,h3⟩:=H.row;⟨xs,h1,h2,fun c x hc hh=>⟨(h3 c x hc hh).1,(h3 c x hc hh).2.up hs⟩⟩,H.inj,H.out⟩
structure su {k:Kc}{α:Type}[Data α](S:aL)(w:World)(b:Nat)(f:Lit->Value)(h:Option (bL k))(ie:TypeId)(m:bh k (List α)):Prop where
 map:∃zs:List (bL k×(Value×List α)),de k w b (zs.map fun q=>(q.1,q.2.1))/\m=zs.map (fun q=>(q.1,q.2.2))/\∀z∈zs,h≠some z.1->z.2.1=f (cN k z.1)/\dg S w ie z.2.1 z.2.2
 Xu:∀x,aG m x=none->h≠some x->f (cN k x)= .slice none 0 0
 inj:∀x y c,h≠some x->h≠some y->(f (cN k x)).ownBlock=some c->(f (cN k y)).ownBlock=some c->x=y
 out:∀x c,h≠some x->(f (cN k x)).ownBlock=some c->c≠b
def Mo {k:Kc}{α:Type}[Data α](y:Option Nat)(f:Lit->Value)(h:Option (bL k))(ie:TypeId)(m:bh k (List α)):Rs where
 ok S w:=∃b,y=some b/\su S w b f h ie m
 has c:=y=some c\/∃x,h≠some x/\(f (cN k x)).ownBlock=some c
 keep:=by
  intro S w w' ⟨b,e,H⟩ hk hb
  obtain⟨zs,h1,h2,h3⟩:=H.map
  exact⟨b,e,⟨zs,h1.keep (hb b (.inl e)),h2,fun z hz hh=>⟨(h3 z hz hh).1,(h3 z hz hh).2.keep hk fun c q=>hb c (.inr ⟨z.1,hh,by rw[<-(h3 z hz hh).1];exact q⟩)⟩⟩,H.Xu,H.inj,H.out⟩
 up:=fun S S' w ⟨b,e,H⟩ hs=>⟨b,e,let⟨zs,h1,h2,h3⟩:=H.map;⟨zs,h1,h2,fun z hz hh=>⟨(h3 z hz hh).1,(h3 z hz hh).2.up hs⟩⟩,H.Xu,H.inj,H.out⟩
def gG {α:Type}[Data α](S:aL)(w:World)(b:Nat)(y:α):Prop:=∃cur t fz cs,S b/\w.heap[b]?=some (.cells cur t fz)/\Data.rd S w cs y/\∀j,j<Data.size α->cur[j]?=cs[j]?
def Ua {α:Type}[Data α](b:Nat)(y:α):Rs where
 ok S w:=gG S w b y
 has _:=False
 keep:=fun S w w' ⟨cur,t,fz,cs,h1,h2,h3,h4⟩ hk _=>⟨cur,t,fz,cs,h1,(hk b h1).trans h2,Data.keep hk h3,h4⟩
 up:=fun S S' w ⟨cur,t,fz,cs,h1,h2,h3,h4⟩ hs=>⟨cur,t,fz,cs,hs b h1,h2,Data.up hs h3,h4⟩
def Ub {k:Kc}{α:Type}[Data α](y:Option Nat)(f:Lit->Value)(m:bh k α)(key:bL k):Rs where
 ok S w:=∃b,y=some b/\mz S w b m/\∃st,f (cN k key)= .int .i64 st/\Kh k w b key st
 has b:=y=some b
 keep:=fun S w w' ⟨b,e,h,st,h1,h2⟩ hk hb=>⟨b,e,h.keep hk (hb b e),st,h1,h2.keep (hb b e)⟩
 up:=fun S S' w ⟨b,e,h,h2⟩ hs=>⟨b,e,h.up hs,h2⟩
def Mp (D:Nat):Rs:=⟨fun _ w=>w.heap[D]?=some (.deferred (some [])),fun b=>b=D,fun _ _ _ h _ hb=>(hb D rfl).trans h,fun _ _ _ h _=>h⟩
def mM (u v:Value)(lo sz:Nat):Prop:=∃p n c,v= .slice p n c/\lo<=n/\n<=c/\u=sliced p lo n c sz
def Vg {α:Type}[Data α](u v:Value)(lo:Nat)(e:TypeId)(l:List α):Rs:=⟨fun S w=>dg S w e v l/\mM u v lo (Data.size α),fun b=>v.ownBlock=some b,fun _ _ _ h hk hb=>⟨h.1.keep hk hb,h.2⟩,fun _ _ _ h hs=>⟨h.1.up hs,h.2⟩⟩
theorem th {α:Type}[Data α]{S:aL}{w:World}{e:TypeId}{u v:Value}{l:List α}{lo:Nat}(h:dg S w e v l)(hv:mM u v lo (Data.size α)):Rd (fun k=>S k\/v.ownBlock=some k) w u (l.drop lo)/\lo<=l.length:=by
 obtain⟨p,n,c,rfl,h1,h2,rfl⟩:=hv
 have hr:=cq h.rd
 obtain⟨p',c',e',_⟩:=fc hr
 cases e'
 have:=iy (uG hr h1 (Nat.le_refl _))
 rw[List.take_of_length_le (by rw[List.length_drop];exact Nat.le_refl _)] at this
 exact⟨this,h1⟩
theorem Gh {α:Type}[Data α]{S:aL}{w:World}{e:TypeId}{u v:Value}{l:List α}{lo:Nat}(h:dg S w e v l)(hv:mM u v lo (Data.size α)){i:Int}(h0:0<=i)(h1:i<((l.drop lo).length:Int))(d:α):
  ∃cs,Data.rd S w cs ((l.drop lo).getD i.toNat d)/\∀j,j<Data.size α->w.cell? ⟨Ar u,As u+i.toNat*Data.size α+j,none⟩=cs[j]?:=by
 have hlo:=(th h hv).2
 rw[List.length_drop] at h1
 obtain⟨cs,k1,k2⟩:=dg.cells h (i:=(lo:Int)+i) (by omega) (by omega) d
 have e1:((lo:Int)+i).toNat=lo+i.toNat:=by omega
 rw[e1] at k1 k2
 refine⟨cs,by rw[List.getD_eq_getElem?_getD,List.getElem?_drop,<-List.getD_eq_getElem?_getD];exact k1,fun j hj=>?_⟩
 rw[<-k2 j hj]
 obtain⟨p,n,c,rfl,g1,g2,rfl⟩:=hv
 obtain⟨p',c',e',_⟩:=fc (cq h.rd)
 cases e'
 have hc:¬c=lo:=by omega
 obtain⟨xs,hh,_⟩:=h
 rcases hh.2 with⟨q,hn⟩|⟨g,dd,cap,cur,q,_⟩
 .omega
 cases q
 unfold sliced
 rw[if_neg hc]
 have e3:∀x,Ar (.slice (some ⟨g,dd*Data.size α,none⟩) l.length c)=g/\As (.slice (some ⟨g,dd*Data.size α,none⟩) l.length c)=dd*Data.size α/\Ar (.slice ((some (⟨g,dd*Data.size α,none⟩:Addr)).map (·.add (lo*Data.size α))) x (c-lo))=g/\As (.slice ((some (⟨g,dd*Data.size α,none⟩:Addr)).map (·.add (lo*Data.size α))) x (c-lo))=dd*Data.size α+lo*Data.size α:=fun x=>⟨rfl,rfl,by simp[Ar,Addr.add_lit],by simp[As,Addr.add_lit]⟩
 obtain⟨a1,a2,a3,a4⟩:=e3 (l.length-lo)
 rw[a1,a2,a3,a4,Nat.add_mul]
 congr 2
 omega
def X2.den (A:bF)(j:Nat):X2->Rs
 | .nest q h e t ie l=>Gg (A.v j) (A.f q) h e t ie l
 | .ff q _ h _ ie m=>Mo (A.m j) (A.f q) h ie m
 | .vC _ x=>.of (.ro (.pointer (A.p j)) x)
 | .par _ _=>kS
 | .DR _ x=>Ua (A.b j) x
 | .zN _ _=>kS
 | .DS q _ _ m x=>Ub (A.m j) (A.f q) m x
 | .DT D=>Mp D
 | .vw q lo e t l=>Vg (A.v j) (A.v q) lo e l
 | .fwd _=>kS
def X2.all (F:Nat->Prop):X2->Prop
 | .nest q _ _ _ _ _=>F q
 | .ff q _ _ _ _ _=>F q
 | .DS q _ _ _ _=>F q
 | .vw q _ _ _ _=>F q
 | .fwd b=>F b
 |_=>True
def R2.den (A:bF)(j:Nat):R2->Rs
 | .ro t l=>.of (@n0.ro (List (El t)) _ (A.v j) l)
 | .ar _ _=>kS
 | .row e t l=>@o5 (El t) _ e (A.v j) l
 | .box t cs=>.of (.box (A.b j) t (cs.map (Sc.den A)))
 | .mL _ _ m=>.of (.ro (.map (A.m j)) m)
 | .wG _ _ _=>kS
 | .map _ _ m=>rU (A.m j) m
 | .iter _ _ m lf cnt cur=>Gf (A.b j) m lf cnt cur
 | .ext x=>x.den A j
def R2.all (F:Nat->Prop):R2->Prop
 | .box _ cs=> ∀c∈cs,c.all F
 | .ext x=>x.all F
 |_=>True
def cR (F:Nat->Prop)(A B:bF):Prop:=∀j,F j->A.v j=B.v j/\A.b j=B.b j/\A.f j=B.f j/\A.m j=B.m j
theorem cR.set {F:Nat->Prop}{A:bF}{j:Nat}(h:¬F j)(p:Option Addr)(n c b:Nat):cR F A (A.set j p n c b):=fun k hk=>by
 have:k≠j:=fun e=>h (e▸hk)
 simp[bF.set,bF.v,this]
theorem cR.dF {F:Nat->Prop}{A:bF}{j:Nat}(h:¬F j)(g:Lit->Value):cR F A (A.dF j g):=fun k hk=>by
 have:k≠j:=fun e=>h (e▸hk)
 simp[bF.dF,bF.v,this]
theorem cR.aQ {F:Nat->Prop}{A:bF}{j:Nat}(h:¬F j)(x:Option Nat):cR F A (A.aQ j x):=fun k hk=>by
 have:k≠j:=fun e=>h (e▸hk)
 simp[bF.aQ,bF.v,this]
theorem cR.refl (F:Nat->Prop)(A:bF):cR F A A:=fun _ _=>⟨rfl,rfl,rfl,rfl⟩
theorem cR.trans {F:Nat->Prop}{A B C:bF}(h:cR F A B)(k:cR F B C):cR F A C:=fun j hj=>⟨(h j hj).1.trans (k j hj).1,(h j hj).2.1.trans (k j hj).2.1,(h j hj).2.2.1.trans (k j hj).2.2.1,(h j hj).2.2.2.trans (k j hj).2.2.2⟩
theorem cR.mono {F G:Nat->Prop}{A B:bF}(h:cR G A B)(hs:∀j,F j->G j):cR F A B:=fun j hj=>h j (hs j hj)
section
variable {F:Nat->Prop}{A B:bF}
theorem cR.p (h:cR F A B){j:Nat}(k:F j):A.p j=B.p j:=by
 have:=(h j k).1
 unfold bF.v at this
 injection this
theorem Sc.congr (h:cR F A B):∀ {s:Sc},s.all F->s.den A=s.den B
 | .v _,_=>rfl
 | .b _,_=>rfl
 | .own j,k=>(h j k).1
 | .mp j,k=>by simp only[den];rw[(h j k).2.2.2]
 | .ptr j off,k=>by simp only[den];rw[(h j k).2.1]
 | .el j i sz off,k=>by simp only[den];rw[(h j k).1]
 | .mA f cr,k=>by
  simp only[den]
  congr 2
  exact List.map_congr_left fun c hc=>by rw[(h c.1 (k c hc)).2.1]
 | .hd p q ix,k=>by simp only[den];rw[(h q k.2).2.2.1]
 | .pd j,k=>by simp only[den];rw[h.p k]
theorem jB (h:cR F A B){cs:List Sc}(k:∀c∈cs,c.all F):cs.map (Sc.den A)=cs.map (Sc.den B):=List.map_congr_left fun c hc=>Sc.congr h (k c hc)
theorem Sy.congr (h:cR F A B):∀ {s:Sy},s.all F->s.den A=s.den B
 | .one s,k=>Sc.congr h k
 | .agg cs,k=>by simp only[den];rw[jB h k]
 | .mU ps,k=>by
  simp only[den]
  congr 2
  exact List.map_congr_left fun p hp=>by unfold fe;rw[jB h (k p hp)]
theorem X2.congr (h:cR F A B){j:Nat}(hj:F j):∀ {r:X2},r.all F->r.den A j=r.den B j
 | .nest q _ _ _ _ _,k=>by simp only[den];rw[(h j hj).1,(h q k).2.2.1]
 | .ff q _ _ _ _ _,k=>by simp only[den];rw[(h j hj).2.2.2,(h q k).2.2.1]
 | .vC _ _,_=>by simp only[den];rw[h.p hj]
 | .par _ _,_=>rfl
 | .DR _ _,_=>by simp only[den];rw[(h j hj).2.1]
 | .zN _ _,_=>rfl
 | .DS q _ _ _ _,k=>by simp only[den];rw[(h j hj).2.2.2,(h q k).2.2.1]
 | .DT _,_=>rfl
 | .vw q _ _ _ _,k=>by simp only[den];rw[(h j hj).1,(h q k).1]
 | .fwd _,_=>rfl
theorem R2.congr (h:cR F A B){j:Nat}(hj:F j):∀ {r:R2},r.all F->r.den A j=r.den B j
 | .ro t l,_=>by simp only[den];rw[(h j hj).1]
 | .ar t l,_=>rfl
 | .row e t l,_=>by simp only[den];rw[(h j hj).1]
 | .box t cs,k=>by simp only[den];rw[(h j hj).2.1,jB h k]
 | .mL k t m,_=>by simp only[den];rw[(h j hj).2.2.2]
 | .wG k t m,_=>rfl
 | .map k t m,_=>by simp only[den];rw[(h j hj).2.2.2]
 | .iter k t m lf cnt cur,_=>by simp only[den];rw[(h j hj).2.1]
 | .ext x,k=>X2.congr h hj k
variable {G:Nat->Prop}
theorem Sc.mono (h:∀j,F j->G j):∀ {s:Sc},s.all F->s.all G
 | .v _,_=>trivial
 | .b _,_=>trivial
 | .own j,k=>h j k
 | .mp j,k=>h j k
 | .ptr j _,k=>h j k
 | .el j _ _ _,k=>h j k
 | .mA _ _,k=>fun c hc=>h _ (k c hc)
 | .hd _ _ _,k=>⟨h _ k.1,h _ k.2⟩
 | .pd _,k=>h _ k
theorem Sy.mono (h:∀j,F j->G j):∀ {s:Sy},s.all F->s.all G
 | .one _,k=>Sc.mono h k
 | .agg _,k=>fun c hc=>Sc.mono h (k c hc)
 | .mU _,k=>fun p hp c hc=>Sc.mono h (k p hp c hc)
theorem X2.mono (h:∀j,F j->G j):∀ {r:X2},r.all F->r.all G
 | .nest _ _ _ _ _ _,k=>h _ k
 | .ff _ _ _ _ _ _,k=>h _ k
 | .vC _ _,_=>trivial
 | .par _ _,_=>trivial
 | .DR _ _,_=>trivial
 | .zN _ _,_=>trivial
 | .DS _ _ _ _ _,k=>h _ k
 | .DT _,_=>trivial
 | .vw _ _ _ _ _,k=>h _ k
 | .fwd _,k=>h _ k
theorem R2.mono (h:∀j,F j->G j):∀ {r:R2},r.all F->r.all G
 | .ro _ _,_=>trivial
 | .ar _ _,_=>trivial
 | .row _ _ _,_=>trivial
 | .box _ _,k=>fun c hc=>Sc.mono h (k c hc)
 | .mL _ _ _,_=>trivial
 | .wG _ _ _,_=>trivial
 | .map _ _ _,_=>trivial
 | .iter _ _ _ _ _ _,_=>trivial
 | .ext _,k=>X2.mono h k
end
structure jZ (w w':World)(H:Nat->Prop):Prop where
 os:w'.os=w.os
 tape:w'.tape=w.tape
 output:w'.output=w.output
 size:w.heap.size<=w'.heap.size
 block:∀k,k<w.heap.size->¬H k->w'.heap[k]?=w.heap[k]?
theorem jZ.of {w w':World}{r:Option Nat}(h:w.grownBy w' r):jZ w w' (fun b=>r=some b):=⟨h.os,h.tape,h.output,h.size,fun k hk hn=>h.block k hk fun e=>hn e.symm⟩
theorem jZ.refl (w:World)(H:Nat->Prop):jZ w w H:=⟨rfl,rfl,rfl,Nat.le_refl _,fun _ _ _=>rfl⟩
theorem jZ.trans {a b c:World}{H K:Nat->Prop}(h:jZ a b H)(k:jZ b c K)(hk:∀j,j<a.heap.size->K j->H j):jZ a c H:=
 ⟨k.os.trans h.os,k.tape.trans h.tape,k.output.trans h.output,Nat.le_trans h.size k.size,fun j hj hn=>(k.block j (Nat.lt_of_lt_of_le hj h.size) fun q=>hn (hk j hj q)).trans (h.block j hj hn)⟩
theorem jZ.below {a b:World}{H:Nat->Prop}(h:Below a.heap.size a b):jZ a b H:=⟨h.os,h.tape,h.output,h.size,fun k hk _=>h.block k hk⟩
structure bC extends Orig where
 G:Nat->Prop
 gS:∀k,G k->¬S k
 gin:∀k,G k->k<w.heap.size
 pF:Nat->Prop
 pA:bF
 kp:Nat
def Mq:bF:=⟨fun _=>none,fun _=>0,fun _=>0,fun _=>0,fun _ _=>undef,fun _=>none⟩
def bC.of (o:Orig):bC:=⟨o,fun _=>False,fun _ h=>h.elim,fun _ h=>h.elim,fun _=>False,Mq,0⟩
def bC.new (o:bC)(b:Nat):Prop:=o.w.heap.size<=b\/o.G b
def bC.old (o:bC):aL:=fun k=>k<o.w.heap.size/\¬o.G k
abbrev Cd (o:bC)(w':World):aL:=fun k=>o.S k\/(o.new k/\k<w'.heap.size)
structure gp (o:bC)(w:World)(S:aL)(f:Nat->Option Rs):Prop where
 pT:jZ o.w w o.G
 src:∀k,S k->o.S k\/o.new k
 iI:∀k,S k->k<w.heap.size
 ok:∀j r,f j=some r->r.ok S w
 own:∀j r b,f j=some r->r.has b->o.new b/\b<w.heap.size/\¬S b
 apart:∀i j ri rj b,f i=some ri->f j=some rj->ri.has b->rj.has b->i=j
def eX {α:Type}(f:Nat->Option α)(j:Nat)(x:Option α):Nat->Option α:=fun k=>if k=j then x else f k
section
variable {o:bC}{w w':World}{S S':aL}{f:Nat->Option Rs}
theorem bC.DU {b:Nat}(h:jZ o.w w o.G)(k:w.heap.size<=b):o.new b:=.inl (Nat.le_trans h.size k)
theorem gp.old (h:gp o w S f):cK o.old o.w w:=fun k hk=>h.pT.block k hk.1 hk.2
theorem gp.start (o:bC):gp o o.w o.S (fun _=>none):=
 ⟨jZ.refl _ _,fun _ h=>.inl h,o.ok,fun _ _ h=>(by cases h),fun _ _ _ h=>(by cases h),fun _ _ _ _ _ h=>(by cases h)⟩
abbrev gp.at (h:gp o w S f):Orig:=⟨w,S,h.iI⟩
theorem gp.sub {g:Nat->Option Rs}(h:gp o w S f)(hg:∀j r,g j=some r->f j=some r):gp o w S g:=
 ⟨h.pT,h.src,h.iI,fun j r k=>h.ok j r (hg j r k),fun j r b k=>h.own j r b (hg j r k),fun i j ri rj b k l=>h.apart i j ri rj b (hg i ri k) (hg j rj l)⟩
theorem gp.Uc (h:gp o w S f){j:Nat}{r:Rs}(hj:f j=some r)(hb:Below w.heap.size w w'):∀b,r.has b->w'.heap[b]?=w.heap[b]?:=fun b e=>hb.block b (h.own j r b hj e).2.1
theorem gp.on (h:gp o w S f)(hb:Below w.heap.size w w'):gp o w' S f where
 pT:=h.pT.trans (jZ.below (H:=fun _=>False) hb) fun _ _ q=>q.elim
 src:=h.src
 iI k hk:=Nat.lt_of_lt_of_le (h.iI k hk) hb.size
 ok j r hj:=r.keep _ _ _ (h.ok j r hj) (fun k hk=>hb.block k (h.iI k hk)) (h.Uc hj hb)
 own j r b hj e:=let⟨h1,h2,h3⟩:=h.own j r b hj e;⟨h1,Nat.lt_of_lt_of_le h2 hb.size,h3⟩
 apart:=h.apart
theorem gp.call (h:gp o w S f)(hb:Below w.heap.size w w'):gp o w' (fun k=>S k\/(w.heap.size<=k/\k<w'.heap.size)) f where
 pT:=(h.on hb).pT
 src k hk:=hk.elim (h.src k) fun q=>.inr (bC.DU h.pT q.1)
 iI k hk:=hk.elim (fun q=>Nat.lt_of_lt_of_le (h.iI k q) hb.size) fun q=>q.2
 ok j r hj:=r.up _ _ _ (r.keep _ _ _ (h.ok j r hj) (fun k hk=>hb.block k (h.iI k hk)) (h.Uc hj hb)) fun _=>.inl
 own j r b hj e:=let⟨h1,h2,h3⟩:=h.own j r b hj e;⟨h1,Nat.lt_of_lt_of_le h2 hb.size,fun q=>q.elim h3 fun q=>Nat.lt_irrefl _ (Nat.lt_of_lt_of_le h2 q.1)⟩
 apart:=h.apart
theorem gp.put (h:gp o w S f)(j:Nat)(r:Rs)(fq:r.ok S w)(hb:∀b,r.has b->o.new b/\b<w.heap.size/\¬S b/\∀i ri,i≠j->f i=some ri->¬ri.has b):gp o w S (eX f j (some r)) where
 pT:=h.pT
 src:=h.src
 iI:=h.iI
 ok i ri hi:=by
  unfold eX at hi
  split at hi
  .cases hi;exact fq
  exact h.ok i ri hi
 own i ri b hi e:=by
  unfold eX at hi
  split at hi
  .cases hi;obtain⟨h1,h2,h3,_⟩:=hb b e;exact⟨h1,h2,h3⟩
  exact h.own i ri b hi e
 apart i k ri rk b hi hk ei ek:=by
  unfold eX at hi hk
  split at hi<;>split at hk
  .rename_i a c;exact a.trans c.symm
  .rename_i a c;cases hi;exact((hb b ei).2.2.2 k rk c hk ek).elim
  .rename_i a c;cases hk;exact((hb b ek).2.2.2 i ri a hi ei).elim
  exact h.apart i k ri rk b hi hk ei ek
theorem gp.Mr (h:gp o w S f)(j:Nat){α:Type}[Data α]{v:Value}{a:α}(hr:Rd S w v a):gp o w S (eX f j (some (Rs.of (.ro v a)))):=h.put j _ hr fun b e=>by cases e
theorem gp.xP (h:gp o w S f)(j:Nat){r:Rs}(hr:r.ok S w)(hn:∀b,¬r.has b):gp o w S (eX f j (some r)):=h.put j r hr fun b e=>(hn b e).elim
theorem gp.Ms (h:gp o w S f)(j:Nat)(x:Obj)(r:Rs)(fq:r.ok S (w.alloc x))(hb:∀b,r.has b->b=w.heap.size):gp o (w.alloc x) S (eX f j (some r)):=by
 refine(h.on (kM w x)).put j r fq fun b e=>?_
 have e:=hb b e;subst e
 have dc:w.heap.size<(w.alloc x).heap.size:=by simp
 refine⟨bC.DU h.pT (Nat.le_refl _),dc,fun q=>Nat.lt_irrefl _ (h.iI _ q),fun i ri _ hi e=>Nat.lt_irrefl _ (h.own i ri _ hi e).2.1⟩
theorem gp.swap (h:gp o w S f){g:Nat->Option Rs}{N K:Nat->Prop}(hc:jZ w w' (fun b=> ∃j r,K j/\f j=some r/\r.has b))(hS:∀k,S k->S' k)
  (Xv:∀k,S' k->S k\/(((∃j r,K j/\f j=some r/\r.has k)\/w.heap.size<=k)/\k<w'.heap.size/\∀j r,N j->g j=some r->¬r.has k))
  (hold:∀j r,¬N j->g j=some r->¬K j/\f j=some r) (fq:∀j r,N j->g j=some r->r.ok S' w')
  (uH:∀j r b,N j->g j=some r->r.has b->((∃i ri,K i/\f i=some ri/\ri.has b)\/w.heap.size<=b)/\b<w'.heap.size)
  (Mt:∀i j ri rj b,N i->N j->g i=some ri->g j=some rj->ri.has b->rj.has b->i=j):gp o w' S' g:=by
 have Yn:∀b,(∃j r,K j/\f j=some r/\r.has b)->o.new b/\b<w.heap.size/\¬S b:=fun b ⟨j,r,_,h2,h3⟩=>h.own j r b h2 h3
 have hKo:∀j r b,¬K j->f j=some r->r.has b->¬ ∃i ri,K i/\f i=some ri/\ri.has b:=fun j r b hj hf hb ⟨i,ri,h1,h2,h3⟩=>hj (by rw[h.apart j i r ri b hf h2 hb h3];exact h1)
 have rV:cK S w w':=fun k hk=>hc.block k (h.iI k hk) fun q=>(Yn k q).2.2 hk
 refine⟨h.pT.trans hc fun j hj q=>?_,fun k hk=>?_,fun k hk=>?_,fun j r hj=>?_,fun j r b hj hb=>?_,fun i j ri rj b hi hj ei ej=>?_⟩
 .rcases(Yn j q).1 with q|q
  .omega
  exact q
 .rcases Xv k hk with q|⟨q,_⟩
  .exact h.src k q
  rcases q with q|q
  .exact .inr (Yn k q).1
  exact .inr (bC.DU h.pT q)
 .rcases Xv k hk with q|q
  .exact Nat.lt_of_lt_of_le (h.iI k q) hc.size
  exact q.2.1
 .by_cases hN:N j
  .exact fq j r hN hj
  obtain⟨h1,h2⟩:=hold j r hN hj
  exact r.up _ _ _ (r.keep _ _ _ (h.ok j r h2) rV fun b hb=>hc.block b (h.own j r b h2 hb).2.1 (hKo j r b h1 h2 hb)) hS
 .by_cases hN:N j
  .obtain⟨h1,h2⟩:=uH j r b hN hj hb
   refine⟨?_,h2,fun q=>?_⟩
   .rcases h1 with h1|h1
    .exact(Yn b h1).1
    exact bC.DU h.pT h1
   rcases Xv b q with q|⟨_,_,q⟩
   .rcases h1 with h1|h1
    .exact(Yn b h1).2.2 q
    have:=h.iI b q;omega
   exact q j r hN hj hb
  obtain⟨h1,h2⟩:=hold j r hN hj
  obtain⟨k1,k2,k3⟩:=h.own j r b h2 hb
  refine⟨k1,Nat.lt_of_lt_of_le k2 hc.size,fun q=>?_⟩
  rcases Xv b q with q|⟨q,_,_⟩
  .exact k3 q
  rcases q with q|q
  .exact hKo j r b h1 h2 hb q
  omega
 by_cases Vh:N i<;>by_cases hNj:N j
 .exact Mt i j ri rj b Vh hNj hi hj ei ej
 .obtain⟨h1,h2⟩:=hold j rj hNj hj
  rcases(uH i ri b Vh hi ei).1 with q|q
  .exact(hKo j rj b h1 h2 ej q).elim
  have:=(h.own j rj b h2 ej).2.1;omega
 .obtain⟨h1,h2⟩:=hold i ri Vh hi
  rcases(uH j rj b hNj hj ej).1 with q|q
  .exact(hKo i ri b h1 h2 ei q).elim
  have:=(h.own i ri b h2 ei).2.1;omega
 exact h.apart i j ri rj b (hold i ri Vh hi).2 (hold j rj hNj hj).2 ei ej
theorem gp.mut (h:gp o w S f)(j:Nat){r:Rs}(hj:f j=some r)(hg:jZ w w' r.has):gp o w' S (eX f j none):=by
 refine h.swap (N:=fun _=>False) (K:=fun i=>i=j) ⟨hg.os,hg.tape,hg.output,hg.size,fun k hk hn=>hg.block k hk fun q=>hn ⟨j,r,rfl,hj,q⟩⟩ (fun _ q=>q) (fun _ q=>.inl q) (fun i ri _ hi=>?_) (fun _ _ q=>q.elim) (fun _ _ _ q=>q.elim) (fun _ _ _ _ _ q=>q.elim)
 unfold eX at hi
 split at hi
 .cases hi
 rename_i cO;exact⟨cO,hi⟩
end
inductive Tr (α:Type 1):Type 1 where
 |ret (a:α)
 |fail
 |slot (t:Nat) (k:E2->Tr α)
 |res (j:Nat) (k:R2->Tr α)
def Tr.run {α:Type 1}(s:Nat->Option E2)(r:Nat->Option R2):Tr α->Option α
 | .ret a=>some a
 | .fail=>none
 | .slot t k=>match s t with
  |some e=>(k e).run s r
  |none=>none
 | .res j k=>match r j with
  |some x=>(k x).run s r
  |none=>none
theorem Tr.mono {α:Type 1}{s s':Nat->Option E2}{r r':Nat->Option R2}(hs:∀t e,s t=some e->s' t=some e)(hr:∀j x,r j=some x->r' j=some x):∀(T:Tr α) {a:α},T.run s r=some a->T.run s' r'=some a
 | .ret _,_,h=>h
 | .fail,_,h=>h
 | .slot t k,a,h=>by
  simp only[run] at h ⊢
  split at h
  .rename_i e he;rw[hs t e he];exact Tr.mono hs hr _ h
  cases h
 | .res j k,a,h=>by
  simp only[run] at h ⊢
  split at h
  .rename_i e he;rw[hr j e he];exact Tr.mono hs hr _ h
  cases h
structure Hid where
 lhs:bF->World->Result Value
 rhs:bF->World->Result Value
structure Out:Type 1 where
 cs:List Prop
 hs:List Hid
 sy:Sy
 re:List (Nat×Option R2)
def Rh:List Prop->Prop
 |[]=>True
 |[p]=>p
 |p::q::r=>p/\Rh (q::r)
theorem Il:∀ {l:List Prop},Rh l↔∀p∈l,p
 |[]=>by simp[Rh]
 |[p]=>by rw[List.forall_mem_singleton];rfl
 |p::q::r=>by
  show(p/\Rh (q::r))↔_
  rw[List.forall_mem_cons,Il]
def bX (i:Int)(n:Nat):Prop:=0<=i/\i<(n:Int)
theorem bd {i:Int}{n:Nat}(h:0<=i/\i<(n:Int):=by omega):bX i n:=h
theorem cz {n:Int}(h: -9223372036854775808<=n/\n<=9223372036854775807:=by omega):bR .i64 n:=h
def l7:Value->Sc
 | .bool b=>.b (.lit b)
 |v=>.v v
def zW:Value->Sy
 | .agg cs=>.agg (cs.toList.map l7)
 |v=>.one (l7 v)
def gV {α:Type 1}(C:List (Nat×Bool)):Operand->(Sy->Tr α)->Tr α
 | .tmp t,k=>.slot t fun e=>match e.ch.isPrefixOf C with
  |true=>k e.sy
  |false=>.fail
 | .const v,k=>k (zW v)
 | .func f,k=>k (.one (.mA f []))
 | .global _,_=>.fail
def Ki {α:Type 1}(C:List (Nat×Bool)):List Operand->(List Sy->Tr α)->Tr α
 |[],k=>k []
 |x::l,k=>gV C x fun s=>Ki C l fun r=>k (s::r)
def one (s:Sc):Tr Out:=.ret ⟨[],[],.one s,[]⟩
def o6 (p:Prop)(s:Sc):Tr Out:=.ret ⟨[p],[],.one s,[]⟩
def num (n:Int):Sc:=.v (.int .i64 n)
def bg {α:Type 1}(b:Bool)(T:Tr α):Tr α:=match b with
 |true=>T
 |false=>.fail
abbrev Im:Ty->Nat:=aF
theorem Mu (t:Ty):Im t=Data.size (El t):=b5 t
def bA (k:Bool):Nat->List l6->List Sc×List (Nat×Option R2)
 |_,[]=>([],[])
 |b,.i n::r=>let x:=bA k b r;(num n::x.1,x.2)
 |b,.b e::r=>let x:=bA k b r;(.b (.raw e)::x.1,x.2)
 |b,.s s::r=>let x:=bA k b r;(.v (.string s)::x.1,x.2)
 |b,.l t l::r=>let x:=bA k (b+1) r;(.own b::x.1,(b,some (match k with|true=>.ro t l|false=>.ar t l))::x.2)
 |b,.m q t m::r=>let x:=bA k (b+1) r;(.mp b::x.1,(b,some (match k with|true=>.mL q t m|false=>.wG q t m))::x.2)
 |b,.p t y::r=>let x:=bA k (b+1) r;(.pd b::x.1,(b,some (match k with|true=>.ext (.vC t y)|false=>.ext (.par t y)))::x.2)
def iu:R2->Option ((t:Ty)×List (El t))
 | .ro t l=>some ⟨t,l⟩
 | .ar t l=>some ⟨t,l⟩
 | .row _ t l=>some ⟨t,l⟩
 | .ext (.vw _ lo _ t l)=>some ⟨t,l.drop lo⟩
 |_=>none
def DV:R2->Option ((k:Kc)×(t:Ty)×bh k (El t))
 | .mL k t m=>some ⟨k,t,m⟩
 | .wG k t m=>some ⟨k,t,m⟩
 | .map k t m=>some ⟨k,t,m⟩
 |_=>none
def Io:R2->Option ((t:Ty)×List (El t))
 | .ext (.nest _ _ _ t _ l)=>some ⟨t,l⟩
 |x=>iu x
def Ud:R2->Option ((t:Ty)×List (El t))
 | .ext (.nest _ none _ t _ l)=>some ⟨t,l⟩
 |x=>iu x
def aaK:R2->Option ((k:Kc)×(t:Ty)×bh k (El t))
 | .ext (.ff _ k _ t _ m)=>some ⟨k,.list t,m⟩
 |x=>DV x
def Gi:R2->Option ((k:Kc)×(t:Ty)×bh k (El t))
 | .ext (.ff _ k none t _ m)=>some ⟨k,.list t,m⟩
 |x=>DV x
def DW:R2->Option ((t:Ty)×l5 (El t))
 | .ext (.vC t x)=>some ⟨t,x⟩
 | .ext (.par t x)=>some ⟨t,x⟩
 |_=>none
def Mv:R2->Option ((t:Ty)×El t)
 | .ext (.DR t x)=>some ⟨t,x⟩
 | .ext (.zN t x)=>some ⟨t,x⟩
 |_=>none
def gx:R2->Bool
 | .ar _ _=>false
 | .wG _ _ _=>false
 | .ext (.par _ _)=>false
 | .ext (.zN _ _)=>false
 |_=>true
def arith (op:BinOp)(k:IntKind)(a b:Int):Tr Out:=
 match op with
 | .add=>o6 (bR k (a+b)) (.v (.int k (a+b)))
 | .sub=>o6 (bR k (a-b)) (.v (.int k (a-b)))
 | .mul=>o6 (bR k (a*b)) (.v (.int k (a*b)))
 | .quo=>o6 (0<=a/\0<b/\bR k a) (.v (.int k (a/b)))
 | .rem=>o6 (0<=a/\0<b) (.v (.int k (a%b)))
 | .eql=>one (.b (.dec (a=b) inferInstance))
 | .neq=>one (.b (.not (.dec (a=b) inferInstance)))
 | .lss=>one (.b (.dec (a<b) inferInstance))
 | .leq=>one (.b (.dec (a<=b) inferInstance))
 | .gtr=>one (.b (.dec (b<a) inferInstance))
 | .geq=>one (.b (.dec (b<=a) inferInstance))
 | .shr=>bg (decide (k= .u64) && decide (b=1)) (one (.v (.int .u64 (a/2))))
 | .xor=>bg (decide (k= .i64) && decide (b=1)) (o6 (0<=a/\a<=9223372036854775807) (.v (.int .i64 (if a%2=0 then a+1 else a-1))))
 |_=>.fail
def Vi (P:Program)(op:BinOp)(t:TypeId):Sy->Sy->Tr Out
 | .one (.v (.int k a)),.one (.v (.int k' b))=>bg (decide (k=k')) (arith op k a b)
 | .one (.v (.string a)),.one (.v (.string b))=>match op with
  | .add=>o6 (a.size+b.size<=9223372036854775807) (.v (.string (a++b)))
  | .eql=>one (.b (.dec (a=b) inferInstance))
  | .neq=>one (.b (.not (.dec (a=b) inferInstance)))
  |_=>.fail
 | .one (.pd j),.one (.v (.pointer none))=>match P.underlying t,op with
  |some (.pointer _),.eql=>.res j fun x=>match DW x with
   |some ⟨t',y⟩=>one (.b (.raw (show Option (El t') from y).isNone))
   |none=>.fail
  |some (.pointer _),.neq=>.res j fun x=>match DW x with
   |some ⟨t',y⟩=>one (.b (.raw (show Option (El t') from y).isSome))
   |none=>.fail
  |_,_=>.fail
 | .one (.ptr j off),.one (.v (.pointer none))=>match P.underlying t,op with
  |some (.pointer _),.eql=>one (.b (.lit false))
  |some (.pointer _),.neq=>one (.b (.lit true))
  |_,_=>.fail
 | .one (.mA _ _),.one (.v .nilFunc)=>match P.underlying t,op with
  |some (.func _ _ _),.eql=>one (.b (.lit false))
  |some (.func _ _ _),.neq=>one (.b (.lit true))
  |_,_=>.fail
 | .one (.b a),.one (.b b)=>match P.underlying t,op with
  |some .bool,.eql=>one (.b (.raw (a.den==b.den)))
  |some .bool,.neq=>one (.b (.not (.raw (a.den==b.den))))
  |_,_=>.fail
 |_,_=>.fail
def vD (j q:Nat)(i:Int)(sz:Nat):Nat->List l6->Option (List Sc)
 |_,[]=>some []
 |c,.i n::r=>(vD j q i sz (c+1) r).map (num n:: ·)
 |c,.b e::r=>(vD j q i sz (c+1) r).map (.b (.raw e):: ·)
 |c,.s s::r=>(vD j q i sz (c+1) r).map (.v (.string s):: ·)
 |c,.l _ _::r=>(vD j q i sz (c+1) r).map (.hd j q (.el i sz c):: ·)
 |_,.m _ _ _::_=>none
 |_,.p _ _::_=>none
def abS (P:Program)(t:TypeId)(n:Nat)(one:Tr Out)(many:Tr Out):Tr Out:=
 match P.underlying t with
 |some (.struct _)=>bg ((P.info? t).isSome && Nat.beq n (P.cellsOf t)) many
 |some (.array _ _)=>.fail
 |some _=>one
 |none=>.fail
def DX (P:Program)(k:Bool)(b:Nat)(t:TypeId)(cs:List l6)(off:Nat):Tr Out:=
 match P.underlying t with
 |some (.struct _)=>
  let c:=bA k b ((cs.drop off).take (P.cellsOf t))
  bg ((P.info? t).isSome && Nat.beq c.1.length (P.cellsOf t)) (.ret ⟨[],[],.agg c.1,c.2⟩)
 |some (.array _ _)=>.fail
 |some _=>match cs[off]? with
  |some c=>match bA k b [c] with
   |([s],re)=>.ret ⟨[],[],.one s,re⟩
   |_=>.fail
  |none=>.fail
 |none=>.fail
def Mw (P:Program)(b:Nat)(t:TypeId):Sy->Tr Out
 | .one (.ptr j off)=>.res j fun x=>match x with
  | .box _ cs=>match P.underlying t with
   |some (.struct _)=>bg ((P.info? t).isSome && Nat.beq ((cs.drop off).take (P.cellsOf t)).length (P.cellsOf t)) (.ret ⟨[],[],.agg ((cs.drop off).take (P.cellsOf t)),[]⟩)
   |some (.array _ _)=>.fail
   |some _=>match cs[off]? with
    |some s=>one s
    |none=>.fail
   |none=>.fail
  | .ext (.DR t' y)=>DX P true b t (bl t' y) off
  | .ext (.zN t' y)=>DX P false b t (bl t' y) off
  |_=>.fail
 | .one (.el j i sz off)=>.res j fun x=>match x with
  | .ext (.nest q none _ t' _ l)=>bg (Nat.beq (Im t') sz) (match P.underlying t with
   |some (.struct _)=>match vD j q i sz off (((bl t' (l.getD i.toNat (sr t'))).drop off).take (P.cellsOf t)) with
    |some c=>bg ((P.info? t).isSome && Nat.beq c.length (P.cellsOf t)) (.ret ⟨[],[],.agg c,[]⟩)
    |none=>.fail
   |some (.array _ _)=>.fail
   |some _=>match(bl t' (l.getD i.toNat (sr t')))[off]? with
    |some c=>match vD j q i sz off [c] with
     |some [s]=>one s
     |_=>.fail
    |none=>.fail
   |none=>.fail)
  |x=>match iu x with
   |some ⟨t',l⟩=>bg (Nat.beq (Im t') sz) (DX P (gx x) b t (bl t' (l.getD i.toNat (sr t'))) off)
   |none=>.fail
 |_=>.fail
def Mx (C:List (Nat×Bool))(c x y:Operand):Tr Out:=
 match c with
 | .tmp t=>gV C c fun s=>match s with
  | .one (.b (.lit true))=>gV C x fun r=>.ret ⟨[],[],r,[]⟩
  | .one (.b (.lit false))=>gV C y fun r=>.ret ⟨[],[],r,[]⟩
  | .one (.b e)=>match x,y with
   | .const (.bool true),y=>gV (C++[(t,false)]) y fun r=>match r with
    | .one (.b q)=>one (.b (.or e q))
    |_=>.fail
   |x,.const (.bool false)=>gV (C++[(t,true)]) x fun r=>match r with
    | .one (.b p)=>one (.b (.and e p))
    |_=>.fail
   |_,_=>.fail
  |_=>.fail
 |_=>.fail
def Vj {α:Type 1}(l:List Sc)(k:Int->List Sc->Tr α):Tr α:=match l with
 | .v (.int .i64 m)::l=>k m l
 |_=>.fail
def My {α:Type 1}(l:List Sc)(k:Bool->List Sc->Tr α):Tr α:=match l with
 | .b e::l=>k e.den l
 |_=>.fail
def Vk {α:Type 1}(l:List Sc)(k:ByteArray->List Sc->Tr α):Tr α:=match l with
 | .v (.string m)::l=>k m l
 |_=>.fail
def Mz {α:Type 1}(t:Ty)(l:List Sc)(k:List (El t)->List Sc->Tr α):Tr α:=match l with
 | .own j::l=>.res j fun x=>match Ud x with
  |some ⟨t',y⟩=>match iN (t:=.list t') (s:=.list t) y with
   |some z=>k z l
   |none=>.fail
  |none=>.fail
 | .v (.slice none 0 0)::l=>k [] l
 |_=>.fail
def Vl {α:Type 1}(k:Kc)(t:Ty)(l:List Sc)(c:bh k (El t)->List Sc->Tr α):Tr α:=match l with
 | .mp j::l=>.res j fun x=>match Gi x with
  |some ⟨k',t',y⟩=>match iN (t:=.map k' t') (s:=.map k t) y with
   |some z=>c z l
   |none=>.fail
  |none=>.fail
 | .v (.map none)::l=>c ([]:List (bL k×El t)) l
 |_=>.fail
def Vm {α:Type 1}(t:Ty)(l:List Sc)(c:l5 (El t)->List Sc->Tr α):Tr α:=match l with
 | .pd j::l=>.res j fun x=>match DW x with
  |some ⟨t',y⟩=>match iN (t:=.ptr t') (s:=.ptr t) y with
   |some z=>c z l
   |none=>.fail
  |none=>.fail
 | .ptr j off::l=>match off with
  |0=>.res j fun x=>match Mv x with
   |some ⟨t',y⟩=>match iN (t:=t') (s:=t) y with
    |some z=>c (some z:Option (El t)) l
    |none=>.fail
   |none=>.fail
  |_=>.fail
 | .v (.pointer none)::l=>c (none:Option (El t)) l
 |_=>.fail
def Gj {α:Type 1}:(t:Ty)->List Sc->(El t->List Sc->Tr α)->Tr α
 | .int,l,k=>Vj l k
 | .bool,l,k=>My l k
 | .str,l,k=>Vk l k
 | .list t,l,k=>Mz t l k
 | .map q t,l,k=>Vl q t l k
 | .ptr t,l,k=>Vm t l k
 | .pair p q,l,k=>Gj p l fun x l'=>Gj q l' fun y l''=>k (x,y) l''
def jC {α:Type 1}(t:Ty)(y:Sy)(k:El t->Tr α):Tr α:=
 match y,cG t with
 | .one c,false=>Gj t [c] fun x l=>match l with
  |[]=>k x
  |_=>.fail
 | .agg cs,true=>Gj t cs fun x l=>match l with
  |[]=>k x
  |_=>.fail
 |_,_=>.fail
def vE:(k:Kc)->Sy->Option (bL k)
 | .int,.one (.v (.int .i64 n))=>some (show Int from n)
 | .str,.one (.v (.string s))=>some (show ByteArray from s)
 |_,_=>none
def mB (P:Program)(kt:TypeId):Kc->Bool
 | .int=>match P.underlying kt with
  |some (.int .i64)=>true
  |_=>false
 | .str=>match P.underlying kt with
  |some .string=>true
  |_=>false
def xQ (P:Program)(t:TypeId):Option Sy:=match P.info? t with
 |some i=>i.zero.map zW
 |none=>none
def jf (P:Program)(t:TypeId)(y:Sy):Hid:=⟨fun _ w=>(zeroValue t).run P w,fun A w=>.ok (y.den A) w⟩
def AE (P:Program)(b:Nat)(t:TypeId)(ok:Bool)(p q:Sy):Tr Out:=
 match P.underlying t with
 |some (.map kt et)=>match p with
  | .one (.mp j)=>.res j fun r=>match r with
   | .ext (.ff qf k none _ _ m)=>match vE k q with
    |some x=>bg (mB P kt k) (match ok with
     |true=>.ret ⟨[cA k x],[jf P et (.one (.v (.slice none 0 0)))],.mU [(false,[.hd j qf (.ky k x)]),(false,[.b (.raw (aG m x).isSome)])],[]⟩
     |false=>.ret ⟨[cA k x],[jf P et (.one (.v (.slice none 0 0)))],.one (.hd j qf (.ky k x)),[]⟩)
    |none=>.fail
   |r=>match DV r with
   |some ⟨k,ty,m⟩=>match vE k q,xQ P et with
    |some x,some z=>bg (mB P kt k) (jC ty z fun x0=>
     let c:=bA (gx r) b (bl ty ((aG m x).getD x0))
     match ok with
     |true=>.ret ⟨[cA k x],[jf P et z],.mU [(cG ty,c.1),(false,[.b (.raw (aG m x).isSome)])],c.2⟩
     |false=>match cG ty,c.1 with
      |true,cs=>.ret ⟨[cA k x],[jf P et z],.agg cs,c.2⟩
      |false,[s]=>.ret ⟨[cA k x],[jf P et z],.one s,c.2⟩
      |_,_=>.fail)
    |_,_=>.fail
   |none=>.fail
  |_=>.fail
 |_=>.fail
def jD (P:Program)(C:List (Nat×Bool))(b:Nat):Op->Tr Out
 | .move x=>gV C x fun s=>.ret ⟨[],[],s,[]⟩
 | .assign x=>gV C x fun s=>.ret ⟨[],[],s,[]⟩
 | .unOp .not _ x=>gV C x fun s=>match s with
  | .one (.b e)=>one (.b (.not e))
  |_=>.fail
 | .extract x i=>gV C x fun s=>match s with
  | .mU ps=>match ps[i]? with
   |some (true,cs)=>.ret ⟨[],[],.agg cs,[]⟩
   |some (false,[c])=>one c
   |_=>.fail
  |_=>.fail
 | .nilCheck x=>gV C x fun s=>match s with
  | .one (.ptr j off)=>one (.ptr j off)
  | .one (.el j i sz off)=>one (.el j i sz off)
  | .one (.pd j)=>.res j fun x=>match x with
   | .ext (.vC t y)=>.ret ⟨[(show Option (El t) from y).isSome=true],[],.one (.ptr b 0),[(b,some (.ext (.DR t ((show Option (El t) from y).getD (sr t)))))]⟩
   | .ext (.par t y)=>.ret ⟨[(show Option (El t) from y).isSome=true],[],.one (.ptr b 0),[(b,some (.ext (.zN t ((show Option (El t) from y).getD (sr t)))))]⟩
   |_=>.fail
  |_=>.fail
 | .binOp op t x y _=>gV C x fun p=>gV C y fun q=>Vi P op t p q
 | .convert s d x=>match P.underlying s,P.underlying d with
  |some (.int _),some (.int k)=>gV C x fun p=>match p with
   | .one (.v (.int _ n))=>o6 (bR k n) (.v (.int k n))
   |_=>.fail
  |_,_=>.fail
 | .index t x i=>match P.underlying t with
  |some .string=>gV C x fun p=>gV C i fun q=>match p,q with
   | .one (.v (.string s)),.one (.v (.int _ n))=>o6 (bX n s.size) (.v (.int .u8 (H7 s n)))
   |_,_=>.fail
  |_=>.fail
 | .indexAddr t x i=>match P.underlying t with
  |some (.slice e)=>gV C x fun p=>gV C i fun q=>match p,q with
   | .one (.own j),.one (.v (.int _ n))=>.res j fun r=>match Io r with
    |some ⟨t',l⟩=>bg ((P.info? e).isSome) (o6 (bX n l.length) (.el j n (P.cellsOf e) 0))
    |none=>.fail
   |_,_=>.fail
  |_=>.fail
 | .fieldAddr t x f=>match P.underlying t with
  |some (.struct fs)=>match fs[f]? with
   |some fd=>bg (Nat.blt 0 (P.cellsOf fd.type)) (gV C x fun p=>match p with
    | .one (.ptr j off)=>one (.ptr j (off+fd.offset))
    | .one (.el j i sz off)=>one (.el j i sz (off+fd.offset))
    |_=>.fail)
   |none=>.fail
  |_=>.fail
 | .load t x=>gV C x fun p=>Mw P b t p
 | .field t x f=>match P.underlying t with
  |some (.struct fs)=>match fs[f]? with
   |some fd=>gV C x fun p=>match p with
    | .agg cs=>match P.underlying fd.type with
     |some (.struct _)=>bg ((P.info? fd.type).isSome) (.ret ⟨[],[],.agg ((cs.drop fd.offset).take (P.cellsOf fd.type)),[]⟩)
     |some (.array _ _)=>.fail
     |some _=>match cs[fd.offset]? with
      |some s=>one s
      |none=>.fail
     |none=>.fail
    |_=>.fail
   |none=>.fail
  |_=>.fail
 | .pick c x y=>Mx C c x y
 | .call c=>match c.callee,c.args.toList with
  | .builtin .len,[x]=>match(c.argTypes[0]?).bind P.underlying with
   |some .string=>gV C x fun p=>match p with
    | .one (.v (.string s))=>one (num (s.size:Int))
    |_=>.fail
   |some (.slice _)=>gV C x fun p=>match p with
    | .one (.own j)=>.res j fun r=>match Io r with
     |some ⟨t',l⟩=>one (num (l.length:Int))
     |none=>.fail
    | .one (.v (.slice none 0 0))=>one (num 0)
    |_=>.fail
   |_=>.fail
  | .builtin .max,[x,y]=>gV C x fun p=>gV C y fun q=>match p,q with
   | .one (.v (.int .i64 a)),.one (.v (.int .i64 b))=>one (num (max a b))
   |_,_=>.fail
  | .builtin .min,[x,y]=>gV C x fun p=>gV C y fun q=>match p,q with
   | .one (.v (.int .i64 a)),.one (.v (.int .i64 b))=>one (num (min a b))
   |_,_=>.fail
  |_,_=>.fail
 |_=>.fail
theorem pU (A:bF)(v:Value):(l7 v).den A=v:=by unfold l7;split<;>rfl
theorem MA (A:bF)(v:Value):(zW v).den A=v:=by
 unfold zW
 split
 .rename_i cs
  simp only[Sy.den,List.map_map]
  have:(Sc.den A∘l7)=id:=by funext x;exact pU A x
  rw[this,List.map_id]
 exact pU A _
def Sc.b7 (A:bF):Sc->Prop
 | .el j i _ _=>DC (A.v j) i
 |_=>True
def Sy.b7 (A:bF):Sy->Prop
 | .one s=>s.b7 A
 | .agg cs=> ∀c∈cs,c.b7 A
 | .mU ps=> ∀p∈ps,∀c∈p.2,c.b7 A
def R2.b7 (A:bF):R2->Prop
 | .box _ cs=> ∀c∈cs,c.b7 A
 |_=>True
theorem nc (A:bF)(v:Value):(l7 v).b7 A:=by unfold l7;split<;>trivial
theorem pV (F:Nat->Prop)(v:Value):(l7 v).all F:=by unfold l7;split<;>trivial
theorem Kj (A:bF)(v:Value):(zW v).b7 A:=by
 unfold zW
 split
 .intro c hc;obtain⟨x,_,rfl⟩:=List.mem_map.1 hc;exact nc A x
 exact nc A _
theorem MB (F:Nat->Prop)(v:Value):(zW v).all F:=by
 unfold zW
 split
 .intro c hc;obtain⟨x,_,rfl⟩:=List.mem_map.1 hc;exact pV F x
 exact pV F _
theorem Sc.dH {F:Nat->Prop}{A B:bF}(h:cR F A B):∀ {s:Sc},s.all F->s.b7 A->s.b7 B
 | .el j i _ _,k,g=>by simp only[b7] at g ⊢;rw[<-(h j k).1];exact g
 | .v _,_,_=>trivial
 | .b _,_,_=>trivial
 | .own _,_,_=>trivial
 | .mp _,_,_=>trivial
 | .ptr _ _,_,_=>trivial
 | .mA _ _,_,_=>trivial
 | .hd _ _ _,_,_=>trivial
 | .pd _,_,_=>trivial
theorem Sy.dH {F:Nat->Prop}{A B:bF}(h:cR F A B):∀ {s:Sy},s.all F->s.b7 A->s.b7 B
 | .one _,k,g=>Sc.dH h k g
 | .agg _,k,g=>fun c hc=>Sc.dH h (k c hc) (g c hc)
 | .mU _,k,g=>fun p hp c hc=>Sc.dH h (k p hp c hc) (g p hp c hc)
theorem R2.dH {F:Nat->Prop}{A B:bF}(h:cR F A B):∀ {s:R2},s.all F->s.b7 A->s.b7 B
 | .box _ _,k,g=>fun c hc=>Sc.dH h (k c hc) (g c hc)
 | .ro _ _,_,_=>trivial
 | .ar _ _,_,_=>trivial
 | .row _ _ _,_,_=>trivial
 | .mL _ _ _,_,_=>trivial
 | .wG _ _ _,_,_=>trivial
 | .map _ _ _,_,_=>trivial
 | .iter _ _ _ _ _ _,_,_=>trivial
 | .ext _,_,_=>trivial
abbrev bw (A:bF)(r:Nat->Option R2):Nat->Option Rs:=fun j=>(r j).map (R2.den A j)
def tj (o:bC)(A:bF)(j:Nat):R2->Prop
 | .ar _ x=>Rd o.old o.w (A.v j) x
 | .wG _ _ x=>Rd o.old o.w (.map (A.m j)) x
 | .ext (.par _ x)=>Rd o.old o.w (.pointer (A.p j)) x
 | .ext (.zN _ x)=>gG o.old o.w (A.b j) x
 |_=>True
theorem tj.congr {o:bC}{F:Nat->Prop}{A B:bF}(h:cR F A B){j:Nat}(k:F j):∀ {x:R2},tj o A j x->tj o B j x
 | .ar _ _,q=>by show Rd _ _ _ _;rw[<-(h j k).1];exact q
 | .wG _ _ _,q=>by show Rd _ _ _ _;rw[<-(h j k).2.2.2];exact q
 | .ext (.par _ _),q=>by show Rd _ _ _ _;rw[<-h.p k];exact q
 | .ext (.zN _ _),q=>by show gG _ _ _ _;rw[<-(h j k).2.1];exact q
 | .ro _ _,_=>trivial
 | .row _ _ _,_=>trivial
 | .box _ _,_=>trivial
 | .mL _ _ _,_=>trivial
 | .map _ _ _,_=>trivial
 | .iter _ _ _ _ _ _,_=>trivial
 | .ext (.nest _ _ _ _ _ _),_=>trivial
 | .ext (.ff _ _ _ _ _ _),_=>trivial
 | .ext (.vC _ _),_=>trivial
 | .ext (.DR _ _),_=>trivial
 | .ext (.DS _ _ _ _ _),_=>trivial
 | .ext (.DT _),_=>trivial
 | .ext (.vw _ _ _ _ _),_=>trivial
 | .ext (.fwd _),_=>trivial
structure cv (o:bC)(n:Nat)(A:bF)(S:aL)(F:Nat->Prop)(s:Nat->Option E2)(r:Nat->Option R2)(a:Act)(w:World):Prop where
 size:a.tmps.size=n
 fh:a.defers=[]
 env:∀t e,s t=some e->DH a ⟨t,e.ch,e.sy.den A⟩
 l8:∀t e,s t=some e->jy a e.ch->e.sy.all F/\e.sy.b7 A
 dB:∀j x,r j=some x->F j/\x.all F/\x.b7 A
 bB:gp o w S (bw A r)
 args:∀j x,r j=some x->tj o A j x
 s8:(∀j,o.pF j->F j)/\cR o.pF o.pA A
def Ue (o:bC)(S:aL)(w:World)(A:bF)(j:Nat):R2->Prop
 | .ro _ x=>Rd S w (A.v j) x
 | .ar _ x=>Rd o.old o.w (A.v j) x
 | .mL _ _ x=>Rd S w (.map (A.m j)) x
 | .wG _ _ x=>Rd o.old o.w (.map (A.m j)) x
 | .ext (.vC _ x)=>Rd S w (.pointer (A.p j)) x
 | .ext (.par _ x)=>Rd o.old o.w (.pointer (A.p j)) x
 | .ext (.DR _ x)=>gG S w (A.b j) x
 | .ext (.zN _ x)=>gG o.old o.w (A.b j) x
 |_=>False
def jS (o:bC)(S:aL)(w:World)(A:bF):Nat->List (Nat×Option R2)->Prop
 |_,[]=>True
 |b,p::l=>b<=p.1/\(∃x,p.2=some x/\Ue o S w A p.1 x)/\jS o S w A (p.1+1) l
theorem jS.aaL {o:bC}{S:aL}{w:World}{A:bF}{b b':Nat}(h:b<=b'):∀ {l:List (Nat×Option R2)},jS o S w A b' l->jS o S w A b l
 |[],_=>trivial
 |_::_,k=>⟨Nat.le_trans h k.1,k.2⟩
def FU (F:Nat->Prop)(re:List (Nat×Option R2)):Nat->Prop:=fun j=>F j\/∃x,(j,x)∈re
def wH (o:bC)(S:aL)(w:World)(k:Bool)(vs:List Value)(cs:List l6):Prop:=match k with
 |true=>bV S w vs cs
 |false=>bV o.old o.w vs cs
theorem wH.cons {o:bC}{S:aL}{w:World}{k:Bool}{v:Value}{vs:List Value}{c:l6}{cs:List l6}(h:wH o S w k (v::vs) (c::cs)):(match k with|true=>kR S w v c|false=>kR o.old o.w v c)/\wH o S w k vs cs:=by
 cases k<;>exact h
theorem wH.Kk {o:bC}{S:aL}{w:World}{k:Bool}{c:l6}{cs:List l6}(h:wH o S w k [] (c::cs)):False:=by cases k<;>exact h
theorem wH.aaM {o:bC}{S:aL}{w:World}{k:Bool}{v:Value}{vs:List Value}(h:wH o S w k (v::vs) []):False:=by cases k<;>exact h
theorem fH {o:bC}{S:aL}{w:World}{k:Bool}{B:Nat}:∀(cs:List l6) (vs:List Value) (b:Nat) (A:bF) (F:Nat->Prop),wH o S w k vs cs->(∀j,b<=j->j<B->¬F j)->(∀p∈(bA k b cs).2,p.1<B)->
  ∃A',cR F A A'/\(bA k b cs).1.map (Sc.den A')=vs/\jS o S w A' b (bA k b cs).2/\∀s∈(bA k b cs).1,s.all (FU F (bA k b cs).2)/\s.b7 A'
 |[],[],b,A,F,_,_,_=>⟨A,cR.refl _ _,rfl,tv,fun _ h=>by cases h⟩
 |[],_::_,_,_,_,h,_,_=>h.aaM.elim
 | .i n::r,[],_,_,_,h,_,_=>h.Kk.elim
 | .b n::r,[],_,_,_,h,_,_=>h.Kk.elim
 | .s n::r,[],_,_,_,h,_,_=>h.Kk.elim
 | .l t n::r,[],_,_,_,h,_,_=>h.Kk.elim
 | .m q t n::r,[],_,_,_,h,_,_=>h.Kk.elim
 | .p t n::r,[],_,_,_,h,_,_=>h.Kk.elim
 | .i n::r,v::vs,b,A,F,h,hF,hB=>by
  obtain⟨A',h1,h2,h3,h4⟩:=fH r vs b A F h.cons.2 hF hB
  have hv:v= .int .i64 n:=by cases k<;>exact h.1
  refine⟨A',h1,by show Sc.den A' _::_=_;rw[h2,hv];rfl,h3,fun s hs=>?_⟩
  rcases List.mem_cons.1 hs with rfl|hs
  .exact⟨tv,tv⟩
  exact h4 s hs
 | .b n::r,v::vs,b,A,F,h,hF,hB=>by
  obtain⟨A',h1,h2,h3,h4⟩:=fH r vs b A F h.cons.2 hF hB
  have hv:v= .bool n:=by cases k<;>exact h.1
  refine⟨A',h1,by show Sc.den A' _::_=_;rw[h2,hv];rfl,h3,fun s hs=>?_⟩
  rcases List.mem_cons.1 hs with rfl|hs
  .exact⟨tv,tv⟩
  exact h4 s hs
 | .s n::r,v::vs,b,A,F,h,hF,hB=>by
  obtain⟨A',h1,h2,h3,h4⟩:=fH r vs b A F h.cons.2 hF hB
  have hv:v= .string n:=by cases k<;>exact h.1
  refine⟨A',h1,by show Sc.den A' _::_=_;rw[h2,hv];rfl,h3,fun s hs=>?_⟩
  rcases List.mem_cons.1 hs with rfl|hs
  .exact⟨tv,tv⟩
  exact h4 s hs
 | .l t n::r,v::vs,b,A,F,h,hF,hB=>by
  obtain⟨p,c,hv⟩:∃p c,v= .slice p n.length c:=by
   cases k
   .obtain⟨p,c,hv,_⟩:=cq (show Rd o.old o.w v n from h.1);exact⟨p,c,hv⟩
   obtain⟨p,c,hv,_⟩:=cq (show Rd S w v n from h.1);exact⟨p,c,hv⟩
  have hA:=cR.set (A:=A) (F:=F) (j:=b) (hF b (Nat.le_refl _) (hB _ List.mem_cons_self)) p n.length c 0
  obtain⟨A',h1,h2,h3,h4⟩:=fH r vs (b+1) (A.set b p n.length c 0) (fun j=>F j\/j=b) h.cons.2 (fun j hj hB hn=>by
   rcases hn with hn|hn
   .exact hF j (by omega) hB hn
   omega) (fun p hp=>hB p (List.mem_cons_of_mem _ hp))
  have hb:(A'.v b)=v:=by rw[<-(h1 b (.inr rfl)).1,bF.ku,hv]
  refine⟨A',hA.trans (h1.mono fun j hj=>.inl hj),by show Sc.den A' (.own b)::_=_;rw[h2];simp only[Sc.den,hb],⟨Nat.le_refl _,⟨_,rfl,by
   cases k
   .show Rd _ _ (A'.v b) _;rw[hb];exact h.1
   show Rd _ _ (A'.v b) _;rw[hb];exact h.1⟩,h3⟩,fun s hs=>?_⟩
  rcases List.mem_cons.1 hs with rfl|hs
  .exact⟨.inr ⟨_,List.mem_cons_self⟩,tv⟩
  refine⟨Sc.mono (fun j hj=>?_) (h4 s hs).1,(h4 s hs).2⟩
  rcases hj with(hj|hj)|⟨x,hx⟩
  .exact .inl hj
  .subst hj;exact .inr ⟨_,List.mem_cons_self⟩
  exact .inr ⟨x,List.mem_cons_of_mem _ hx⟩
 | .m q t n::r,v::vs,b,A,F,h,hF,hB=>by
  obtain⟨y,hv⟩:∃y,v= .map y:=by
   cases k
   .obtain⟨y,hv,_⟩:=sq (show Rd o.old o.w v n from h.1);exact⟨y,hv⟩
   obtain⟨y,hv,_⟩:=sq (show Rd S w v n from h.1);exact⟨y,hv⟩
  have hA:=cR.aQ (A:=A) (F:=F) (j:=b) (hF b (Nat.le_refl _) (hB _ List.mem_cons_self)) y
  obtain⟨A',h1,h2,h3,h4⟩:=fH r vs (b+1) (A.aQ b y) (fun j=>F j\/j=b) h.cons.2 (fun j hj hB hn=>by
   rcases hn with hn|hn
   .exact hF j (by omega) hB hn
   omega) (fun p hp=>hB p (List.mem_cons_of_mem _ hp))
  have hb:(.map (A'.m b))=v:=by rw[<-(h1 b (.inr rfl)).2.2.2,bF.xN,hv]
  refine⟨A',hA.trans (h1.mono fun j hj=>.inl hj),by show Sc.den A' (.mp b)::_=_;rw[h2];simp only[Sc.den,hb],⟨Nat.le_refl _,⟨_,rfl,by
   cases k
   .show Rd _ _ (.map (A'.m b)) _;rw[hb];exact h.1
   show Rd _ _ (.map (A'.m b)) _;rw[hb];exact h.1⟩,h3⟩,fun s hs=>?_⟩
  rcases List.mem_cons.1 hs with rfl|hs
  .exact⟨.inr ⟨_,List.mem_cons_self⟩,tv⟩
  refine⟨Sc.mono (fun j hj=>?_) (h4 s hs).1,(h4 s hs).2⟩
  rcases hj with(hj|hj)|⟨x,hx⟩
  .exact .inl hj
  .subst hj;exact .inr ⟨_,List.mem_cons_self⟩
  exact .inr ⟨x,List.mem_cons_of_mem _ hx⟩
 | .p t n::r,v::vs,b,A,F,h,hF,hB=>by
  obtain⟨y,hv⟩:∃y,v= .pointer y:=by
   cases k
   .exact(od (show Rd o.old o.w v n from h.1)).val
   exact(od (show Rd S w v n from h.1)).val
  have hA:=cR.set (A:=A) (F:=F) (j:=b) (hF b (Nat.le_refl _) (hB _ List.mem_cons_self)) y 0 0 0
  obtain⟨A',h1,h2,h3,h4⟩:=fH r vs (b+1) (A.set b y 0 0 0) (fun j=>F j\/j=b) h.cons.2 (fun j hj hB hn=>by
   rcases hn with hn|hn
   .exact hF j (by omega) hB hn
   omega) (fun p hp=>hB p (List.mem_cons_of_mem _ hp))
  have hb:(.pointer (A'.p b))=v:=by rw[<-h1.p (.inr rfl),bF.Ym,hv]
  refine⟨A',hA.trans (h1.mono fun j hj=>.inl hj),by show Sc.den A' (.pd b)::_=_;rw[h2];simp only[Sc.den,hb],⟨Nat.le_refl _,⟨_,rfl,by
   cases k
   .show Rd _ _ (.pointer (A'.p b)) _;rw[hb];exact h.1
   show Rd _ _ (.pointer (A'.p b)) _;rw[hb];exact h.1⟩,h3⟩,fun s hs=>?_⟩
  rcases List.mem_cons.1 hs with rfl|hs
  .exact⟨.inr ⟨_,List.mem_cons_self⟩,tv⟩
  refine⟨Sc.mono (fun j hj=>?_) (h4 s hs).1,(h4 s hs).2⟩
  rcases hj with(hj|hj)|⟨x,hx⟩
  .exact .inl hj
  .subst hj;exact .inr ⟨_,List.mem_cons_self⟩
  exact .inr ⟨x,List.mem_cons_of_mem _ hx⟩
section
variable {P:Program}{o:bC}{n:Nat}{A:bF}{S:aL}{F:Nat->Prop}{s:Nat->Option E2}{r:Nat->Option R2}{a:Act}{w:World}{C:List (Nat×Bool)}{b:Nat}
theorem qL (H:cv o n A S F s r a w){j:Nat}{x:R2}(hj:r j=some x){t:Ty}{l:List (El t)}(hx:iu x=some ⟨t,l⟩):Rd (· <w.heap.size) w (A.v j) l:=by
 have hm:bw A r j=some (x.den A j):=by simp[bw,hj]
 cases x with
 |ro t' l'=>cases hx;exact Rd.up H.bB.iI (H.bB.ok j _ hm)
 |ar t' l'=>cases hx;exact(Rd.keep H.bB.old (H.args j _ hj)).up fun _ hk=>Nat.lt_of_lt_of_le hk.1 H.bB.pT.size
 |row e t' l'=>cases hx;exact(dg.rd (H.bB.ok j _ hm)).up fun k hk=>hk.elim (H.bB.iI k) fun q=>(H.bB.own j _ k hm q).2.1
 |ext y=>
  cases y with
  |vw q lo e t' l'=>
   cases hx
   have fq:dg S w e (A.v q) l'/\mM (A.v j) (A.v q) lo (Data.size (El t)):=H.bB.ok j _ hm
   exact(th fq.1 fq.2).1.up fun k hk=>hk.elim (H.bB.iI k) fun q=>(H.bB.own j _ k hm q).2.1
  |_=>cases hx
 |_=>cases hx
theorem DY (H:cv o n A S F s r a w){j:Nat}{x:R2}(hj:r j=some x){k:Kc}{t:Ty}{m:bh k (El t)}(hx:DV x=some ⟨k,t,m⟩):(A.m j=none/\m=([]:List (bL k×El t)))\/
  ∃b,∃zs:List (bL k×(Value×El t)),A.m j=some b/\de k w b (zs.map fun q=>(q.1,q.2.1))/\m=zs.map (fun q=>(q.1,q.2.2))/\∀z∈zs,match gx x with
   |true=>Rd S w z.2.1 z.2.2
   |false=>Rd o.old o.w z.2.1 z.2.2:=by
 have hm:bw A r j=some (x.den A j):=by simp[bw,hj]
 cases x with
 |mL k' t' m'=>
  cases hx
  have h:Rd S w (.map (A.m j)) m:=H.bB.ok j _ hm
  obtain⟨y,hy,h⟩:=sq h
  cases hy
  cases hA:A.m j with
  |none=>rw[hA] at h;exact .inl ⟨rfl,h⟩
  |some b=>rw[hA] at h;obtain⟨_,zs,h1,h2,h3⟩:=h;exact .inr ⟨b,zs,rfl,h1,h2,h3⟩
 |wG k' t' m'=>
  cases hx
  obtain⟨y,hy,h⟩:=sq (H.args j _ hj)
  cases hy
  cases hA:A.m j with
  |none=>rw[hA] at h;exact .inl ⟨rfl,h⟩
  |some b=>rw[hA] at h;obtain⟨hb,zs,h1,h2,h3⟩:=h;exact .inr ⟨b,zs,rfl,h1.keep (H.bB.old b hb),h2,h3⟩
 |map k' t' m'=>
  cases hx
  obtain⟨b,e,zs,h1,h2,h3⟩:=H.bB.ok j _ hm
  exact .inr ⟨b,zs,e,h1,h2,h3⟩
 |_=>cases hx
theorem Ce (H:cv o n A S F s r a w){j:Nat}{x:R2}(hj:r j=some x){t:Ty}{l:List (El t)}(hx:iu x=some ⟨t,l⟩){i:Int}(h0:0<=i)(h1:i<(l.length:Int)):
  ∃cs,wH o S w (gx x) cs (bl t (l.getD i.toNat (sr t)))/\cs.length=Data.size (El t)/\∀q,q<Data.size (El t)->w.cell? ⟨Ar (A.v j),As (A.v j)+i.toNat*Data.size (El t)+q,none⟩=cs[q]?:=by
 have hm:bw A r j=some (x.den A j):=by simp[bw,hj]
 cases x with
 |ro t' l'=>
  cases hx
  have hr:Rd S w (A.v j) l:=H.bB.ok j _ hm
  obtain⟨cs,k1,k2⟩:=Az (C:=(· =w)) (T:=S) (fun w' e=>by subst e;exact cK.refl _ _) hr h0 h1 (sr t)
  exact⟨cs,gZ t k1,Data.len k1,fun q hq=>k2 q hq w rfl⟩
 |ar t' l'=>
  cases hx
  have hr:Rd o.old o.w (A.v j) l:=H.args j _ hj
  obtain⟨cs,k1,k2⟩:=Az (C:=(· =w)) (T:=o.old) (fun w' e=>by subst e;exact H.bB.old) hr h0 h1 (sr t)
  exact⟨cs,gZ t k1,Data.len k1,fun q hq=>k2 q hq w rfl⟩
 |row e t' l'=>
  cases hx
  obtain⟨cs,k1,k2⟩:=dg.cells (show dg S w e (A.v j) l from H.bB.ok j _ hm) h0 h1 (sr t)
  exact⟨cs,gZ t k1,Data.len k1,fun q hq=>k2 q hq⟩
 |ext y=>
  cases y with
  |vw q lo e t' l'=>
   cases hx
   have fq:dg S w e (A.v q) l'/\mM (A.v j) (A.v q) lo (Data.size (El t)):=H.bB.ok j _ hm
   obtain⟨cs,k1,k2⟩:=Gh fq.1 fq.2 h0 h1 (sr t)
   exact⟨cs,gZ t k1,Data.len k1,fun q hq=>k2 q hq⟩
  |_=>cases hx
 |_=>cases hx
theorem xR (H:cv o n A S F s r a w){j:Nat}{x:R2}(hj:r j=some x){t:Ty}{l:List (El t)}(hx:Io x=some ⟨t,l⟩):∃p c,A.v j= .slice p l.length c/\(0<l.length->∃g f,p=some ⟨g,f,none⟩):=by
 have old:iu x=some ⟨t,l⟩->∃p c,A.v j= .slice p l.length c/\(0<l.length->∃g f,p=some ⟨g,f,none⟩):=fun hx=>by
  obtain⟨p,c,h1,_,_,h2⟩:=cq (qL H hj hx)
  refine⟨p,c,h1,fun h=>?_⟩
  rcases h2 with rfl|⟨g,f,_,_,_,h2,_⟩
  .cases h
  exact⟨g,f,h2⟩
 cases x with
 |ext y=>
  cases y with
  |nest q h e t' ie l'=>
   cases hx
   have hm:iO S w (A.v j) (A.f q) h e t ie l:=H.bB.ok j _ (show bw A r j=some _ by simp[bw,hj];rfl)
   obtain⟨xs,h1,_⟩:=hm.row
   rcases h1.2 with⟨hv,hn⟩|⟨g,d,cap,cur,hv,_⟩
   .exact⟨_,_,by rw[hv,hn],fun q=>by omega⟩
   exact⟨_,_,hv,fun _=>⟨_,_,rfl⟩⟩
  |vw _ _ _ _ _=>exact old hx
  |_=>cases hx
 |_=>exact old hx
theorem Kl (H:cv o n A S F s r a w){j:Nat}{x:R2}(hj:r j=some x){t:Ty}{l:List (El t)}(hx:Io x=some ⟨t,l⟩){i:Int}(h0:0<=i)(h1:i<(l.length:Int)):DC (A.v j) i:=by
 obtain⟨p,c,h2,h3⟩:=xR H hj hx
 obtain⟨g,f,rfl⟩:=h3 (by omega)
 exact⟨g,f,_,c,h2,h0,h1⟩
theorem tq {t:Ty}:∀ {l:List (El t)} {i off:Nat} (hi:i<l.length),off<aF t->(gA t l)[i*aF t+off]?=(bl t (l.getD i (sr t)))[off]?
 |x::l,0,off,_,ho=>by
  show(bl t x++gA t l)[0*aF t+off]?=(bl t x)[off]?
  rw[Nat.zero_mul,Nat.zero_add,List.getElem?_append_left (by rw[dw];exact ho)]
 |x::l,i+1,off,hi,ho=>by
  show(bl t x++gA t l)[(i+1)*aF t+off]?=(bl t (l.getD i (sr t)))[off]?
  rw[List.getElem?_append_right (by rw[dw,Nat.succ_mul];omega),dw,show(i+1)*aF t+off-aF t=i*aF t+off by rw[Nat.succ_mul];omega]
  exact tq (by simpa using hi) ho
theorem gw.cell {e:TypeId}{sz:Nat}{v:Value}{n:Nat}{xs:List Value}(h:gw w e sz v n xs){c:Nat}{u:Value}(hc:xs[c]?=some u):w.cell? ⟨Ar v,As v+c,none⟩=some u:=by
 have hl:=(List.getElem?_eq_some_iff.1 hc).1
 rcases h.2 with⟨_,rfl⟩|⟨g,d,cap,cur,rfl,hg,h1,h2,h3,h4⟩
 .have:=h.1;omega
 show w.cell? ⟨g,d*sz+c,none⟩=_
 rw[cell_of_row w g _ cur e (0,0) hg,<-hc,<-h4,List.getElem?_take,if_pos (by rw[<-h.1];exact hl),List.getElem?_drop,Array.getElem?_toList]
theorem uI {v:Value}{f:Lit->Value}{e:TypeId}{t:Ty}{ie:TypeId}{l:List (El t)}(h:iO S w v f none e t ie l){i:Int}(h0:0<=i)(h1:i<(l.length:Int)){off:Nat}{c:l6}(hc:(bl t (l.getD i.toNat (sr t)))[off]?=some c):
  w.cell? ⟨Ar v,As v+(i.toNat*aF t+off),none⟩=some (f (ix (i.toNat*aF t+off)))/\rR S w ie (f (ix (i.toNat*aF t+off))) c:=by
 obtain⟨xs,k1,_,k2⟩:=h.row
 have ho:off<aF t:=by have:=(List.getElem?_eq_some_iff.1 hc).1;rwa[dw] at this
 obtain⟨k3,k4⟩:=k2 (i.toNat*aF t+off) c (by rw[tq (by omega) ho];exact hc) (by simp)
 exact⟨k1.cell k3,k4⟩
theorem xT {ie:TypeId}{j q:Nat}{i:Int}{sz:Nat}:∀ {cs:List l6} {c:Nat} {out:List Sc},vD j q i sz c cs=some out->(∀d x,cs[d]?=some x->rR S w ie (A.f q (ix (i.toNat*sz+(c+d)))) x)->
  out.length=cs.length/\∀d u,out[d]?=some u->u.den A=A.f q (ix (i.toNat*sz+(c+d)))/\(F j->F q->u.all F)/\u.b7 A
 |[],c,out,h,_=>by cases h;exact⟨rfl,fun d u q=>by simp at q⟩
 |x::r,c,out,h,k=>by
  have k0:=k 0 x rfl
  have k1:∀d y,r[d]?=some y->rR S w ie (A.f q (ix (i.toNat*sz+(c+1+d)))) y:=fun d y hy=>by
   have:=k (d+1) y (by simpa using hy)
   rwa[show c+(d+1)=c+1+d by omega] at this
  have main:∀z:Sc,(vD j q i sz (c+1) r).map (z:: ·)=some out->(z.den A=A.f q (ix (i.toNat*sz+(c+0)))/\(F j->F q->z.all F)/\z.b7 A)->out.length=(x::r).length/\∀d u,out[d]?=some u->u.den A=A.f q (ix (i.toNat*sz+(c+d)))/\(F j->F q->u.all F)/\u.b7 A:=by
   intro z hz hzk
   obtain⟨o',h1,rfl⟩:=Option.map_eq_some_iff.1 hz
   obtain⟨h2,h3⟩:=xT h1 k1
   refine⟨by simp[h2],fun d u hu=>?_⟩
   cases d with
   |zero=>
    have:z=u:=by simpa using hu
    subst this;exact hzk
   |succ d=>
    have:=h3 d u (by simpa using hu)
    rwa[show c+(d+1)=c+1+d by omega]
  cases x with
  |i n=>exact main _ h ⟨k0.1.symm,fun _ _=>trivial,tv⟩
  |b n=>exact main _ h ⟨k0.1.symm,fun _ _=>trivial,tv⟩
  |s n=>exact main _ h ⟨k0.1.symm,fun _ _=>trivial,tv⟩
  |l t n=>exact main _ h ⟨rfl,fun h1 h2=>⟨h1,h2⟩,tv⟩
  |m _ _ _=>cases h
  |p _ _=>cases h
theorem AG (H:cv o n A S F s r a w)(hC:jy a C){t:Nat}{e:E2}(he:s t=some e)(hp:e.ch.isPrefixOf C=true):a.tmps[t]?=some (e.sy.den A):=(H.env t e he).1 (pR hp hC)
theorem aP {α:Type 1}(H:cv o n A S F s r a w)(hC:jy a C){x:Operand}{k:Sy->Tr α}{out:α}(h:(gV C x k).run s r=some out):∃y:Sy,a.eval x=y.den A/\y.all F/\y.b7 A/\(k y).run s r=some out:=by
 cases x with
 |tmp t=>
  simp only[gV,Tr.run] at h
  split at h
  .rename_i e he
   split at h
   .rename_i hp
    refine⟨e.sy,?_,(H.l8 t e he (pR hp hC)).1,(H.l8 t e he (pR hp hC)).2,h⟩
    simp only[Act.eval,Array.getD_eq_getD_getElem?,AG H hC he hp,Option.getD_some]
   cases h
  cases h
 |const v=>exact⟨zW v,(MA A v).symm,MB F v,Kj A v,h⟩
 |func f=>exact⟨.one (.mA f []),rfl,fun c hc=>(by cases hc),tv,h⟩
 |global g=>cases h
theorem ax {α:Type 1}{b:Bool}{T:Tr α}{out:α}(h:(bg b T).run s r=some out):b=true/\T.run s r=some out:=by
 cases b with
 |true=>exact⟨rfl,h⟩
 |false=>cases h
theorem aY {α:Type 1}{j:Nat}{k:R2->Tr α}{out:α}(h:(Tr.res j k).run s r=some out):∃x,r j=some x/\(k x).run s r=some out:=by
 simp only[Tr.run] at h
 split at h
 .rename_i e he;exact⟨e,he,h⟩
 cases h
def xU (P:Program)(o:bC)(A:bF)(S:aL)(F:Nat->Prop)(w:World)(b:Nat)(op:Op)(a:Act)(out:Out):Prop:=
 ∃A',cR F A A'/\(∀o:Oper,o.op=op->Oper.quietUpon P (· =w) w (out.sy.den A') ((execOp a.eval o).run P w))/\out.sy.all (FU F out.re)/\out.sy.b7 A'/\jS o S w A' b out.re
theorem bQ {op:Op}{out:Out}{iK:Option Value}{p:Prop}(zX:out.re=[])(dL:out.sy.all F)(hg:out.sy.b7 A)(h:cM P (· =w) (fun x=>some (a.eval x)) op iK=some (out.sy.den A,p))(hp:p):xU P o A S F w b op a out:=by
 refine⟨A,cR.refl _ _,fun o ho=>?_,Sy.mono (fun j hj=>.inl hj) dL,hg,by rw[zX];trivial⟩
 subst ho
 exact H9 (ρ:=a.eval) (fun x u hx=>Option.some.inj hx) h hp w rfl
theorem bN {c:Sc}{out:Out}(h:(one c).run s r=some out):out=⟨[],[],.one c,[]⟩:=(Option.some.inj h).symm
theorem fI {p:Prop}{c:Sc}{out:Out}(h:(o6 p c).run s r=some out)(hc:∀q∈out.cs,q):out=⟨[p],[],.one c,[]⟩/\p:=by
 have e:=(Option.some.inj h).symm
 subst e
 exact⟨rfl,hc p (by simp)⟩
theorem Ip (a b:ByteArray):(a.toList==b.toList)=decide (a=b):=by
 by_cases h:a=b
 .subst h;simp
 rw[decide_eq_false h]
 refine Bool.eq_false_iff.2 fun q=>h (Ye q)
theorem aaN (n:Nat):n ^^^ 1=if n%2=0 then n+1 else n-1:=by
 have h1:(n ^^^ 1)/2=n/2:=by rw[Nat.xor_div_two];simp
 have h2:(n ^^^ 1)%2=(n+1)%2:=by
  have h:(n ^^^ 1)%2 ^ 1=(n%2 ^ 1) ^^^ (1%2 ^ 1):=Nat.xor_mod_two_pow
  rw[Nat.pow_one] at h
  rw[h]
  rcases Nat.mod_two_eq_zero_or_one n with q|q
  .rw[q];show 1=_;omega
  rw[q];show 0=_;omega
 split<;>omega
theorem MC {op:Oper}{t t':TypeId}{x y:Operand}{n:Int}(ho:op.op= .binOp .xor t x y t')(hx:a.eval x= .int .i64 n)(hy:a.eval y= .int .i64 1)(hn:0<=n/\n<=9223372036854775807):Oper.quietUpon P (· =w) w (.int .i64 (if n%2=0 then n+1 else n-1)) ((execOp a.eval op).run P w):=by
 obtain⟨m,rfl⟩:=Int.eq_ofNat_of_zero_le hn.1
 have hm:m<2 ^ 64:=by omega
 have h1:(Op.intBits .xor .i64 (m:Int) 1)=pure (.int .i64 (if(m:Int)%2=0 then(m:Int)+1 else(m:Int)-1)):=by
  show(pure (Value.int .i64 (IntKind.i64.wrap (((BitVec.ofInt 64 (m:Int)) ^^^ (BitVec.ofInt 64 1)).toNat:Int))):Sem Value)=_
  have e1:(BitVec.ofInt 64 (m:Int)).toNat=m:=by
   rw[BitVec.toNat_ofInt];omega
  have e2:(BitVec.ofInt 64 1).toNat=1:=by decide
  rw[BitVec.toNat_xor,e1,e2,aaN]
  congr 2
  have e3:(((if m%2=0 then m+1 else m-1:Nat)):Int)=if(m:Int)%2=0 then(m:Int)+1 else(m:Int)-1:=by split<;>split<;>omega
  rw[e3]
  exact bR.wrap (k:=.i64) ⟨by split<;>omega,by split<;>omega⟩
 have h2:(eqGuard .xor t x y (.int .i64 (m:Int)) (.int .i64 1)).run P w= .ok () w:=by simp[eqGuard,Sem.run_pure]
 simp only[execOp,ho,Sem.run_bind,hx,hy,h2,Result.andThen_ok]
 have h3:(binOp .xor t (.int .i64 (m:Int)) (.int .i64 1))=Op.intBits .xor .i64 (m:Int) 1:=rfl
 rw[h3,h1]
 exact⟨rfl,rfl⟩
theorem xV {op:Oper}{t t' e:TypeId}{x y:Operand}{p:Option Addr}(hu:P.underlying t=some (.pointer e))(ho:op.op= .binOp .eql t x y t')(hx:a.eval x= .pointer p)(hy:a.eval y= .pointer none):Oper.quietUpon P (· =w) w (.bool p.isNone) ((execOp a.eval op).run P w):=by
 have h1:(Op.equal t (.pointer p) (.pointer none)).run P w= .ok p.isNone w:=by
  unfold Op.equal
  rw[show Op.maxDepth=(Op.maxDepth-1)+1 from by decide]
  cases p<;>(unfold Op.equalIn;rw[Sem.run_bind,run_underlying hu];rfl)
 have h2:(eqGuard .eql t x y (.pointer p) (.pointer none)).run P w= .ok () w:=by simp[eqGuard,Sem.run_pure]
 simp only[execOp,ho,Sem.run_bind,hx,hy,h2,Result.andThen_ok,binOp,h1,Sem.run_pure]
 exact⟨rfl,rfl⟩
theorem xW {op:Oper}{t t' e:TypeId}{x y:Operand}{p:Option Addr}(hu:P.underlying t=some (.pointer e))(ho:op.op= .binOp .neq t x y t')(hx:a.eval x= .pointer p)(hy:a.eval y= .pointer none):Oper.quietUpon P (· =w) w (.bool p.isSome) ((execOp a.eval op).run P w):=by
 have h1:(Op.equal t (.pointer p) (.pointer none)).run P w= .ok p.isNone w:=by
  unfold Op.equal
  rw[show Op.maxDepth=(Op.maxDepth-1)+1 from by decide]
  cases p<;>(unfold Op.equalIn;rw[Sem.run_bind,run_underlying hu];rfl)
 have h2:(eqGuard .neq t x y (.pointer p) (.pointer none)).run P w= .ok () w:=by simp[eqGuard,Sem.run_pure]
 simp only[execOp,ho,Sem.run_bind,hx,hy,h2,Result.andThen_ok,binOp,h1,Sem.run_pure]
 exact⟨rfl,by cases p<;>rfl⟩
theorem Gk {op:Oper}{t t':TypeId}{x y:Operand}{g:Fn}{p c:Array Value}{e1 e2:Array TypeId}{e3:Bool}(hu:P.underlying t=some (.func e1 e2 e3))(ho:op.op= .binOp .eql t x y t')(hx:a.eval x= .func g p c)(hy:a.eval y= .nilFunc):Oper.quietUpon P (· =w) w (.bool false) ((execOp a.eval op).run P w):=by
 have h1:(Op.equal t (.func g p c) .nilFunc).run P w= .ok false w:=by
  unfold Op.equal
  rw[show Op.maxDepth=(Op.maxDepth-1)+1 from by decide]
  unfold Op.equalIn;rw[Sem.run_bind,run_underlying hu];rfl
 have h2:(eqGuard .eql t x y (.func g p c) .nilFunc).run P w= .ok () w:=by simp[eqGuard,Sem.run_pure]
 simp only[execOp,ho,Sem.run_bind,hx,hy,h2,Result.andThen_ok,binOp,h1,Sem.run_pure]
 exact⟨rfl,rfl⟩
theorem Gl {op:Oper}{t t':TypeId}{x y:Operand}{g:Fn}{p c:Array Value}{e1 e2:Array TypeId}{e3:Bool}(hu:P.underlying t=some (.func e1 e2 e3))(ho:op.op= .binOp .neq t x y t')(hx:a.eval x= .func g p c)(hy:a.eval y= .nilFunc):Oper.quietUpon P (· =w) w (.bool true) ((execOp a.eval op).run P w):=by
 have h1:(Op.equal t (.func g p c) .nilFunc).run P w= .ok false w:=by
  unfold Op.equal
  rw[show Op.maxDepth=(Op.maxDepth-1)+1 from by decide]
  unfold Op.equalIn;rw[Sem.run_bind,run_underlying hu];rfl
 have h2:(eqGuard .neq t x y (.func g p c) .nilFunc).run P w= .ok () w:=by simp[eqGuard,Sem.run_pure]
 simp only[execOp,ho,Sem.run_bind,hx,hy,h2,Result.andThen_ok,binOp,h1,Sem.run_pure]
 exact⟨rfl,rfl⟩
theorem MD (H:cv o n A S F s r a w){op:BinOp}{t t':TypeId}{x y:Operand}{k:IntKind}{m q:Int}{out:Out}(hx:a.eval x= .int k m)(hy:a.eval y= .int k q)(h:(arith op k m q).run s r=some out)(hc:∀p∈out.cs,p):xU P o A S F w b (.binOp op t x y t') a out/\out.hs=[]:=by
 cases op
 case add=>obtain⟨rfl,hp⟩:=fI h hc;exact⟨bQ (iK:=none) rfl tv tv (by simp only[cM,hx,hy,iU,if_true];rfl) hp,rfl⟩
 case sub=>obtain⟨rfl,hp⟩:=fI h hc;exact⟨bQ (iK:=none) rfl tv tv (by simp only[cM,hx,hy,iU,if_true];rfl) hp,rfl⟩
 case mul=>obtain⟨rfl,hp⟩:=fI h hc;exact⟨bQ (iK:=none) rfl tv tv (by simp only[cM,hx,hy,iU,if_true];rfl) hp,rfl⟩
 case quo=>obtain⟨rfl,hp⟩:=fI h hc;exact⟨bQ (iK:=none) rfl tv tv (by simp only[cM,hx,hy,iU,if_true];rfl) hp,rfl⟩
 case rem=>obtain⟨rfl,hp⟩:=fI h hc;exact⟨bQ (iK:=none) rfl tv tv (by simp only[cM,hx,hy,iU,if_true];rfl) hp,rfl⟩
 case shr=>
  obtain⟨hg,h2⟩:=ax h
  rw[Bool.and_eq_true] at hg
  have hk:=of_decide_eq_true hg.1
  have hb:=of_decide_eq_true hg.2
  subst hk
  subst hb
  rw[bN h2]
  exact⟨bQ (iK:=some (.int .u64 (m/2))) rfl tv tv (by simp only[cM,hx,hy,iU];rfl) (Rc (by decide)),rfl⟩
 case xor=>
  obtain⟨hg,h2⟩:=ax h
  rw[Bool.and_eq_true] at hg
  have hk:=of_decide_eq_true hg.1
  have hb:=of_decide_eq_true hg.2
  subst hk
  subst hb
  obtain⟨rfl,hp⟩:=fI h2 hc
  exact⟨⟨A,cR.refl _ _,fun op ho=>MC ho hx hy hp,tv,tv,tv⟩,rfl⟩
 case eql=>rw[bN h];exact⟨bQ (iK:=none) (p:=True) rfl tv tv (by simp only[cM,hx,hy,iU,if_true];rfl) tv,rfl⟩
 case neq=>rw[bN h];exact⟨bQ (iK:=none) (p:=True) rfl tv tv (by simp only[cM,hx,hy,iU,if_true];rfl) tv,rfl⟩
 case lss=>rw[bN h];exact⟨bQ (iK:=none) (p:=True) rfl tv tv (by simp only[cM,hx,hy,iU,if_true];rfl) tv,rfl⟩
 case leq=>rw[bN h];exact⟨bQ (iK:=none) (p:=True) rfl tv tv (by simp only[cM,hx,hy,iU,if_true];rfl) tv,rfl⟩
 case gtr=>rw[bN h];exact⟨bQ (iK:=none) (p:=True) rfl tv tv (by simp only[cM,hx,hy,iU,if_true];rfl) tv,rfl⟩
 case geq=>rw[bN h];exact⟨bQ (iK:=none) (p:=True) rfl tv tv (by simp only[cM,hx,hy,iU,if_true];rfl) tv,rfl⟩
 all_goals cases h
theorem Ri (H:cv o n A S F s r a w){op:BinOp}{t t':TypeId}{x y:Operand}{p q:Sy}{out:Out}(hx:a.eval x=p.den A)(hy:a.eval y=q.den A)(h:(Vi P op t p q).run s r=some out)(hc:∀p∈out.cs,p):xU P o A S F w b (.binOp op t x y t') a out/\out.hs=[]:=by
 unfold Vi at h
 split at h
 .obtain⟨hk,h2⟩:=ax h
  have hk:=of_decide_eq_true hk
  subst hk
  exact MD H hx hy h2 hc
 .rename_i u v
  have hx:a.eval x= .string u:=hx
  have hy:a.eval y= .string v:=hy
  split at h
  .obtain⟨rfl,hp⟩:=fI h hc;exact⟨bQ (iK:=none) rfl tv tv (by simp only[cM,hx,hy,iU];rfl) hp,rfl⟩
  .rw[bN h];exact⟨bQ (iK:=none) (p:=True) rfl tv tv (by simp only[cM,hx,hy,iU,Ip];rfl) tv,rfl⟩
  .rw[bN h];exact⟨bQ (iK:=none) (p:=True) rfl tv tv (by simp only[cM,hx,hy,iU,Ip];rfl) tv,rfl⟩
  cases h
 .rename_i j
  have hx:a.eval x= .pointer (A.p j):=hx
  have hy:a.eval y= .pointer none:=hy
  have key:∀ {z:R2} {t':Ty} {d:l5 (El t')},r j=some z->DW z=some ⟨t',d⟩->(A.p j).isNone=(show Option (El t') from d).isNone:=by
   intro z t' d hz hd
   have gF:∃T w',kQ T w' (.pointer (A.p j)) d:=by
    cases z with
    |ext z=>
     cases z with
     |vC t x=>cases hd;exact⟨S,w,od (H.bB.ok j _ (show bw A r j=some _ by simp[bw,hz];rfl))⟩
     |par t x=>cases hd;exact⟨o.old,o.w,od (H.args j _ hz)⟩
     |_=>cases hd
    |_=>cases hd
   obtain⟨T,w',gF⟩:=gF
   cases d with
   |none=>have gF:Value.pointer (A.p j)= .pointer none:=gF;cases hq:A.p j with
    |none=>rfl
    |some _=>rw[hq] at gF;cases gF
   |some y=>obtain⟨b,_,_,_,_,e,_⟩:=gF;cases hq:A.p j with
    |none=>rw[hq] at e;cases e
    |some _=>rfl
  split at h
  .obtain⟨z,hz,h⟩:=aY h
   split at h
   .rename_i t' d hd
    rw[bN h]
    refine⟨⟨A,cR.refl _ _,fun op ho=>?_,tv,tv,tv⟩,rfl⟩
    rw[show(Sy.one (.b (.raw (show Option (El t') from d).isNone))).den A= .bool (A.p j).isNone by rw[key hz hd];rfl]
    exact xV (by assumption) ho hx hy
   cases h
  .obtain⟨z,hz,h⟩:=aY h
   split at h
   .rename_i t' d hd
    rw[bN h]
    refine⟨⟨A,cR.refl _ _,fun op ho=>?_,tv,tv,tv⟩,rfl⟩
    rw[show(Sy.one (.b (.raw (show Option (El t') from d).isSome))).den A= .bool (A.p j).isSome by
     have:=key hz hd
     rw[<-Option.not_isNone,<-Option.not_isNone,<-this];cases A.p j<;>cases d<;>rfl]
    exact xW (by assumption) ho hx hy
   cases h
  cases h
 .rename_i j off
  have hx:a.eval x= .pointer (some ⟨A.b j,off,none⟩):=hx
  have hy:a.eval y= .pointer none:=hy
  split at h
  .rw[bN h];exact⟨⟨A,cR.refl _ _,fun op ho=>xV (by assumption) ho hx hy,tv,tv,tv⟩,rfl⟩
  .rw[bN h];exact⟨⟨A,cR.refl _ _,fun op ho=>xW (by assumption) ho hx hy,tv,tv,tv⟩,rfl⟩
  cases h
 .split at h
  .rw[bN h];exact⟨⟨A,cR.refl _ _,fun op ho=>Gk (by assumption) ho hx hy,tv,tv,tv⟩,rfl⟩
  .rw[bN h];exact⟨⟨A,cR.refl _ _,fun op ho=>Gl (by assumption) ho hx hy,tv,tv,tv⟩,rfl⟩
  cases h
 .rename_i u v
  have hx:a.eval x= .bool u.den:=hx
  have hy:a.eval y= .bool v.den:=hy
  split at h
  .rw[bN h];exact⟨bQ (iK:=none) (p:=P.underlying t=some .bool) rfl tv tv (by simp only[cM,hx,hy,iU];rfl) (by assumption),rfl⟩
  .rw[bN h];exact⟨bQ (iK:=none) (p:=P.underlying t=some .bool) rfl tv tv (by simp only[cM,hx,hy,iU];rfl) (by assumption),rfl⟩
  cases h
 cases h
end
theorem bV.drop {S:aL}{w:World}:∀(k:Nat) {vs:List Value} {a:List l6},bV S w vs a->bV S w (vs.drop k) (a.drop k)
 |0,_,_,h=>h
 |k+1,[],[],_=>trivial
 |k+1,_::_,_::_,h=>bV.drop k h.2
 |_+1,[],_::_,h=>h.elim
 |_+1,_::_,[],h=>h.elim
theorem bV.take {S:aL}{w:World}:∀(k:Nat) {vs:List Value} {a:List l6},bV S w vs a->bV S w (vs.take k) (a.take k)
 |0,_,_,_=>trivial
 |k+1,[],[],_=>trivial
 |k+1,_::_,_::_,h=>⟨h.1,bV.take k h.2⟩
 |_+1,[],_::_,h=>h.elim
 |_+1,_::_,[],h=>h.elim
theorem wH.drop {o:bC}{S:aL}{w:World}{k:Bool}(j:Nat){vs:List Value}{cs:List l6}(h:wH o S w k vs cs):wH o S w k (vs.drop j) (cs.drop j):=by
 cases k
 .exact bV.drop j h
 exact bV.drop j h
theorem wH.take {o:bC}{S:aL}{w:World}{k:Bool}(j:Nat){vs:List Value}{cs:List l6}(h:wH o S w k vs cs):wH o S w k (vs.take j) (cs.take j):=by
 cases k
 .exact bV.take j h
 exact bV.take j h
theorem wH.get {o:bC}{S:aL}{w:World}{k:Bool}{vs:List Value}{cs:List l6}(h:wH o S w k vs cs){j:Nat}{c:l6}(hc:cs[j]?=some c):∃v,vs[j]?=some v/\wH o S w k [v] [c]:=by
 cases k
 .obtain⟨v,h1,h2⟩:=bV.get h hc;exact⟨v,h1,h2,tv⟩
 obtain⟨v,h1,h2⟩:=bV.get h hc;exact⟨v,h1,h2,tv⟩
theorem Km {w w':World}{b q:Nat}(h:w'.heap[b]?=w.heap[b]?):w'.cell? ⟨b,q,none⟩=w.cell? ⟨b,q,none⟩:=by
 unfold World.cell?
 simp only[h]
section
variable {P:Program}{o:bC}{n:Nat}{A:bF}{S:aL}{F:Nat->Prop}{s:Nat->Option E2}{r:Nat->Option R2}{a:Act}{w:World}{C:List (Nat×Bool)}{b:Nat}
theorem ng {op:Op}{out:Out}{iK:Option Value}{p:Prop}{A':bF}(hA:cR F A A')(dL:out.sy.all (FU F out.re))(hg:out.sy.b7 A')(Kn:jS o S w A' b out.re)(h:cM P (· =w) (fun x=>some (a.eval x)) op iK=some (out.sy.den A',p))(hp:p):xU P o A S F w b op a out:=by
 refine⟨A',hA,fun o ho=>?_,dL,hg,Kn⟩
 subst ho
 exact H9 (ρ:=a.eval) (fun x u hx=>Option.some.inj hx) h hp w rfl
theorem aW {out Gm:Out}(h:(Tr.ret Gm).run s r=some out):out=Gm:=(Option.some.inj h).symm
theorem xX {j:Nat}(h:F j):FU F [] j:=.inl h
theorem xY {B:Nat}{k:Bool}(hF:∀j,b<=j->j<B->¬F j){t:TypeId}{x:Operand}{off dM base:Nat}{cs:List l6}{vs:List Value}{out:Out}(hx:a.eval x= .pointer (some ⟨dM,base+off,none⟩))(xZ:wH o S w k vs cs)(kr:∀q,q<vs.length->w.cell? ⟨dM,base+q,none⟩=vs[q]?)
  (h:(DX P k b t cs off).run s r=some out) (hB:∀p∈out.re,p.1<B):xU P o A S F w b (.load t x) a out/\out.hs=[]/\∀p∈out.cs,p:=by
 unfold DX at h
 split at h
 .rename_i fs hu
  obtain⟨HZ,h⟩:=ax h
  rw[Bool.and_eq_true] at HZ
  have gH:=Nat.eq_of_beq_eq_true HZ.2
  have e:=aW h
  subst e
  obtain⟨A',k1,k2,k3,k4⟩:=fH _ _ b A F (wH.take (P.cellsOf t) (wH.drop off xZ)) hF hB
  have Cf:((vs.drop off).take (P.cellsOf t)).length=P.cellsOf t:=by rw[<-k2,List.length_map];exact gH
  refine⟨ng (A':=A') (iK:=some (.agg (((vs.drop off).take (P.cellsOf t))).toArray)) (p:=(P.info? t).isSome=true/\DD (· =w) dM (base+off) (P.cellsOf t) ((vs.drop off).take (P.cellsOf t)).toArray) k1 (fun c uC=>(k4 c uC).1) (fun c uC=>(k4 c uC).2) k3 ?_ ⟨HZ.1,?_,?_⟩,rfl,fun _ q=>by cases q⟩
  .simp only[cM,hu,hx,Sy.den]
   rw[k2]
  .simp only[List.size_toArray];exact Cf
  intro w' zK q hq
  subst zK
  have hq2:off+q<vs.length:=by
   rw[List.length_take,List.length_drop] at Cf;omega
  rw[Nat.add_assoc,kr (off+q) hq2,List.getElem?_toArray,List.getElem?_take,if_pos hq,List.getElem?_drop]
 .cases h
 .rename_i d wC B9 hu
  split at h
  .rename_i c cE
   obtain⟨v,zY,Uf⟩:=wH.get xZ cE
   split at h
   .rename_i sc re hce
    have e:=aW h
    subst e
    obtain⟨A',k1,k2,k3,k4⟩:=fH [c] [v] b A F Uf hF (by rw[hce];exact hB)
    rw[hce] at k2 k3 k4
    have k2:sc.den A'=v:=by simpa using k2
    refine⟨ng (A':=A') (iK:=some v) (p:=B8 (· =w) dM (base+off) v) k1 (k4 sc (by simp)).1 (k4 sc (by simp)).2 k3 ?_ ?_,rfl,fun _ q=>by cases q⟩
    .simp only[cM,hx,Sy.den]
     rw[hu,k2]
     cases d<;>first|exact(wC _ rfl).elim|exact(B9 _ _ rfl).elim|rfl
    intro w' zK
    subst zK
    rw[kr off (List.getElem?_eq_some_iff.1 zY).1,zY]
   cases h
  cases h
 cases h
theorem vF {T:aL}{w':World}{t:Ty}{dM:Nat}{y:El t}(h:gG T w' dM y):∃vs,Data.rd T w' vs y/\vs.length=aF t/\T dM/\∀q,q<vs.length->w'.cell? ⟨dM,0+q,none⟩=vs[q]?:=by
 obtain⟨cur,t',fz,cs,h1,h2,h3,h4⟩:=h
 refine⟨cs,h3,by rw[Data.len h3,b5],h1,fun q hq=>?_⟩
 rw[Nat.zero_add,cell_of_row w' dM q cur t' fz h2]
 exact h4 q (by rw[<-Data.len h3];exact hq)
theorem ME {B:Nat}(H:cv o n A S F s r a w)(hF:∀j,b<=j->j<B->¬F j){t:TypeId}{x:Operand}{p:Sy}{out:Out}(hx:a.eval x=p.den A)(dL:p.all F)(hg:p.b7 A)(h:(Mw P b t p).run s r=some out)(hB:∀p∈out.re,p.1<B):xU P o A S F w b (.load t x) a out/\out.hs=[]:=by
 unfold Mw at h
 split at h
 ·
  rename_i j off
  obtain⟨y,hy,h⟩:=aY h
  have hx:a.eval x= .pointer (some ⟨A.b j,off,none⟩):=hx
  have hr:=H.dB j y hy
  have zL:bw A r j=some (y.den A j):=by simp[bw,hy]
  split at h
  .rename_i bt cs
   have hm:bw A r j=some (Rs.of (.box (A.b j) bt (cs.map (Sc.den A)))):=zL
   have hb:w.heap[A.b j]?=some (.cells (cs.map (Sc.den A)).toArray bt (0,0)):=H.bB.ok j _ hm
   have kr:∀q,w.cell? ⟨A.b j,q,none⟩=(cs.map (Sc.den A))[q]?:=fun q=>by rw[cell_of_row w _ q _ _ _ hb];simp
   split at h
   .rename_i fs hu
    obtain⟨HZ,h⟩:=ax h
    rw[Bool.and_eq_true] at HZ
    have hlen:=Nat.eq_of_beq_eq_true HZ.2
    have e:=aW h
    subst e
    refine⟨ng (A':=A) (iK:=some (.agg (((cs.drop off).take (P.cellsOf t)).map (Sc.den A)).toArray)) (p:=(P.info? t).isSome=true/\DD (· =w) (A.b j) off (P.cellsOf t) (((cs.drop off).take (P.cellsOf t)).map (Sc.den A)).toArray) (cR.refl _ _) ?_ ?_ tv ?_ ⟨HZ.1,?_,?_⟩,rfl⟩
    .intro c uC;exact Sc.mono (fun _=>xX) (hr.2.1 c (List.mem_of_mem_drop (List.mem_of_mem_take uC)))
    .intro c uC;exact hr.2.2 c (List.mem_of_mem_drop (List.mem_of_mem_take uC))
    .simp only[cM,hu,hx];rfl
    .rw[List.length_take,List.length_drop] at hlen;simp;exact hlen
    intro w' zK q hq
    subst zK
    rw[kr,List.getElem?_toArray,List.map_take,List.map_drop,List.getElem?_take,if_pos hq,List.getElem?_drop]
   .cases h
   .rename_i d wC B9 hu
    split at h
    .rename_i c cE
     have e:=bN h
     subst e
     have fE:=List.mem_of_getElem? cE
     refine⟨ng (A':=A) (iK:=some (c.den A)) (p:=B8 (· =w) (A.b j) off (c.den A)) (cR.refl _ _) (Sc.mono (fun _=>xX) (hr.2.1 c fE)) (hr.2.2 c fE) tv ?_ ?_,rfl⟩
     .simp only[cM,hx]
      rw[hu]
      cases d<;>first|exact(wC _ rfl).elim|exact(B9 _ _ rfl).elim|rfl
     intro w' zK
     subst zK
     rw[kr,List.getElem?_map,cE];rfl
    cases h
   cases h
  .rename_i t' y
   have hp:gG S w (A.b j) y:=H.bB.ok j _ zL
   obtain⟨vs,h1,h2,_,h3⟩:=vF hp
   obtain⟨k1,k2,_⟩:=xY (P:=P) (k:=true) (base:=0) hF (by rw[Nat.zero_add];exact hx) (gZ t' h1) h3 h hB
   exact⟨k1,k2⟩
  .rename_i t' y
   have hp:gG o.old o.w (A.b j) y:=H.args j _ hy
   obtain⟨vs,h1,h2,h4,h3⟩:=vF hp
   obtain⟨k1,k2,_⟩:=xY (P:=P) (k:=false) (w:=w) (base:=0) hF (by rw[Nat.zero_add];exact hx) (gZ t' h1) (fun q hq=>by rw[<-h3 q hq];exact Km (H.bB.old _ h4)) h hB
   exact⟨k1,k2⟩
  cases h
 ·
  rename_i j i sz off
  obtain⟨y,hy,h⟩:=aY h
  obtain⟨g,f,m,cp,hv,h0,h1⟩:DC (A.v j) i:=hg
  split at h
  .rename_i q e t' ie l
   obtain⟨dc,h⟩:=ax h
   have dc:=Nat.eq_of_beq_eq_true dc
   subst dc
   have hm:iO S w (A.v j) (A.f q) none e t' ie l:=H.bB.ok j _ (show bw A r j=some _ by simp[bw,hy];rfl)
   obtain⟨Cg,MF,_⟩:=H.dB j _ hy
   have MF:F q:=MF
   have hlen:m=l.length:=by
    obtain⟨p',c',e,_⟩:=xR H hy (t:=t') (l:=l) rfl
    rw[hv] at e
    cases e;rfl
   subst hlen
   have hx:a.eval x= .pointer (some ⟨Ar (A.v j),As (A.v j)+i.toNat*aF t'+off,none⟩):=hx
   split at h
   .rename_i fs hu
    split at h
    .rename_i c hc
     obtain⟨HZ,h⟩:=ax h
     rw[Bool.and_eq_true] at HZ
     have gH:=Nat.eq_of_beq_eq_true HZ.2
     have e:=aW h
     subst e
     have pQ:∀d x,(((bl t' (l.getD i.toNat (sr t'))).drop off).take (P.cellsOf t))[d]?=some x->(bl t' (l.getD i.toNat (sr t')))[off+d]?=some x:=fun d x hd=>by
      rw[List.getElem?_take] at hd
      split at hd
      .rwa[List.getElem?_drop] at hd
      cases hd
     obtain⟨k1,k2⟩:=xT (F:=F) (S:=S) (w:=w) (A:=A) (ie:=ie) hc fun d x hd=>by
      exact(uI hm h0 h1 (pQ d x hd)).2
     refine⟨ng (A':=A) (iK:=some (.agg (c.map (Sc.den A)).toArray)) (p:=(P.info? t).isSome=true/\DD (· =w) (Ar (A.v j)) (As (A.v j)+i.toNat*aF t'+off) (P.cellsOf t) (c.map (Sc.den A)).toArray) (cR.refl _ _) (fun u hu=>?_) (fun u hu=>?_) tv ?_ ⟨HZ.1,?_,?_⟩,rfl⟩
     .obtain⟨d,hd⟩:=List.mem_iff_getElem?.1 hu
      exact Sc.mono (fun _=>xX) ((k2 d u hd).2.1 Cg MF)
     .obtain⟨d,hd⟩:=List.mem_iff_getElem?.1 hu
      exact(k2 d u hd).2.2
     .simp only[cM,hu,hx,Sy.den]
     .simp;exact gH
     intro w' zK d hd
     subst zK
     have zO:d<c.length:=by omega
     have hcd:c[d]?=some c[d]:=List.getElem?_eq_getElem zO
     have Vn:(((bl t' (l.getD i.toNat (sr t'))).drop off).take (P.cellsOf t))[d]?=some (((bl t' (l.getD i.toNat (sr t'))).drop off).take (P.cellsOf t))[d]:=List.getElem?_eq_getElem (by rw[<-k1];exact zO)
     have:=(uI hm h0 h1 (pQ d _ Vn)).1
     rw[List.getElem?_toArray,List.getElem?_map,hcd,Option.map_some,(k2 d _ hcd).1,<-this]
     congr 2;omega
    cases h
   .cases h
   .rename_i d wC B9 hu
    split at h
    .rename_i c cE
     split at h
     .rename_i sc hsc
      have e:=bN h
      subst e
      obtain⟨n1,n2⟩:=uI hm h0 h1 cE
      obtain⟨k1,k2⟩:=xT (F:=F) (S:=S) (w:=w) (A:=A) (ie:=ie) hsc fun d x hd=>by
       cases d with
       |zero=>
        have:c=x:=by simpa using hd
        subst this;exact n2
       |succ d=>simp at hd
      obtain⟨z1,z2,z3⟩:=k2 0 sc rfl
      refine⟨ng (A':=A) (iK:=some (sc.den A)) (p:=B8 (· =w) (Ar (A.v j)) (As (A.v j)+i.toNat*aF t'+off) (sc.den A)) (cR.refl _ _) (Sc.mono (fun _=>xX) (z2 Cg MF)) z3 tv ?_ ?_,rfl⟩
      .simp only[cM,hx,Sy.den]
       rw[hu]
       cases d<;>first|exact(wC _ rfl).elim|exact(B9 _ _ rfl).elim|rfl
      intro w' zK
      subst zK
      rw[z1,Nat.add_zero,<-n1,Nat.add_assoc]
     cases h
    cases h
   cases h
  split at h
  .rename_i t' l hl
   obtain⟨dc,h⟩:=ax h
   have dc:=Nat.eq_of_beq_eq_true dc
   rw[Mu] at dc
   have gF:=qL H hy hl
   have hlen:m=l.length:=by
    obtain⟨p',c',e,_⟩:=cq gF
    rw[hv] at e
    cases e;rfl
   subst hlen
   obtain⟨vs,xZ,Yo,kr⟩:=Ce H hy hl h0 h1
   have hx:a.eval x= .pointer (some ⟨Ar (A.v j),As (A.v j)+i.toNat*Data.size (El t')+off,none⟩):=by rw[dc];exact hx
   obtain⟨k1,k2,_⟩:=xY (P:=P) hF hx xZ (fun q hq=>kr q (by rw[<-Yo];exact hq)) h hB
   exact⟨k1,k2⟩
  cases h
 cases h
theorem MG (H:cv o n A S F s r a w)(hC:jy a C){c x y:Operand}{out:Out}(h:(Mx C c x y).run s r=some out):xU P o A S F w b (.pick c x y) a out/\out.hs=[]:=by
 have key:∀(e:BE) (v:Sy),a.eval c= .bool e.den->(e.den=true->a.eval x=v.den A)->(e.den=false->a.eval y=v.den A)->v.all F->v.b7 A->xU P o A S F w b (.pick c x y) a ⟨[],[],v,[]⟩:=by
  intro e v hc h1 h2 h3 h4
  refine⟨A,cR.refl _ _,fun o ho=>?_,Sy.mono (fun _=>xX) h3,h4,tv⟩
  simp only[execOp,ho,hc,asBool,Sem.run_bind,Sem.run_pure,Result.andThen_ok]
  cases hd:e.den with
  |true=>simp only[if_true,h1 hd];exact⟨rfl,rfl⟩
  |false=>simp only[Bool.false_eq_true,if_false,h2 hd];exact⟨rfl,rfl⟩
 unfold Mx at h
 split at h
 .rename_i t
  simp only[gV,Tr.run] at h
  split at h
  .rename_i en QO
   split at h
   .rename_i hp
    have htm:=AG H hC QO hp
    have FY:a.eval (.tmp t)=en.sy.den A:=by simp only[Act.eval,Array.getD_eq_getD_getElem?,htm,Option.getD_some]
    split at h
    .rename_i FZ
     obtain⟨v,e1,e2,e3,h⟩:=aP H hC h
     have e:=aW h
     subst e
     rw[FZ] at FY
     exact⟨key (.lit true) v FY (fun _=>e1) (fun q=>by cases q) e2 e3,rfl⟩
    .rename_i FZ
     obtain⟨v,e1,e2,e3,h⟩:=aP H hC h
     have e:=aW h
     subst e
     rw[FZ] at FY
     exact⟨key (.lit false) v FY (fun q=>by cases q) (fun _=>e1) e2 e3,rfl⟩
    .rename_i e _ _ FZ
     rw[FZ] at FY htm
     have FY:a.eval (.tmp t)= .bool e.den:=FY
     have Yp:∀b',e.den=b'->jy a (C++[(t,b')]):=by
      intro b' mX l hl
      rcases List.mem_append.1 hl with hl|hl
      .exact hC l hl
      rw[List.mem_singleton] at hl;subst hl;subst mX;exact htm
     split at h
     .have hx:∀q,a.eval (.const (.bool q))= .bool q:=fun _=>rfl
      by_cases hd:e.den=false
      .obtain⟨v,e1,e2,e3,h⟩:=aP H (Yp false hd) h
       split at h
       .rename_i q
        have e':=bN h
        subst e'
        refine⟨key e (.one (.b (.or e q))) FY (fun k=>by rw[hd] at k;cases k) (fun _=>?_) tv tv,rfl⟩
        rw[e1]
        show Value.bool q.den= .bool (e.den||q.den)
        rw[hd];rfl
       cases h
      have hd:e.den=true:=by simpa using hd
      have:∃q,out=⟨[],[],.one (.b (.or e q)),[]⟩:=by
       generalize hk:(fun r:Sy=>match r with| .one (.b q)=>one (.b (.or e q))|_=>Tr.fail)=k at h
       have MH:∀(u:Sy),(k u).run s r=some out->∃q,out=⟨[],[],.one (.b (.or e q)),[]⟩:=by
        intro u hu
        subst hk
        simp only at hu
        split at hu
        .exact⟨_,bN hu⟩
        cases hu
       cases y with
       |tmp t2=>
        simp only[gV,Tr.run] at h
        split at h
        .split at h
         .exact MH _ h
         cases h
        cases h
       |const v=>exact MH _ h
       |func f=>exact MH _ h
       |global g=>cases h
      obtain⟨q,rfl⟩:=this
      refine⟨key e (.one (.b (.or e q))) FY (fun _=>?_) (fun k=>by rw[hd] at k;cases k) tv tv,rfl⟩
      rw[hx]
      show Value.bool true= .bool (e.den||q.den)
      rw[hd];rfl
     .have hx:∀q,a.eval (.const (.bool q))= .bool q:=fun _=>rfl
      by_cases hd:e.den=true
      .obtain⟨v,e1,e2,e3,h⟩:=aP H (Yp true hd) h
       split at h
       .rename_i q
        have e':=bN h
        subst e'
        refine⟨key e (.one (.b (.and e q))) FY (fun _=>?_) (fun k=>by rw[hd] at k;cases k) tv tv,rfl⟩
        rw[e1]
        show Value.bool q.den= .bool (e.den && q.den)
        rw[hd];rfl
       cases h
      have hd:e.den=false:=by simpa using hd
      have:∃q,out=⟨[],[],.one (.b (.and e q)),[]⟩:=by
       generalize hk:(fun r:Sy=>match r with| .one (.b q)=>one (.b (.and e q))|_=>Tr.fail)=k at h
       have MH:∀(u:Sy),(k u).run s r=some out->∃q,out=⟨[],[],.one (.b (.and e q)),[]⟩:=by
        intro u hu
        subst hk
        simp only at hu
        split at hu
        .exact⟨_,bN hu⟩
        cases hu
       cases x with
       |tmp t2=>
        simp only[gV,Tr.run] at h
        split at h
        .split at h
         .exact MH _ h
         cases h
        cases h
       |const v=>exact MH _ h
       |func f=>exact MH _ h
       |global g=>cases h
      obtain⟨q,rfl⟩:=this
      refine⟨key e (.one (.b (.and e q))) FY (fun k=>by rw[hd] at k;cases k) (fun _=>?_) tv tv,rfl⟩
      rw[hx]
      show Value.bool false= .bool (e.den && q.den)
      rw[hd];rfl
     cases h
    cases h
   cases h
  cases h
 cases h
end
section
variable {P:Program}{o:bC}{n:Nat}{A:bF}{S:aL}{F:Nat->Prop}{s:Nat->Option E2}{r:Nat->Option R2}{a:Act}{w:World}{C:List (Nat×Bool)}{b:Nat}
theorem MI (H:cv o n A S F s r a w)(hC:jy a C){c:Call}{out:Out}(h:(jD P C b (.call c)).run s r=some out)(hc:∀p∈out.cs,p):xU P o A S F w b (.call c) a out/\out.hs=[]:=by
 simp only[jD] at h
 split at h
 .rename_i x jq dD
  split at h
  .rename_i hu
   obtain⟨p,e1,e2,e3,h⟩:=aP H hC h
   split at h
   .rename_i u
    rw[bN h]
    have e1:a.eval x= .string u:=e1
    refine⟨bQ (iK:=none) (p:=True) rfl tv tv ?_ tv,rfl⟩
    simp only[cM,jq,dD,List.map_cons,List.map_nil,e1,hu];rfl
   cases h
  .rename_i e hu
   obtain⟨p,e1,e2,e3,h⟩:=aP H hC h
   split at h
   .rename_i j
    obtain⟨y,hy,h⟩:=aY h
    split at h
    .rename_i t l hl
     rw[bN h]
     have e1:a.eval x=A.v j:=e1
     refine⟨bQ (iK:=some (.int .i64 (l.length:Int))) (p:=Ma (A.v j) (l.length:Int)) rfl tv tv ?_ (let⟨p,c,e,_⟩:=xR H hy hl;⟨p,_,c,e,rfl⟩),rfl⟩
     simp only[cM,jq,dD,List.map_cons,List.map_nil,e1,hu];rfl
    cases h
   .rw[bN h]
    have e1:a.eval x= .slice none 0 0:=e1
    refine⟨bQ (iK:=some (.int .i64 0)) (p:=Ma (.slice none 0 0) 0) rfl tv tv ?_ ⟨_,_,_,rfl,rfl⟩,rfl⟩
    simp only[cM,jq,dD,List.map_cons,List.map_nil,e1,hu];rfl
   cases h
  cases h
 .rename_i x y jq dD
  obtain⟨p,e1,e2,e3,h⟩:=aP H hC h
  obtain⟨q,f1,f2,f3,h⟩:=aP H hC h
  split at h
  .rename_i u v _
   rw[bN h]
   have e1:a.eval x= .int .i64 u:=e1
   have f1:a.eval y= .int .i64 v:=f1
   refine⟨bQ (iK:=some (.int .i64 (max u v))) (p:=∀ty w,(Builtin.max_ c.argTypes ty [.int .i64 u,.int .i64 v].toArray).run P w= .ok (.int .i64 (max u v)) w) rfl tv tv ?_ (fun ty w=>U9 ty w),rfl⟩
   simp only[cM,jq,dD,List.map_cons,List.map_nil,e1,f1];rfl
  cases h
 .rename_i x y jq dD
  obtain⟨p,e1,e2,e3,h⟩:=aP H hC h
  obtain⟨q,f1,f2,f3,h⟩:=aP H hC h
  split at h
  .rename_i u v _
   rw[bN h]
   have e1:a.eval x= .int .i64 u:=e1
   have f1:a.eval y= .int .i64 v:=f1
   refine⟨bQ (iK:=some (.int .i64 (min u v))) (p:=∀ty w,(Builtin.min_ c.argTypes ty [.int .i64 u,.int .i64 v].toArray).run P w= .ok (.int .i64 (min u v)) w) rfl tv tv ?_ (fun ty w=>Va ty w),rfl⟩
   simp only[cM,jq,dD,List.map_cons,List.map_nil,e1,f1];rfl
  cases h
 cases h
theorem Ko {B:Nat}(H:cv o n A S F s r a w)(hC:jy a C)(hF:∀j,b<=j->j<B->¬F j){op:Op}{out:Out}(h:(jD P C b op).run s r=some out)(hc:∀p∈out.cs,p)(hB:∀p∈out.re,p.1<B):xU P o A S F w b op a out/\out.hs=[]:=by
 cases op
 case move x=>
  obtain⟨p,e1,e2,e3,h⟩:=aP H hC h
  rw[aW h]
  exact⟨bQ (iK:=none) (p:=True) rfl e2 e3 (by simp only[cM,e1];rfl) tv,rfl⟩
 case assign x=>
  obtain⟨p,e1,e2,e3,h⟩:=aP H hC h
  rw[aW h]
  exact⟨bQ (iK:=none) (p:=True) rfl e2 e3 (by simp only[cM,e1];rfl) tv,rfl⟩
 case unOp uo t x=>
  cases uo
  case not=>
   obtain⟨p,e1,e2,e3,h⟩:=aP H hC h
   split at h
   .rename_i e
    rw[bN h]
    have e1:a.eval x= .bool e.den:=e1
    exact⟨bQ (iK:=none) (p:=True) rfl tv tv (by simp only[cM,e1];rfl) tv,rfl⟩
   cases h
  all_goals cases h
 case extract x i=>
  obtain⟨p,e1,e2,e3,h⟩:=aP H hC h
  split at h
  .rename_i ps
   have e1:a.eval x= .tuple (ps.map (fe A)).toArray:=e1
   split at h
   .rename_i cs J9
    rw[aW h]
    have hm:=List.mem_of_getElem? J9
    refine⟨bQ (iK:=none) (p:=True) rfl (fun c hc=>e2 _ hm c hc) (fun c hc=>e3 _ hm c hc) ?_ tv,rfl⟩
    simp only[cM,e1,List.getElem?_toArray,List.getElem?_map,J9];rfl
   .rename_i c J9
    rw[bN h]
    have hm:=List.mem_of_getElem? J9
    refine⟨bQ (iK:=none) (p:=True) rfl (e2 _ hm c (by simp)) (e3 _ hm c (by simp)) ?_ tv,rfl⟩
    simp only[cM,e1,List.getElem?_toArray,List.getElem?_map,J9];rfl
   cases h
  cases h
 case nilCheck x=>
  obtain⟨p,e1,e2,e3,h⟩:=aP H hC h
  split at h
  .rename_i j off
   rw[bN h]
   exact⟨bQ (iK:=none) (p:=True) rfl e2 e3 (by simp only[cM,e1,Sy.den,Sc.den]) tv,rfl⟩
  .rename_i j i sz off
   rw[bN h]
   exact⟨bQ (iK:=none) (p:=True) rfl e2 e3 (by simp only[cM,e1,Sy.den,Sc.den]) tv,rfl⟩
  .rename_i j
   have e1:a.eval x= .pointer (A.p j):=e1
   obtain⟨z,hz,h⟩:=aY h
   have fin:∀ {t:Ty} {y:l5 (El t)} {k:Bool} {T:aL} {w':World},kQ T w' (.pointer (A.p j)) y->(∀dM,A.p j=some ⟨dM,0,none⟩->∀d:El t,gG T w' dM d->Ue o S w (A.set b (A.p j) 0 0 dM) b (.ext (if k then .DR t d else .zN t d)))->
     out=⟨[(show Option (El t) from y).isSome=true],[],.one (.ptr b 0),[(b,some (.ext (if k then .DR t ((show Option (El t) from y).getD (sr t)) else .zN t ((show Option (El t) from y).getD (sr t)))))]⟩->xU P o A S F w b (.nilCheck x) a out/\out.hs=[]:=by
    intro t y k T w' hp Kn e
    subst e
    have hs:(show Option (El t) from y).isSome=true:=hc _ (by simp)
    cases y with
    |none=>cases hs
    |some d=>
     obtain⟨dM,cur,t0,fz,cs,p1,p2,p3,p4,p5⟩:=hp
     have p1:A.p j=some ⟨dM,0,none⟩:=by injection p1
     have oe:¬F b:=hF b (Nat.le_refl _) (hB _ (List.mem_singleton.2 rfl))
     refine⟨⟨A.set b (A.p j) 0 0 dM,cR.set oe _ _ _ _,fun op ho=>?_,.inr ⟨_,List.mem_singleton.2 rfl⟩,tv,⟨Nat.le_refl _,⟨_,rfl,Kn dM p1 d ⟨cur,t0,fz,cs,p2,p3,p4,p5⟩⟩,tv⟩⟩,rfl⟩
     have Rj:(Sy.one (.ptr b 0)).den (A.set b (A.p j) 0 0 dM)= .pointer (some ⟨dM,0,none⟩):=by
      show Value.pointer (some ⟨(A.set b (A.p j) 0 0 dM).b b,0,none⟩)=_
      rw[bF.xO]
     rw[Rj]
     simp only[execOp,ho,e1,p1]
     exact⟨rfl,rfl⟩
   split at h
   .rename_i t y
    refine fin (k:=true) (T:=S) (w':=w) (od (H.bB.ok j _ (show bw A r j=some _ by simp[bw,hz];rfl))) (fun dM hb d hd=>?_) (aW h)
    show gG S w ((A.set b (A.p j) 0 0 dM).b b) d
    rw[bF.xO];exact hd
   .rename_i t y
    refine fin (k:=false) (T:=o.old) (w':=o.w) (od (H.args j _ hz)) (fun dM hb d hd=>?_) (aW h)
    show gG o.old o.w ((A.set b (A.p j) 0 0 dM).b b) d
    rw[bF.xO];exact hd
   cases h
  cases h
 case binOp bo t x y t'=>
  obtain⟨p,e1,e2,e3,h⟩:=aP H hC h
  obtain⟨q,f1,f2,f3,h⟩:=aP H hC h
  exact Ri H e1 f1 h hc
 case convert sT dT x=>
  simp only[jD] at h
  split at h
  .rename_i k1 k h1 h2
   obtain⟨p,e1,e2,e3,h⟩:=aP H hC h
   split at h
   .rename_i k2 m
    obtain⟨rfl,hp⟩:=fI h hc
    have e1:a.eval x= .int k2 m:=e1
    exact⟨bQ (iK:=none) rfl tv tv (by simp only[cM,h1,h2,e1];rfl) hp,rfl⟩
   cases h
  cases h
 case index t x i=>
  simp only[jD] at h
  split at h
  .rename_i hu
   obtain⟨p,e1,e2,e3,h⟩:=aP H hC h
   obtain⟨q,f1,f2,f3,h⟩:=aP H hC h
   split at h
   .rename_i u k m _
    obtain⟨rfl,hp⟩:=fI h hc
    have e1:a.eval x= .string u:=e1
    have f1:a.eval i= .int k m:=f1
    exact⟨bQ (iK:=none) rfl tv tv (by simp only[cM,hu,e1,f1];rfl) (show bX m u.size from hp),rfl⟩
   cases h
  cases h
 case indexAddr t x i=>
  simp only[jD] at h
  split at h
  .rename_i e hu
   obtain⟨p,e1,e2,e3,h⟩:=aP H hC h
   obtain⟨q,f1,f2,f3,h⟩:=aP H hC h
   split at h
   .rename_i j k m _
    obtain⟨y,hy,h⟩:=aY h
    split at h
    .rename_i t' l hl
     obtain⟨hi,h⟩:=ax h
     obtain⟨rfl,hp⟩:=fI h hc
     have e1:a.eval x=A.v j:=e1
     have f1:a.eval i= .int k m:=f1
     have Xw:=Kl H hy hl hp.1 hp.2
     exact⟨bQ (iK:=none) (p:=(P.info? e).isSome=true/\DC (A.v j) m) rfl e2 Xw (by simp only[cM,hu,e1,f1];rfl) ⟨hi,Xw⟩,rfl⟩
    cases h
   cases h
  cases h
 case fieldAddr t x f=>
  simp only[jD] at h
  split at h
  .rename_i fs hu
   split at h
   .rename_i fd QN
    obtain⟨hi,h⟩:=ax h
    have hi:0<P.cellsOf fd.type:=by simpa using Nat.blt_eq▸hi
    obtain⟨p,e1,e2,e3,h⟩:=aP H hC h
    split at h
    .rename_i j off
     rw[bN h]
     have e1:a.eval x= .pointer (some ⟨A.b j,off,none⟩):=e1
     exact⟨bQ (iK:=none) (p:=0<P.cellsOf fd.type) rfl e2 tv (by simp only[cM,hu,e1,QN];rfl) hi,rfl⟩
    .rename_i j i sz off
     rw[bN h]
     have e1:a.eval x= .pointer (some ⟨Ar (A.v j),As (A.v j)+i.toNat*sz+off,none⟩):=e1
     exact⟨bQ (iK:=none) (p:=0<P.cellsOf fd.type) rfl e2 e3 (by simp only[cM,hu,e1,QN,Sy.den,Sc.den,Nat.add_assoc]) hi,rfl⟩
    cases h
   cases h
  cases h
 case load t x=>
  obtain⟨p,e1,e2,e3,h⟩:=aP H hC h
  exact ME H hF e1 e2 e3 h hB
 case field t x f=>
  simp only[jD] at h
  split at h
  .rename_i fs hu
   split at h
   .rename_i fd QN
    obtain⟨p,e1,e2,e3,h⟩:=aP H hC h
    split at h
    .rename_i cs
     have e1:a.eval x= .agg (cs.map (Sc.den A)).toArray:=e1
     split at h
     .rename_i fs' h3
      obtain⟨hi,h⟩:=ax h
      rw[aW h]
      refine⟨bQ (iK:=none) (p:=(P.info? fd.type).isSome=true) rfl (fun c hc=>e2 c (List.mem_of_mem_drop (List.mem_of_mem_take hc))) (fun c hc=>e3 c (List.mem_of_mem_drop (List.mem_of_mem_take hc))) ?_ hi,rfl⟩
      simp only[cM,hu,e1,QN,h3,Sy.den,List.map_take,List.map_drop]
      congr 3
      apply Array.ext'
      rw[Array.toList_extract,List.extract_eq_take_drop]
      simp
     .cases h
     .rename_i d wC B9 h3
      split at h
      .rename_i c cE
       rw[bN h]
       have hm:=List.mem_of_getElem? cE
       refine⟨bQ (iK:=none) (p:=True) rfl (e2 c hm) (e3 c hm) ?_ tv,rfl⟩
       have hg:((cs.map (Sc.den A)).toArray[fd.offset]?).map (fun v=>(v,True))=some (c.den A,True):=by
        rw[List.getElem?_toArray,List.getElem?_map,cE];rfl
       simp only[cM,hu,e1,QN,h3]
       cases d<;>first|exact(wC _ rfl).elim|exact(B9 _ _ rfl).elim|exact hg
      cases h
     cases h
    cases h
   cases h
  cases h
 case pick c x y=>exact MG H hC h
 case call c=>exact MI H hC h hc
 all_goals cases h
end
end Go.Proofs.YtnfdimfepbbbpaaGreat
