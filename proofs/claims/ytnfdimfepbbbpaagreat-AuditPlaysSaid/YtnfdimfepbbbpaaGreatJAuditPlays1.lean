/-
  Texts joined by program: LibA, LibB, LibC, EngA, EngB, EngC, EngD, EngE, EngF, RowA, EngG, EngH, EngI, EngJ, RowB, RowC, RowD, EngK, EngM, EngP, EngQ, EngT, VM0, VMR, VM1, VA, VB, VC, VD, VE, VF.
-/
import Derived.WalkKit
import Derived.WalkSpells
import Derived.WalkLawsBesides
import Derived.Lib.Hide
import Derived.Lib.OthersKept
import Derived.Deep.Quiet
import Derived.KernelRfl
import Derived.Test.YtnfdimfepbbbpaaGreatRows
import Derived.ProofKit
import Derived.OrdersHeld
import Derived.Deep.Slices
import Derived.Carry
import Derived.Maps.Own
import Derived.Maps.OwnSet
import Derived.Maps.Views
import Derived.Lib.SlKeysI
import Derived.Maps.RangeWalk
set_option linter.unusedSimpArgs false
set_option linter.unusedVariables false
set_option maxRecDepth 100000
set_option maxHeartbeats 8000000
namespace Go.Proofs.YtnfdimfepbbbpaaGreat
open Go.RowKit
abbrev iv (x : Int) : Value := .int .i64 x
abbrev pv (b : Nat) : Value := .pointer (some ⟨b, 0, none⟩)
abbrev TT : Prop := True
theorem tv : True := trivial
abbrev aL:=Nat->Prop
def cN (S:aL)(w w':World):Prop:=∀k,S k->w'.heap[k]?=w.heap[k]?
theorem cN.refl (S:aL)(w:World):cN S w w:=fun _ _=>rfl
theorem cN.trans {S:aL}{a b c:World}(h:cN S a b)(k:cN S b c):cN S a c:=fun i hi=>(k i hi).trans (h i hi)
theorem cN.mono {S S':aL}{a b:World}(h:cN S a b)(hs:∀k,S' k->S k):cN S' a b:=fun i hi=>h i (hs i hi)
theorem cN.below {B:Nat}{a b:World}(h:Below B a b):cN (· <B) a b:=fun i hi=>h.block i hi
class Data (α:Type) where
 size:Nat
 isAgg:Bool
 rd:aL->World->List Value->α->Prop
 len:∀ {S w cs a},rd S w cs a->cs.length=size
 up:∀ {S S':aL} {w cs a},(∀k,S k->S' k)->rd S w cs a->rd S' w cs a
 keep:∀ {S w w' cs a},cN S w w'->rd S w cs a->rd S w' cs a
 one:∀ {S w cs a},rd S w cs a->∀u∈cs,u.oneCell'=true
instance:Data Int where
 size:=1
 isAgg:=false
 rd _ _ cs n:=cs=[.int .i64 n]
 len h:=by rw[h];rfl
 up _ h:=h
 keep _ h:=h
 one h u hu:=by rw[h] at hu;simp at hu;subst hu;rfl
instance:Data Bool where
 size:=1
 isAgg:=false
 rd _ _ cs b:=cs=[.bool b]
 len h:=by rw[h];rfl
 up _ h:=h
 keep _ h:=h
 one h u hu:=by rw[h] at hu;simp at hu;subst hu;rfl
instance:Data ByteArray where
 size:=1
 isAgg:=false
 rd _ _ cs s:=cs=[.string s]
 len h:=by rw[h];rfl
 up _ h:=h
 keep _ h:=h
 one h u hu:=by rw[h] at hu;simp at hu;subst hu;rfl
instance {α β:Type} [Data α] [Data β]:Data (α×β) where
 size:=Data.size α+Data.size β
 isAgg:=true
 rd S w cs x:=∃c1 c2,cs=c1++c2/\Data.rd S w c1 x.1/\Data.rd S w c2 x.2
 len:=by rintro S w cs a ⟨c1,c2,rfl,h1,h2⟩;rw[List.length_append,Data.len h1,Data.len h2]
 up:=by rintro S S' w cs a hs ⟨c1,c2,rfl,h1,h2⟩;exact⟨c1,c2,rfl,Data.up hs h1,Data.up hs h2⟩
 keep:=by rintro S w w' cs a hk ⟨c1,c2,rfl,h1,h2⟩;exact⟨c1,c2,rfl,Data.keep hk h1,Data.keep hk h2⟩
 one:=by
  rintro S w cs a ⟨c1,c2,rfl,h1,h2⟩ u hu
  rcases List.mem_append.1 hu with hu|hu
  .exact Data.one h1 u hu
  exact Data.one h2 u hu
def nq {α:Type}[Data α](S:aL)(w:World)(cur:Array Value)(off:Nat)(l:List α):Prop:=
 ∀i (h:i<l.length),∃cs,Data.rd S w cs l[i]/\∀j,j<Data.size α->cur[off+i*Data.size α+j]?=cs[j]?
def ic {α:Type}[Data α](S:aL)(w:World)(v:Value)(l:List α):Prop:=
 ∃p c,v= .slice p l.length c/\l.length<=c/\c<=maxLen/\
  (l=[]\/∃g off cur t fz,p=some ⟨g,off,none⟩/\S g/\w.heap[g]?=some (.cells cur t fz)/\nq S w cur off l)
theorem nq.up {α:Type}[Data α]{S S':aL}{w:World}{cur:Array Value}{off:Nat}{l:List α}(hs:∀k,S k->S' k)(h:nq S w cur off l):nq S' w cur off l:=
 fun i hi=>let⟨cs,h1,h2⟩:=h i hi;⟨cs,Data.up hs h1,h2⟩
theorem nq.keep {α:Type}[Data α]{S:aL}{w w':World}{cur:Array Value}{off:Nat}{l:List α}(hk:cN S w w')(h:nq S w cur off l):nq S w' cur off l:=
 fun i hi=>let⟨cs,h1,h2⟩:=h i hi;⟨cs,Data.keep hk h1,h2⟩
instance {α:Type} [Data α]:Data (List α) where
 size:=1
 isAgg:=false
 rd S w cs l:=∃v,cs=[v]/\ic S w v l
 len:=by rintro S w cs l ⟨v,rfl,_⟩;rfl
 up:=by
  rintro S S' w cs l hs ⟨v,rfl,p,c,rfl,h1,h2,h3⟩
  refine⟨_,rfl,p,c,rfl,h1,h2,?_⟩
  rcases h3 with h3|⟨g,off,cur,t,fz,rfl,hg,hw,hc⟩
  .exact .inl h3
  exact .inr ⟨g,off,cur,t,fz,rfl,hs _ hg,hw,hc.up hs⟩
 keep:=by
  rintro S w w' cs l hk ⟨v,rfl,p,c,rfl,h1,h2,h3⟩
  refine⟨_,rfl,p,c,rfl,h1,h2,?_⟩
  rcases h3 with h3|⟨g,off,cur,t,fz,rfl,hg,hw,hc⟩
  .exact .inl h3
  exact .inr ⟨g,off,cur,t,fz,rfl,hg,(hk g hg).trans hw,hc.keep hk⟩
 one:=by
  rintro S w cs l ⟨v,rfl,p,c,rfl,_⟩ u hu
  simp at hu;subst hu;rfl
def Rd {α:Type}[Data α](S:aL)(w:World)(v:Value)(a:α):Prop:=∃cs,Data.rd S w cs a/\v=if Data.isAgg α then .agg cs.toArray else cs.headD undef
theorem Rd.up {α:Type}[Data α]{S S':aL}{w:World}{v:Value}{a:α}(hs:∀k,S k->S' k)(h:Rd S w v a):Rd S' w v a:=let⟨cs,h1,h2⟩:=h;⟨cs,Data.up hs h1,h2⟩
theorem Rd.keep {α:Type}[Data α]{S:aL}{w w':World}{v:Value}{a:α}(hk:cN S w w')(h:Rd S w v a):Rd S w' v a:=let⟨cs,h1,h2⟩:=h;⟨cs,Data.keep hk h1,h2⟩
theorem cn {α:Type}[Data α]{S:aL}{w:World}{v:Value}{l:List α}(h:Rd S w v l):ic S w v l:=by
 obtain⟨cs,⟨v',rfl,hs⟩,rfl⟩:=h
 exact hs
theorem gT {α:Type}[Data α]{S:aL}{w:World}{v:Value}{l:List α}(h:ic S w v l):Rd S w v l:=⟨[v],⟨v,rfl,h⟩,rfl⟩
theorem eW {α:Type}[Data α]{S:aL}{w:World}{v:Value}{l:List α}(h:ic S w v l):∃p c,v= .slice p l.length c/\l.length<=c/\c<=maxLen:=
 let⟨p,c,h1,h2,h3,_⟩:=h;⟨p,c,h1,h2,h3⟩
def cC {α:Type}[Data α](S:aL)(w:World)(xs:List Value)(l:List α):Prop:=
 xs.length=l.length*Data.size α/\∀i (h:i<l.length),Data.rd S w ((xs.drop (i*Data.size α)).take (Data.size α)) l[i]
theorem cC.nil {α:Type}[Data α](S:aL)(w:World):cC S w [] ([]:List α):=⟨by simp,fun i h=>by simp at h⟩
theorem cC.up {α:Type}[Data α]{S S':aL}{w:World}{xs:List Value}{l:List α}(hs:∀k,S k->S' k)(h:cC S w xs l):cC S' w xs l:=
 ⟨h.1,fun i hi=>Data.up hs (h.2 i hi)⟩
theorem cC.keep {α:Type}[Data α]{S:aL}{w w':World}{xs:List Value}{l:List α}(hk:cN S w w')(h:cC S w xs l):cC S w' xs l:=
 ⟨h.1,fun i hi=>Data.keep hk (h.2 i hi)⟩
theorem cC.append {α:Type}[Data α]{S:aL}{w:World}{xs ys:List Value}{l m:List α}(h:cC S w xs l)(k:cC S w ys m):cC S w (xs++ys) (l++m):=by
 refine⟨by rw[List.length_append,List.length_append,h.1,k.1,Nat.add_mul],fun i hi=>?_⟩
 by_cases hl:i<l.length
 .rw[List.getElem_append_left hl]
  have h1:i*Data.size α+Data.size α<=xs.length:=by rw[h.1,<-Nat.succ_mul];exact Nat.mul_le_mul_right _ hl
  rw[List.drop_append_of_le_length (by omega),List.take_append_of_le_length (by rw[List.length_drop];omega)]
  exact h.2 i hl
 rw[List.length_append] at hi
 rw[List.getElem_append_right (by omega)]
 have e:i*Data.size α=xs.length+(i-l.length)*Data.size α:=by rw[h.1,<-Nat.add_mul];congr 1;omega
 rw[e,List.drop_append]
 rw[List.drop_of_length_le (by omega),List.nil_append]
 rw[show xs.length+(i-l.length)*Data.size α-xs.length=(i-l.length)*Data.size α by omega]
 exact k.2 (i-l.length) (by omega)
theorem cC.single {α:Type}[Data α]{S:aL}{w:World}{cs:List Value}{a:α}(h:Data.rd S w cs a):cC S w cs [a]:=by
 refine⟨by rw[Data.len h];simp,fun i hi=>?_⟩
 have:i=0:=by simp at hi;exact hi
 subst this
 have e:(cs.drop (0*Data.size α)).take (Data.size α)=cs:=by rw[Nat.zero_mul,List.drop_zero,<-Data.len h];exact List.take_length
 rw[e];exact h
theorem cC.one {α:Type}[Data α]{S:aL}{w:World}{xs:List Value}{l:List α}(h:cC S w xs l):∀u∈xs,u.oneCell'=true:=by
 intro u hu
 by_cases hz:Data.size α=0
 .have:xs=[]:=List.eq_nil_of_length_eq_zero (by rw[h.1,hz];simp)
  subst this;simp at hu
 obtain⟨j,hj,rfl⟩:=List.getElem_of_mem hu
 have LJ:0<Data.size α:=by omega
 have hi:j/Data.size α<l.length:=by rw[Nat.div_lt_iff_lt_mul LJ,<-h.1];exact hj
 refine Data.one (h.2 _ hi) _ ?_
 have hm:=Nat.mod_lt j LJ
 have hd:=Nat.div_add_mod j (Data.size α)
 rw[Nat.mul_comm] at hd
 refine List.mem_iff_getElem?.2 ⟨j%Data.size α,?_⟩
 rw[List.getElem?_take,if_pos hm,List.getElem?_drop,hd,List.getElem?_eq_getElem hj]
def Own {α:Type}[Data α](S:aL)(w:World)(e:TypeId)(v:Value)(l:List α):Prop:=
 ∃xs,w.ownsRow 0 e (Data.size α) v l.length xs/\cC S w xs l
inductive nr:Type 1 where
 |iter (b:Nat) (s:ByteArray) (pos:Nat)
 |row {α:Type} [Data α] (e:TypeId) (v:Value) (l:List α)
 |box (b:Nat) (t:TypeId) (vs:List Value)
 |ro {α:Type} [Data α] (v:Value) (a:α)
 |obj {α:Type} [Data α] (b:Nat) (I:Obj->Prop) (QT:List (Value×α))
def nr.block:nr->Option Nat
 | .iter b _ _=>some b
 | @nr.row _ _ _ v _=>v.ownBlock
 | .box b _ _=>some b
 | @nr.ro _ _ _ _=>none
 | @nr.obj _ _ b _ _=>some b
def nr.ok (S:aL)(w:World):nr->Prop
 | .iter b s pos=>w.heap[b]?=some (.stringIter s pos)
 | @nr.row _ _ e v l=>Own S w e v l
 | .box b t vs=>w.heap[b]?=some (.cells vs.toArray t (0,0))
 | @nr.ro _ _ v a=>Rd S w v a
 | @nr.obj _ _ b I QT=>(∃x,w.heap[b]?=some x/\I x)/\∀q∈QT,Rd S w q.1 q.2
structure Orig where
 w:World
 S:aL
 ok:∀k,S k->k<w.heap.size
abbrev yP (w:World):Orig:=⟨w,fun _=>False,fun _ h=>h.elim⟩
abbrev qN (o:Orig)(w':World):aL:=fun k=>o.S k\/(o.w.heap.size<=k/\k<w'.heap.size)
structure Fr (w0:Orig)(w:World)(S:aL)(rs:List nr):Prop where
 below:Below w0.w.heap.size w0.w w
 src:∀k,S k->w0.S k\/w0.w.heap.size<=k
 ig:∀k,S k->k<w.heap.size
 ok:∀r∈rs,r.ok S w
 own:∀r∈rs,∀b,r.block=some b->w0.w.heap.size<=b/\b<w.heap.size/\¬S b
 nodup:(rs.filterMap nr.block).Nodup
theorem Fr.start (o:Orig):Fr o o.w o.S []:=
 ⟨Below.refl _ _,fun _ h=>.inl h,o.ok,fun _ h=>by simp at h,fun _ h=>by simp at h,by simp⟩
theorem Fr.yP {w0:Orig}{w:World}{S:aL}{rs:List nr}(h:Fr w0 w S rs):w0.w.heap.size<=w.heap.size:=h.below.size
abbrev Fr.at {w0:Orig}{w:World}{S:aL}{rs:List nr}(h:Fr w0 w S rs):Orig:=⟨w,S,h.ig⟩
theorem nr.Ho {S:aL}{w w':World}{r:nr}(h:r.ok S w)(hk:cN S w w')(hb:∀b,r.block=some b->w'.heap[b]?=w.heap[b]?):r.ok S w':=by
 cases r with
 |iter b s pos=>exact(hb b rfl).trans h
 |row e v l=>
  obtain⟨xs,⟨h1,h2⟩,h3⟩:=h
  refine⟨xs,⟨h1,?_⟩,h3.keep hk⟩
  rcases h2 with h2|⟨g,cap,cur,rfl,hg,hh,rest⟩
  .exact .inl h2
  exact .inr ⟨g,cap,cur,rfl,hg,(hb g rfl).trans hh,rest⟩
 |box b t vs=>exact(hb b rfl).trans h
 |ro v a=>exact Rd.keep hk h
 |obj b I QT=>exact⟨let⟨x,h1,h2⟩:=h.1;⟨x,(hb b rfl).trans h1,h2⟩,fun q hq=>(h.2 q hq).keep hk⟩
theorem nr.T6 {S S':aL}{w:World}{r:nr}(h:r.ok S w)(hs:∀k,S k->S' k):r.ok S' w:=by
 cases r with
 |iter b s pos=>exact h
 |row e v l=>obtain⟨xs,h1,h2⟩:=h;exact⟨xs,h1,h2.up hs⟩
 |box b t vs=>exact h
 |ro v a=>exact Rd.up hs h
 |obj b I QT=>exact⟨h.1,fun q hq=>(h.2 q hq).up hs⟩
theorem Fr.on {w0:Orig}{w w':World}{S:aL}{rs:List nr}(h:Fr w0 w S rs)(hb:Below w.heap.size w w'):Fr w0 w' S rs where
 below:=h.below.trans (hb.mono h.below.size)
 src:=h.src
 ig k hk:=Nat.lt_of_lt_of_le (h.ig k hk) hb.size
 ok r hr:=nr.Ho (h.ok r hr) (fun k hk=>hb.block k (h.ig k hk)) (fun b ng=>hb.block b (h.own r hr b ng).2.1)
 own r hr b ng:=let⟨a,c,d⟩:=h.own r hr b ng;⟨a,Nat.lt_of_lt_of_le c hb.size,d⟩
 nodup:=h.nodup
theorem Fr.call {w0:Orig}{w w':World}{S:aL}{rs:List nr}(h:Fr w0 w S rs)(hb:Below w.heap.size w w'):Fr w0 w' (fun k=>S k\/(w.heap.size<=k/\k<w'.heap.size)) rs where
 below:=(h.on hb).below
 src k hk:=by
  rcases hk with hk|hk
  .exact h.src k hk
  exact .inr (Nat.le_trans h.below.size hk.1)
 ig k hk:=by
  rcases hk with hk|hk
  .exact(h.on hb).ig k hk
  exact hk.2
 ok r hr:=nr.T6 ((h.on hb).ok r hr) fun _=>.inl
 own r hr b ng:=by
  obtain⟨a,c,d⟩:=h.own r hr b ng
  exact⟨a,Nat.lt_of_lt_of_le c hb.size,fun e=>e.elim d (fun e=>by omega)⟩
 nodup:=h.nodup
theorem Fr.put {w0:Orig}{w:World}{S:aL}{rs:List nr}(h:Fr w0 w S rs)(r:nr)(hr:r.ok S w)
  (hb:∀b,r.block=some b->w0.w.heap.size<=b/\b<w.heap.size/\¬S b/\∀r'∈rs,r'.block≠some b):Fr w0 w S (r::rs) where
 below:=h.below
 src:=h.src
 ig:=h.ig
 ok r' Hp:=by
  rcases List.mem_cons.1 Hp with rfl|Hp
  .exact hr
  exact h.ok r' Hp
 own r' Hp b ng:=by
  rcases List.mem_cons.1 Hp with rfl|Hp
  .obtain⟨x,y,z,_⟩:=hb b ng;exact⟨x,y,z⟩
  exact h.own r' Hp b ng
 nodup:=by
  rw[List.filterMap_cons]
  split
  .exact h.nodup
  rename_i b ng
  refine List.nodup_cons.2 ⟨fun hm=>?_,h.nodup⟩
  obtain⟨r',Hp,e⟩:=List.mem_filterMap.1 hm
  exact(hb b ng).2.2.2 r' Hp e
theorem j6 (w:World)(o:Obj):Below w.heap.size w (w.alloc o):=(Below.refl _ _).alloc (Nat.le_refl _) _
theorem Fr.newRow {α:Type}[Data α]{w0:Orig}{w:World}{S:aL}{rs:List nr}(h:Fr w0 w S rs)(e:TypeId):Fr w0 w S (.row e (.slice none 0 0) ([]:List α)::rs):=
 h.put _ ⟨[],World.ownsRow_nil _ _ _ _,cC.nil _ _⟩ (fun b hb=>by cases hb)
structure LK (P:Program)(t e:TypeId)(size bytes:Nat):Prop where
 under:P.underlying t=some (.slice e)
 info:∃i z,P.info? e=some i/\i.zero=some z/\i.size=size/\i.bytes=bytes/\z.cells.size=size
 pos:0<size
theorem Fr.out {α:Type}[Data α]{w0:Orig}{w:World}{S:aL}{rs:List nr}(h:Fr w0 w S rs)(i:Nat){e:TypeId}{v:Value}{l:List α}(hi:rs[i]?=some (.row e v l)):Rd (· <w.heap.size) w v l:=by
 obtain⟨xs,h1,h2⟩:=h.ok _ (List.mem_of_getElem? hi)
 refine gT ?_
 rcases h1.2 with⟨rfl,hn⟩|⟨g,cap,cur,rfl,_,hg,JB,qF,cH,jO⟩
 .have:l=[]:=List.eq_nil_of_length_eq_zero hn
  subst this
  exact⟨none,0,rfl,by simp,by simp[maxLen],.inl rfl⟩
 refine⟨_,cap,rfl,JB,qF,.inr ⟨g,0,cur,e,(0,0),rfl,(Array.getElem?_eq_some_iff.1 hg).1,hg,fun j hj=>?_⟩⟩
 refine⟨_,Data.up h.ig (h2.2 j hj),fun q hq=>?_⟩
 rw[List.getElem?_take,if_pos hq,List.getElem?_drop,<-jO,List.getElem?_take,if_pos ?_]
 .simp
 have:=Nat.mul_le_mul_right (Data.size α) (show j+1<=l.length from hj)
 rw[Nat.succ_mul] at this
 omega
theorem Fr.aaC {α:Type}[Data α]{w0:Orig}{w:World}{S:aL}{rs:List nr}(h:Fr w0 w S rs)(i:Nat){e:TypeId}{v:Value}{l:List α}(hi:rs[i]?=some (.row e v l)):Rd (qN w0 w) w v l:=by
 obtain⟨xs,h1,h2⟩:=h.ok _ (List.mem_of_getElem? hi)
 have hS:∀k,S k->qN w0 w k:=fun k hk=>(h.src k hk).elim .inl fun q=>.inr ⟨q,h.ig k hk⟩
 refine gT ?_
 rcases h1.2 with⟨rfl,hn⟩|⟨g,cap,cur,rfl,_,hg,JB,qF,cH,jO⟩
 .have:l=[]:=List.eq_nil_of_length_eq_zero hn
  subst this
  exact⟨none,0,rfl,by simp,by simp[maxLen],.inl rfl⟩
 obtain⟨CP,Yn,_⟩:=h.own _ (List.mem_of_getElem? hi) g rfl
 refine⟨_,cap,rfl,JB,qF,.inr ⟨g,0,cur,e,(0,0),rfl,.inr ⟨CP,Yn⟩,hg,fun j hj=>?_⟩⟩
 refine⟨_,Data.up hS (h2.2 j hj),fun q hq=>?_⟩
 rw[List.getElem?_take,if_pos hq,List.getElem?_drop,<-jO,List.getElem?_take,if_pos ?_]
 .simp
 have:=Nat.mul_le_mul_right (Data.size α) (show j+1<=l.length from hj)
 rw[Nat.succ_mul] at this
 omega
theorem Fr.since {w0:Orig}{w:World}{S:aL}{rs:List nr}(h:Fr w0 w S rs):∀k,S k->qN w0 w k:=fun k hk=>(h.src k hk).elim .inl fun q=>.inr ⟨q,h.ig k hk⟩
theorem Rd.all {α:Type}[Data α]{w0:Orig}{w:World}{S:aL}{rs:List nr}(h:Fr w0 w S rs){v:Value}{a:α}(hr:Rd S w v a):Rd (· <w.heap.size) w v a:=hr.up h.ig
def aX:IntKind->Int->Prop
 | .i64,n=> -9223372036854775808<=n/\n<=9223372036854775807
 | .i32,n=> -2147483648<=n/\n<=2147483647
 | .u8,n=>0<=n/\n<=255
 | .u32,n=>0<=n/\n<=4294967295
 | .u64,n=>0<=n/\n<=18446744073709551615
 |_,_=>False
theorem aX.wrap {k:IntKind}{n:Int}(h:aX k n):k.wrap n=n:=by
 cases k<;>simp only[aX] at h<;>first|exact h.elim|skip
 all_goals simp only[IntKind.wrap,IntKind.signed,IntKind.bits]
 all_goals simp
 all_goals first|omega|(split<;>omega)
def zz:Value->Nat
 | .slice (some a) _ _=>a.block
 | .pointer (some a)=>a.block
 |_=>0
def zA:Value->Nat
 | .slice (some a) _ _=>a.off
 | .pointer (some a)=>a.off
 |_=>0
def LL (v:Value)(n:Int):Prop:=∃p m c,v= .slice p m c/\n=(m:Int)
def CW (v:Value)(i:Int):Prop:=∃b o n c,v= .slice (some ⟨b,o,none⟩) n c/\0<=i/\i<n
def Bi (C:World->Prop)(b o:Nat)(u:Value):Prop:=∀w,C w->w.cell? ⟨b,o,none⟩=some u
def CX (C:World->Prop)(b o n:Nat)(us:Array Value):Prop:=us.size=n/\∀w,C w->∀j,j<n->w.cell? ⟨b,o+j,none⟩=us[j]?
def LM (P:Program) (f:FuncId):Prop:=∃fn,P.funcs[f]?=some fn/\(fn.name== "runtime.NumGoroutine")=false/\fn.body.isNone=false
def U6 (P:Program)(C:World->Prop)(f:FuncId)(args:Array Value)(v:Value):Prop:=∀w,C w->Calls P f args w (fun e w'=>e= .returned v/\C w')
def Hq (s:ByteArray)(i:Int):Int:=((s.data.getD i.toNat 0).toNat:Int)
def Yo (P:Program)(t:TypeId)(x y:Value)(r:Bool):Prop:=∀w,(Op.equal t x y).run P w= .ok r w
def iD (P:Program)(op:BinOp)(t:TypeId)(x y:Value)(iq:Option Value):Option (Value×Prop):=
 match x,y with
 | .int k a,.int k' b=>
  match op,iq with
  | .shr,some (.int _ u)=>some (.int k u,0<=b/\a.fdiv (2 ^ (min b.toNat k.bits))=u)
  |_,_=>if k=k' then
   match op with
   | .add=>some (.int k (a+b),aX k (a+b))
   | .sub=>some (.int k (a-b),aX k (a-b))
   | .mul=>some (.int k (a*b),aX k (a*b))
   | .quo=>some (.int k (a/b),0<=a/\0<b/\aX k a)
   | .rem=>some (.int k (a%b),0<=a/\0<b)
   | .eql=>some (.bool (decide (a=b)),True)
   | .neq=>some (.bool (!decide (a=b)),True)
   | .lss=>some (.bool (decide (a<b)),True)
   | .leq=>some (.bool (decide (a<=b)),True)
   | .gtr=>some (.bool (decide (b<a)),True)
   | .geq=>some (.bool (decide (b<=a)),True)
   |_=>none
  else none
 | .string a,.string b=>
  match op with
  | .add=>some (.string (a++b),a.size+b.size<=9223372036854775807)
  | .eql=>some (.bool (a.toList==b.toList),True)
  | .neq=>some (.bool (!(a.toList==b.toList)),True)
  |_=>none
 | .bool a,.bool b=>
  match op with
  | .eql=>some (.bool (a==b),P.underlying t=some .bool)
  | .neq=>some (.bool (!(a==b)),P.underlying t=some .bool)
  |_=>none
 | .agg a,.agg b=>
  match op,iq with
  | .eql,some (.bool r)=>some (.bool r,Yo P t (.agg a) (.agg b) r/\P.eqGuardType P.depth t=false)
  | .neq,some (.bool r)=>some (.bool (!r),Yo P t (.agg a) (.agg b) r/\P.eqGuardType P.depth t=false)
  |_,_=>none
 |_,_=>none
section
variable {P:Program}
theorem U7 {k:IntKind}{a b:Int}(h:aX k a)(h0:0<=a)(hb:0<b):aX k (a/b):=by
 have h1:0<=a/b:=Int.ediv_nonneg h0 (by omega)
 have h2:a/b<=a:=Int.ediv_le_self b h0
 cases k<;>simp only[aX] at h ⊢ <;>omega
theorem LN {op:BinOp}{t:TypeId}{x y:Operand}{a b v:Value}{p:Prop}{iq:Option Value}(h:iD P op t a b iq=some (v,p))(hp:p)(w:World):
  (do eqGuard op t x y a b;binOp op t a b:Sem Value).run P w= .ok v w:=by
 unfold iD at h
 split at h
 .rename_i k a k' b
  split at h
  .rename_i u
   simp only[Option.some.injEq,Prod.mk.injEq] at h
   obtain⟨rfl,rfl⟩:=h
   have hg:(eqGuard .shr t x y (.int k a) (.int k' b)).run P w= .ok () w:=by
    unfold eqGuard;split<;>rfl
   rw[Sem.run_bind,hg]
   simp only[Result.andThen,binOp,Op.shift]
   rw[if_neg (by omega),hp.2]
   rfl
  split at h
  .rename_i hk
   subst hk
   have hg:(eqGuard op t x y (.int k a) (.int k b)).run P w= .ok () w:=by
    unfold eqGuard;split<;>rfl
   rw[Sem.run_bind,hg]
   simp only[Result.andThen]
   cases op<;>simp only[Option.some.injEq,Prod.mk.injEq,reduceCtorEq] at h
   all_goals (obtain⟨rfl,rfl⟩:=h)
   all_goals simp only[binOp,ne_eq,not_true_eq_false,if_false,Op.intArith,Op.intDiv,Op.intCmp]
   case add=>rw[hp.wrap];rfl
   case sub=>rw[hp.wrap];rfl
   case mul=>rw[hp.wrap];rfl
   case quo=>
    obtain⟨h0,h1,h2⟩:=hp
    rw[if_neg (by omega),Int.tdiv_eq_ediv_of_nonneg h0,(U7 h2 h0 h1).wrap];rfl
   case rem=>
    obtain⟨h0,h1⟩:=hp
    rw[if_neg (by omega),Int.tmod_eq_emod_of_nonneg h0];rfl
   case eql=>simp[pure];rfl
   case neq=>simp[pure];rfl
   all_goals rfl
  cases h
 .rename_i a b
  have hg:(eqGuard op t x y (.string a) (.string b)).run P w= .ok () w:=by
   unfold eqGuard;split<;>rfl
  rw[Sem.run_bind,hg]
  simp only[Result.andThen]
  cases op<;>simp only[Option.some.injEq,Prod.mk.injEq,reduceCtorEq] at h
  all_goals (obtain⟨rfl,rfl⟩:=h)
  all_goals simp only[binOp,Op.stringOp]
  case add=>
   rw[if_neg (by
    have:IntKind.max .i64=9223372036854775807:=by decide
    omega)]
   rfl
  all_goals rfl
 .rename_i a b
  have hg:(eqGuard op t x y (.bool a) (.bool b)).run P w= .ok () w:=by
   unfold eqGuard;split<;>rfl
  rw[Sem.run_bind,hg]
  simp only[Result.andThen]
  cases op<;>simp only[Option.some.injEq,Prod.mk.injEq,reduceCtorEq] at h
  all_goals (obtain⟨rfl,rfl⟩:=h)
  all_goals
   simp only[binOp,Sem.run_bind]
   rw[show(Op.equal t (.bool a) (.bool b)).run P w= .ok (a==b) w from run_equal_bool w t a b hp]
   rfl
 .rename_i a b
  have hg:P.eqGuardType P.depth t=false->(eqGuard op t x y (.agg a) (.agg b)).run P w= .ok () w:=by
   intro he
   cases op<;>simp[eqGuard,program,Sem.run,he,Result.andThen]
  split at h
  .simp only[Option.some.injEq,Prod.mk.injEq] at h
   obtain⟨rfl,rfl⟩:=h
   rw[Sem.run_bind,hg hp.2]
   simp only[Result.andThen,binOp,Sem.run_bind,hp.1 w]
   rfl
  .simp only[Option.some.injEq,Prod.mk.injEq] at h
   obtain⟨rfl,rfl⟩:=h
   rw[Sem.run_bind,hg hp.2]
   simp only[Result.andThen,binOp,Sem.run_bind,hp.1 w]
   rfl
  cases h
 cases h
def cT (P:Program)(C:World->Prop)(g:Operand->Option Value)(op:Op)(iq:Option Value):Option (Value×Prop):=
 match op with
 | .move x=>(g x).map fun v=>(v,True)
 | .assign x=>(g x).map fun v=>(v,True)
 | .unOp .not _ x=>match g x with|some (.bool b)=>some (.bool (!b),True)|_=>none
 | .extract x i=>match g x with|some (.tuple vs)=>(vs[i]?).map fun v=>(v,True)|_=>none
 | .nilCheck x=>match g x with|some (.pointer (some a))=>some (.pointer (some a),True)|_=>none
 | .binOp o t x y _=>match g x,g y with|some a,some b=>iD P o t a b iq|_,_=>none
 | .convert s d x=>match P.underlying s,P.underlying d with
  |some (.int _),some (.int k)=>match g x with|some (.int _ n)=>some (.int k n,aX k n)|_=>none
  |some (.slice _),some .string=>match g x,iq with|some v,some u=>some (u,∀w,C w->(convert s d v).run P w= .ok u w)|_,_=>none
  |_,_=>none
 | .index t x i=>match P.underlying t,g x,g i with|some .string,some (.string s),some (.int _ n)=>some (.int .u8 (Hq s n),0<=n/\n<(s.size:Int))|_,_,_=>none
 | .indexAddr t x i=>match P.underlying t,g x,g i with|some (.slice e),some v,some (.int _ n)=>some (.pointer (some ⟨zz v,zA v+n.toNat*P.cellsOf e,none⟩),(P.info? e).isSome=true/\CW v n)|_,_,_=>none
 | .fieldAddr t x f=>match P.underlying t,g x with
  |some (.struct fs),some (.pointer (some ⟨b,o,none⟩))=>match fs[f]? with
   |some fd=>some (.pointer (some ⟨b,o+fd.offset,none⟩),0<P.cellsOf fd.type)
   |none=>none
  |_,_=>none
 | .load t x=>match P.underlying t,g x,iq with
  |some (.struct _),some (.pointer (some ⟨b,o,none⟩)),some (.agg us)=>some (.agg us,(P.info? t).isSome=true/\CX C b o (P.cellsOf t) us)
  |some (.struct _),_,_=>none
  |some (.array _ _),_,_=>none
  |some _,some (.pointer (some ⟨b,o,none⟩)),some u=>some (u,Bi C b o u)
  |_,_,_=>none
 | .field t x f=>match P.underlying t,g x with
  |some (.struct fs),some (.agg cs)=>match fs[f]? with
   |some fd=>match P.underlying fd.type with
    |some (.struct _)=>some (.agg (cs.extract fd.offset (fd.offset+P.cellsOf fd.type)),(P.info? fd.type).isSome=true)
    |some (.array _ _)=>none
    |some _=>(cs[fd.offset]?).map fun v=>(v,True)
    |none=>none
   |none=>none
  |_,_=>none
 | .build t ps=>match ps.toList.mapM (fun x=>(g x.2).map fun v=>(x.1,v)),iq with
  |some vs,some v=>some (v,∀w,(Instr.build t vs.toArray).run P w= .ok v w)
  |_,_=>none
 | .slice t x lo hi none=>match g x,lo.map g,hi.map g,iq with
  |some v,some (some l),some (some h),some u=>some (u,∀w,(Instr.sliceAt t v (some l) (some h) none).run P w= .ok u w)
  |some v,some (some l),none,some u=>some (u,∀w,(Instr.sliceAt t v (some l) none none).run P w= .ok u w)
  |some v,none,some (some h),some u=>some (u,∀w,(Instr.sliceAt t v none (some h) none).run P w= .ok u w)
  |some v,none,none,some u=>some (u,∀w,(Instr.sliceAt t v none none none).run P w= .ok u w)
  |_,_,_,_=>none
 | .lookup t m k ok=>match g m,g k,iq with
  |some vm,some vk,some u=>some (u,∀w,C w->(Instr.lookup t vm vk ok).run P w= .ok u w)
  |_,_,_=>none
 | .call c=>match c.callee,c.args.toList.map g with
  | .builtin .max,vs=>match vs.mapM id,iq with|some us,some v=>some (v,∀ty w,(Builtin.max_ c.argTypes ty us.toArray).run P w= .ok v w)|_,_=>none
  | .builtin .min,vs=>match vs.mapM id,iq with|some us,some v=>some (v,∀ty w,(Builtin.min_ c.argTypes ty us.toArray).run P w= .ok v w)|_,_=>none
  | .builtin .len,[some v]=>match(c.argTypes[0]?).bind P.underlying with
   |some .string=>match v with| .string s=>some (.int .i64 s.size,True)|_=>none
   |some (.slice _)=>match iq with|some (.int .i64 n)=>some (.int .i64 n,LL v n)|_=>none
   |_=>none
  | .value x,vs=>match g x,vs.mapM id,iq with|some (.func (.func f) first cap),some us,some v=>some (v,LM P f/\U6 P C f (first++us.toArray++cap) v)|_,_,_=>none
  |_,_=>none
 |_=>none
theorem wC {fd:Field}{b f:Nat}(w:World)(h0:0<P.cellsOf fd.type):(fieldPlace ⟨b,f,none⟩ fd).run P w= .ok (⟨b,f+fd.offset,none⟩:Addr) w:=by
 have hi:∃i,P.info? fd.type=some i:=by
  cases hh:P.info? fd.type with
  |none=>simp[Program.cellsOf,hh] at h0
  |some i=>exact⟨i,rfl⟩
 obtain⟨i,hi⟩:=hi
 have hs:i.size≠0:=by simp[Program.cellsOf,hi] at h0;omega
 have lM:(⟨b,f,none⟩:Addr).add fd.offset=⟨b,f+fd.offset,none⟩:=by unfold Addr.add;split<;>simp_all
 simp[fieldPlace,sizeOf,typeInfo,program,Sem.run,hi,hs,lM]
theorem run_loadCellsFrom (w:World)(b o:Nat)(us:Array Value)(n:Nat)(hn:us.size=n)(h:∀j,j<n->w.cell? ⟨b,o+j,none⟩=us[j]?):
  ∀k i (acc:Array Value),i+k=n->acc=us.extract 0 i->(loadCellsFrom ⟨b,o,none⟩ i k acc).run P w= .ok us w:=by
 intro k
 induction k with
 |zero=>
  intro i acc hi U8
  subst U8
  have:i=us.size:=by omega
  subst this
  simp[loadCellsFrom]
 |succ k ih=>
  intro i acc hi U8
  have hc:=h i (by omega)
  have lM:(⟨b,o,none⟩:Addr).add i=⟨b,o+i,none⟩:=by unfold Addr.add;split<;>simp_all
  have iH:i<us.size:=by omega
  rw[Array.getElem?_eq_getElem iH] at hc
  simp only[loadCellsFrom,load,Sem.run_bind,lM]
  rw[show(Sem.load .plain ⟨b,o+i,none⟩ Sem.pure:Sem Value).run P w= .ok us[i] w from by simp[Sem.run,hc]]
  simp only[Result.andThen]
  refine ih (i+1) _ (by omega) ?_
  subst U8
  simp
theorem CY {C:World->Prop}{t:TypeId}{b o:Nat}{us:Array Value}{d:TypeDesc}(w:World)(hw:C w)(hu:P.underlying t=some d)(hd:∃fs,d= .struct fs)(hi:(P.info? t).isSome=true)(hr:CX C b o (P.cellsOf t) us):
  (Instr.loadAt t (.pointer (some ⟨b,o,none⟩))).run P w= .ok (.agg us) w:=by
 obtain⟨fs,rfl⟩:=hd
 obtain⟨i,hi⟩:=Option.isSome_iff_exists.1 hi
 have:=run_loadCellsFrom (P:=P) w b o us (P.cellsOf t) hr.1 (hr.2 w hw) (P.cellsOf t) 0 #[] (by omega) (by simp)
 simp[Instr.loadAt,Instr.sureAddr,loadVar,isAgg,run_underlying hu,run_sizeOf w hi,loadCells,this]
theorem CZ {t:TypeId}{b o:Nat}{d:TypeDesc}{u:Value}(w:World)(hu:P.underlying t=some d)(U9:∀fs,d= .struct fs->False)(Lp:∀n e,d= .array n e->False)(hc:w.cell? ⟨b,o,none⟩=some u):
  (Instr.loadAt t (.pointer (some ⟨b,o,none⟩))).run P w= .ok u w:=by
 cases d<;>first|exact(U9 _ rfl).elim|exact(Lp _ _ rfl).elim|simp[Instr.loadAt,Instr.sureAddr,loadVar,isAgg,run_underlying hu,load,Sem.run,hc]
theorem b5 {C:World->Prop}{v:Value}{w:World}{s:Sem Value}(h:s.run P w= .ok v w):Oper.quietUpon P C w v ((do pure (.value (<-s)):Sem Next).run P w):=by
 rw[Sem.run_bind,h]
 exact⟨rfl,rfl⟩
theorem jU {C:World->Prop}{v:Value}{w:World}{s:Sem Value}(h:s.run P w= .ok v w):Oper.quietUpon P C w v ((s.run P w).andThen fun a w'=>.ok (.value a) w'):=by
 rw[h]
 exact⟨rfl,rfl⟩
theorem Hr {g:Operand->Option Value}{ρ:Operand->Value}(hg:∀x u,g x=some u->ρ x=u):∀(l:List Operand) (us:List Value),(l.map g).mapM id=some us->l.map ρ=us
 |[],us,h=>by simp at h;simp[h]
 |x::l,us,h=>by
  simp only[List.map_cons,List.mapM_cons,id_eq,Option.bind_eq_bind,Option.bind_eq_some_iff,Option.pure_def,Option.some.injEq] at h
  obtain⟨u,hu,vs,LO,rfl⟩:=h
  rw[List.map_cons,hg x u hu,Hr hg l vs LO]
theorem C0 {g:Operand->Option Value}{ρ:Operand->Value}(hg:∀x u,g x=some u->ρ x=u):∀(l:List (Nat×Operand)) (us:List (Nat×Value)),l.mapM (fun x=>(g x.2).map fun v=>(x.1,v))=some us->l.map (fun x=>(x.1,ρ x.2))=us
 |[],us,h=>by simp at h;simp[h]
 |x::l,us,h=>by
  simp only[List.mapM_cons,Option.bind_eq_bind,Option.bind_eq_some_iff,Option.pure_def,Option.some.injEq,Option.map_eq_some_iff] at h
  obtain⟨_,⟨u,hu,rfl⟩,vs,LO,rfl⟩:=h
  rw[List.map_cons,hg x.2 u hu,C0 hg l vs LO]
theorem oH {g:Operand->Option Value}{ρ:Operand->Value}(hg:∀x u,g x=some u->ρ x=u)(a:Array Operand)(us:List Value)(h:(a.toList.map g).mapM id=some us):a.map ρ=us.toArray:=by
 have:=Hr hg a.toList us h
 rw[<-this]
 apply Array.ext'
 rw[Array.toList_map]
theorem Hs {C:World->Prop}{g:Operand->Option Value}{ρ:Operand->Value}{o:Oper}{iq:Option Value}{v:Value}{p:Prop}(hg:∀x u,g x=some u->ρ x=u)
  (h:cT P C g o.op iq=some (v,p)) (hp:p) (w:World) (hw:C w):Oper.quietUpon P C w v ((execOp ρ o).run P w):=by
 cases fk:o.op<;>rw[fk] at h
 all_goals first|(cases h;done)|skip
 case move x=>
  simp only[cT] at h
  simp only[execOp,fk]
  obtain⟨u,hu,e⟩:=Option.map_eq_some_iff.1 h
  cases e
  rw[hg x _ hu]
  exact⟨rfl,rfl⟩
 case assign x=>
  simp only[cT] at h
  simp only[execOp,fk]
  obtain⟨u,hu,e⟩:=Option.map_eq_some_iff.1 h
  cases e
  rw[hg x _ hu]
  exact⟨rfl,rfl⟩
 case unOp uo t x=>
  cases uo
  all_goals first|(cases h;done)|skip
  simp only[cT] at h
  split at h
  .rename_i b hb
   cases h
   simp only[execOp,fk,hg x _ hb]
   exact⟨rfl,rfl⟩
  cases h
 case extract x i=>
  simp only[cT] at h
  split at h
  .rename_i vs hb
   obtain⟨u,hu,e⟩:=Option.map_eq_some_iff.1 h
   cases e
   simp only[execOp,fk,hg x _ hb]
   exact b5 (by simp[Instr.extract,hu])
  cases h
 case nilCheck x=>
  simp only[cT] at h
  split at h
  .rename_i a hb
   cases h
   simp only[execOp,fk,hg x _ hb]
   exact⟨rfl,rfl⟩
  cases h
 case binOp bo t x y t'=>
  simp only[cT] at h
  split at h
  .rename_i a b ha hb
   simp only[execOp,fk,hg x _ ha,hg y _ hb]
   exact b5 (LN h hp w)
  cases h
 case convert sT dT x=>
  simp only[cT] at h
  split at h
  .rename_i k1 k h1 h2
   split at h
   .rename_i k2 n h3
    cases h
    simp only[execOp,fk,hg x _ h3]
    refine b5 ?_
    have:k.wrap n=n:=hp.wrap
    simp[convert,run_underlying h1,run_underlying h2,Conv.intToInt,this]
   cases h
  .split at h
   .rename_i u' h3
    cases h
    simp only[execOp,fk,hg x _ h3]
    exact b5 (hp w hw)
   cases h
  cases h
 case index t x i=>
  simp only[cT] at h
  split at h
  .rename_i s k n h1 h2 h3
   cases h
   simp only[execOp,fk,hg x _ h2,hg i _ h3]
   refine b5 ?_
   obtain⟨h0,h4⟩:=hp
   have iH:n.toNat<s.size:=by omega
   have wD:s[n.toNat]?=some (s[n.toNat]'iH):=by simp[iH]
   have tI:Hq s n=((s[n.toNat]'iH).toNat:Int):=by
    unfold Hq
    congr 2
    rw[Array.getD_eq_getD_getElem?,Array.getElem?_eq_getElem iH]
    rfl
   simp[Instr.index,asIntOf,run_underlying h1,h0,wD,tI]
  cases h
 case indexAddr t x i=>
  simp only[cT] at h
  split at h
  .rename_i e v' k n h1 h2 h3
   cases h
   simp only[execOp,fk,hg x _ h2,hg i _ h3]
   refine b5 ?_
   obtain⟨hi,b,f,m,c,rfl,h0,h4⟩:=hp
   obtain⟨i,hi⟩:=Option.isSome_iff_exists.1 hi
   have lM:∀q,(⟨b,f,none⟩:Addr).add q=⟨b,f+q,none⟩:=by intro q;unfold Addr.add;split<;>simp_all
   simp[Instr.indexAt,asIntOf,run_underlying h1,h0,h4,run_sizeOf w hi,lM,zz,zA]
  cases h
 case fieldAddr t x f=>
  simp only[cT] at h
  split at h
  .rename_i fs b q h1 h2
   split at h
   .rename_i fd Qz
    cases h
    simp only[execOp,fk,hg x _ h2]
    refine b5 ?_
    simp[Instr.fieldAt,run_underlying h1,Qz,Instr.sureAddr,wC w hp]
   cases h
  cases h
 case load t x=>
  simp only[cT] at h
  split at h
  .rename_i fs b q us h1 h2
   cases h
   simp only[execOp,fk,hg x _ h2]
   exact b5 (CY w hw h1 ⟨_,rfl⟩ hp.1 hp.2)
  .cases h
  .cases h
  .rename_i d b q u zB CQ h1 h2
   cases h
   simp only[execOp,fk,hg x _ h2]
   exact b5 (CZ w h1 zB CQ (hp w hw))
  cases h
 case field t x f=>
  simp only[cT] at h
  split at h
  .rename_i fs cs h1 h2
   split at h
   .rename_i fd Qz
    split at h
    .rename_i fs' h3
     cases h
     simp only[execOp,fk,hg x _ h2]
     refine b5 ?_
     obtain⟨i,hi⟩:=Option.isSome_iff_exists.1 hp
     simp[Instr.field,run_underlying h1,Qz,asAgg,part,isAgg,run_underlying h3,run_sizeOf w hi]
    .cases h
    .rename_i d zB CQ h3
     obtain⟨u,hu,e⟩:=Option.map_eq_some_iff.1 h
     cases e
     simp only[execOp,fk,hg x _ h2]
     refine b5 ?_
     have uJ:(isAgg fd.type).run P w= .ok false w:=by
      cases d<;>first|exact(zB _ rfl).elim|exact(CQ _ _ rfl).elim|simp[isAgg,run_underlying h3]
     simp[Instr.field,run_underlying h1,Qz,asAgg,part,uJ,hu]
    cases h
   cases h
  cases h
 case build t ps=>
  simp only[cT] at h
  split at h
  .rename_i vs v' LO
   cases h
   have e:ps.map (fun x=>(x.1,ρ x.2))=vs.toArray:=by
    have:=C0 hg ps.toList vs LO
    rw[<-this]
    apply Array.ext'
    rw[Array.toList_map]
   simp only[execOp,fk]
   refine b5 ?_
   have:=hp w
   rw[<-e] at this
   exact this
  cases h
 case slice t x lo hi mx=>
  cases mx with
  |some m=>simp only[cT] at h;cases h
  |none=>
   simp only[cT] at h
   simp only[execOp,fk]
   split at h
   .rename_i v' l hh u h1 h2 h3
    cases h
    obtain⟨lx,rfl,g2⟩:=Option.map_eq_some_iff.1 h2
    obtain⟨hx,rfl,g3⟩:=Option.map_eq_some_iff.1 h3
    refine b5 ?_
    simp only[Option.map_some,Option.map_none,hg _ _ h1,hg _ _ g2,hg _ _ g3]
    exact hp w
   .rename_i v' l u h1 h2 h3
    cases h
    obtain⟨lx,rfl,g2⟩:=Option.map_eq_some_iff.1 h2
    cases Option.map_eq_none_iff.1 h3
    refine b5 ?_
    simp only[Option.map_some,Option.map_none,hg _ _ h1,hg _ _ g2]
    exact hp w
   .rename_i v' hh u h1 h2 h3
    cases h
    obtain⟨hx,rfl,g3⟩:=Option.map_eq_some_iff.1 h3
    cases Option.map_eq_none_iff.1 h2
    refine b5 ?_
    simp only[Option.map_some,Option.map_none,hg _ _ h1,hg _ _ g3]
    exact hp w
   .rename_i v' u h1 h2 h3
    cases h
    cases Option.map_eq_none_iff.1 h2
    cases Option.map_eq_none_iff.1 h3
    refine b5 ?_
    simp only[Option.map_some,Option.map_none,hg _ _ h1]
    exact hp w
   cases h
 case lookup t m k ok=>
  simp only[cT] at h
  split at h
  .rename_i vm vk u h1 h2
   cases h
   simp only[execOp,fk,hg _ _ h1,hg _ _ h2]
   exact b5 (hp w hw)
  cases h
 case call c=>
  simp only[cT] at h
  split at h
  .rename_i vs hc
   split at h
   .rename_i us v' JC
    cases h
    have ha:=oH hg c.args us JC
    simp only[execOp,fk,resolve,hc,Sem.run_bind,Sem.run_pure,Result.andThen_ok,ha,invoke,builtin]
    exact jU (hp _ w)
   cases h
  .rename_i vs hc
   split at h
   .rename_i us v' JC
    cases h
    have ha:=oH hg c.args us JC
    simp only[execOp,fk,resolve,hc,Sem.run_bind,Sem.run_pure,Result.andThen_ok,ha,invoke,builtin]
    exact jU (hp _ w)
   cases h
  .rename_i v' hc hl
   split at h
   .rename_i hu
    split at h
    .rename_i s
     cases h
     obtain⟨t,XN,ht1⟩:=Option.bind_eq_some_iff.1 hu
     have ha:=oH hg c.args [.string s] (by rw[hl];rfl)
     simp only[execOp,fk,resolve,hc,Sem.run_bind,Sem.run_pure,Result.andThen_ok,ha,invoke,builtin]
     refine jU (s:=Builtin.len_ c.argTypes o.type #[.string s]) ?_
     simp[Builtin.len_,XN,run_underlying ht1,goInt]
    cases h
   .rename_i e hu
    split at h
    .rename_i n
     cases h
     obtain⟨t,XN,ht1⟩:=Option.bind_eq_some_iff.1 hu
     obtain⟨q,m,cp,rfl,rfl⟩:=hp
     have ha:=oH hg c.args [.slice q m cp] (by rw[hl];rfl)
     simp only[execOp,fk,resolve,hc,Sem.run_bind,Sem.run_pure,Result.andThen_ok,ha,invoke,builtin]
     refine jU (s:=Builtin.len_ c.argTypes o.type #[.slice q m cp]) ?_
     simp[Builtin.len_,XN,run_underlying ht1,goInt]
    cases h
   cases h
  .rename_i x vs hc
   split at h
   .rename_i f first cap us v' hx JC
    cases h
    obtain⟨⟨fn,hf,hn,hb⟩,zC⟩:=hp
    have ha:=oH hg c.args us JC
    have e:(execOp ρ o).run P w= .ok (.enter f (first++us.toArray++cap)) w:=by
     have Yp:fn.name≠ "runtime.NumGoroutine" :=by simpa using hn
     have ng:fn.body≠none:=by intro e;rw[e] at hb;cases hb
     simp[execOp,fk,resolve,hc,ha,hg _ _ hx,Deferred.ofValue,invoke,callFunc,program,Sem.run,hf,Yp,ng]
    rw[e]
    exact⟨rfl,zC w hw⟩
   cases h
  cases h
end
structure Lq where
 slot:Nat
 ch:List (Nat×Bool)
 val:Value
abbrev Env:=List Lq
def Ht (a:Act)(l:Nat×Bool):Prop:=a.tmps[l.1]?=some (.bool l.2)
def jd (a:Act)(C:List (Nat×Bool)):Prop:=∀l∈C,Ht a l
def C2 (a:Act)(e:Lq):Prop:=(jd a e.ch->a.tmps[e.slot]?=some e.val)/\(¬jd a e.ch->a.tmps[e.slot]?=some undef)
def T7 (n:Nat)(a:Act)(env:Env):Prop:=a.tmps.size=n/\a.defers=[]/\∀e∈env,C2 a e
def look (env:Env)(t:Nat):Option Lq:=env.find? (fun e=>e.slot==t)
theorem look_ok {env:Env}{t:Nat}{e:Lq}(h:look env t=some e):e∈env/\e.slot=t:=
 ⟨List.mem_of_find?_eq_some h,by have:=List.find?_some h;simpa using this⟩
theorem oI {a:Act}{C D:List (Nat×Bool)}(h:C.isPrefixOf D=true)(hd:jd a D):jd a C:=by
 obtain⟨t,rfl⟩:=List.isPrefixOf_iff_prefix.1 h
 exact fun l hl=>hd l (List.mem_append_left _ hl)
theorem zD {a:Act}{l:Nat×Bool}{d:Nat}{v:Value}(h:l.1≠d):Ht (a.put (some d) v) l↔Ht a l:=by
 simp only[Ht,Act.put,Array.getElem?_setIfInBounds]
 rw[if_neg (fun e=>h e.symm)]
theorem l5 {a:Act}{C:List (Nat×Bool)}{d:Nat}{v:Value}(h:C.all (fun l=>l.1 !=d)=true):jd (a.put (some d) v) C↔jd a C:=by
 rw[List.all_eq_true] at h
 exact⟨fun hc l hl=>(zD (by simpa using h l hl)).1 (hc l hl),fun hc l hl=>(zD (by simpa using h l hl)).2 (hc l hl)⟩
theorem JD {a:Act}{e:Lq}{d:Nat}{v:Value}(h:(e.slot !=d && e.ch.all (fun l=>l.1 !=d))=true)(he:C2 a e):C2 (a.put (some d) v) e:=by
 rw[Bool.and_eq_true] at h
 have hs:(a.put (some d) v).tmps[e.slot]?=a.tmps[e.slot]?:=by
  simp only[Act.put,Array.getElem?_setIfInBounds]
  rw[if_neg (fun q=>by simp[q] at h)]
 refine⟨fun hc=>?_,fun hc=>?_⟩
 .rw[hs];exact he.1 ((l5 h.2).1 hc)
 rw[hs];exact he.2 (fun k=>hc ((l5 h.2).2 k))
def Hu (keep:List (Nat×Value)):Env:=keep.map fun x=>⟨x.1,[],x.2⟩
def sub:Code->List Nat->Code
 |c,[]=>c
 | .seq x y,k::p=>if k=0 then sub x p else sub y p
 | .cond _ x y,k::p=>if k=0 then sub x p else sub y p
 | .block _ b,_::p=>sub b p
 | .loop b,_::p=>sub b p
 | .scope b,_::p=>sub b p
 | .rangeFunc _ _ x y,k::p=>if k=0 then sub x p else sub y p
 |_,_::_=>.skip
def Yq:Code->Bool| .ret=>true|_=>false
theorem Hv (c:Code):sub c []=c:=by cases c<;>rfl
theorem LP (x y:Code):sub (.seq x y) [0]=x:=by simp only[sub];cases x<;>rfl
theorem LQ (x y:Code):sub (.seq x y) [1]=y:=by simp only[sub];cases y<;>rfl
theorem zF (c:Operand)(x y:Code):sub (.cond c x y) [0]=x:=by simp only[sub];cases x<;>rfl
theorem zG (c:Operand)(x y:Code):sub (.cond c x y) [1]=y:=by simp only[sub];cases y<;>rfl
theorem Ft (i:Nat)(x:Code):sub (.block i x) [0]=x:=by simp only[sub]
theorem JE (x:Code):sub (.loop x) [0]=x:=by simp only[sub]
theorem dU (k:Nat):∀(p:List Nat) (B:Code),sub B (p++[k])=sub (sub B p) [k]
 |[],B=>by cases B<;>rfl
 |j::p,B=>by
  cases B with
  |seq x y=>simp only[List.cons_append,sub];split<;>exact dU k p _
  |cond c x y=>simp only[List.cons_append,sub];split<;>exact dU k p _
  |block i b=>exact dU k p b
  |loop b=>exact dU k p b
  |scope b=>exact dU k p b
  |rangeFunc f ps x y=>simp only[List.cons_append,sub];split<;>exact dU k p _
  |_=>rfl
abbrev iu:=Exit->Act->World->Prop
theorem C3 {p:Nat->Prop}:∀n,p n->∃m,p m/\∀k,p k->m<=k:=by
 intro n
 induction n using Nat.strongRecOn with
 |_ n ih=>
  intro hn
  by_cases h:∃k,k<n/\p k
  .obtain⟨k,hk,hpk⟩:=h;exact ih k hk hpk
  exact⟨n,hn,fun k hk=>Nat.le_of_not_lt fun iH=>h ⟨k,iH,hk⟩⟩
section
variable {P:Program}{B:Code}{p:List Nat}{Q:iu}{a:Act}{w:World}
abbrev On (w:World):World->Prop:=fun w'=>Below w.heap.size w w'
theorem enter {f:FuncId}(fn:Func)(n:Nat){args:List Value}{R:Ending->World->Prop}(hf:P.funcs[f]?=some fn)
  (k:∀a,T7 n a (Hu ((List.range args.length).zip args))->(sub (fn.body.getD .skip) []).wp P (bodyPost P fn R) a w) (hb:fn.body.isSome=true:=by kernel_rfl) (hn:fn.ntmps=n:=by kernel_rfl) (hl:decide (args.length<=n)=true:=by kernel_rfl):Calls P f args.toArray w R:=by
 obtain⟨B,hb⟩:=Option.isSome_iff_exists.1 hb
 rw[hb] at k
 have hl:=of_decide_eq_true hl
 refine calls_of_wp hf hb ?_
 rw[<-Hv B]
 refine k _ ⟨?_,rfl,fun e he=>?_⟩
 .simp;omega
 obtain⟨x,hx,rfl⟩:=List.mem_map.1 he
 obtain⟨j,hj,rfl⟩:=List.getElem_of_mem hx
 have Hw:j<args.length:=by simp at hj;exact hj
 refine⟨fun _=>?_,fun hn=>(hn (fun l hl=>by simp at hl)).elim⟩
 simp only[List.getElem_zip,List.getElem_range]
 rw[Array.getElem?_append_left (by simpa using Hw)]
 simp[Hw]
end
abbrev Ans (v:Value)(w:World):Ending->World->Prop:=fun e w'=>e= .returned v/\Below w.heap.size w w'
theorem Yr {a b:ByteArray}(h:(a.toList==b.toList)=true):a=b:=by
 have:=beq_iff_eq.1 h
 rw[ByteArray.toList_eq,ByteArray.toList_eq] at this
 cases a;cases b
 congr 1
 exact Array.ext' this
theorem nT {b:Bool}(h:(!b)=true):b=false:=by simpa using h
section
variable {P:Program}{B:Code}{p:List Nat}{Q:iu}{a:Act}{w:World}
end
section
variable {P:Program}
theorem Fr.same {w0:Orig}{w:World}{S:aL}{rs rs':List nr}(h:Fr w0 w S rs)(e:rs=rs'):Fr w0 w S rs':=e▸h
variable {B:Code}{p:List Nat}{Q:iu}{a:Act}{w:World}
end
end Go.Proofs.YtnfdimfepbbbpaaGreat
namespace Go.Proofs.YtnfdimfepbbbpaaGreat
open Go.RowKit
class Flat (α:Type) extends Data α where
 enc:α->List Value
 fix:∀ {S w cs a},toData.rd S w cs a->cs=enc a
instance:Flat Int:={(inferInstance:Data Int) with enc:=fun n=>[.int .i64 n],fix:=fun h=>h}
instance:Flat Bool:={(inferInstance:Data Bool) with enc:=fun n=>[.bool n],fix:=fun h=>h}
instance:Flat ByteArray:={(inferInstance:Data ByteArray) with enc:=fun n=>[.string n],fix:=fun h=>h}
instance {α β:Type} [Flat α] [Flat β]:Flat (α×β):=
 {(inferInstance:Data (α×β)) with
  enc:=fun x=>Flat.enc x.1++Flat.enc x.2
  fix:=by rintro S w cs a ⟨c1,c2,rfl,h1,h2⟩;rw[Flat.fix h1,Flat.fix h2]}
abbrev Hy (o:Orig)(R:aL->Value->World->Prop):Ending->World->Prop:=fun e w'=> ∃v,e= .returned v/\R (qN o w') v w'/\Below o.w.heap.size o.w w'
section
variable {P:Program}{Q:iu}{a:Act}{w:World}
end
end Go.Proofs.YtnfdimfepbbbpaaGreat
namespace Go.Proofs.YtnfdimfepbbbpaaGreat
open Go.ChangeShapes Go.WideShapes Go.ChangeAt Go.RowKit
theorem Tryz.own:ownKnob Tryz.prog.godebug=none:=by kernel_rfl
theorem Tryz.laidOut:laidOutB Tryz.prog=true:=by kernel_rfl
theorem yV {H:Type}{enc:TypeId×Value->H}{P:Program}{f:Func}{s:ChangeSpec}{apart fresh handsOn:Bool}{W W':World}{args:Array Value}{v:Value}{ds gs:List (DataW H)}{before pa pv:List MemPlace}
  (hW:DataW.Whole enc P f.params.toList s.vars apart W args.toList ds gs before)
  (nt:∀(b:Nat) (sp:Nat->Bool) (hd:Bool),DataW.TrodAll enc P W' b sp hd f.resultTypes.toList (v.resultList f.resultTypes.size) (s.fn H (ds++gs)).results [])
  (dB:DataW.TrodAll enc P W' 0 (fun b=>decide (b<W.heap.size)) true f.params.toList args.toList (s.fn H (ds++gs)).args pa)
  (Ys:DataW.TrodVars enc P W' (fun b=>decide (b<W.heap.size)) s.vars (s.fn H (ds++gs)).vars pv)
  (JF:before=pa++pv) (hb:Below W.heap.size W W'):s.post enc P f apart fresh handsOn false W args v W':=by
 refine⟨ds,gs,before,[],pa,pv,hW,nt _ _ _,dB,Ys,World.keptBut_mono (fun p hp=>⟨hp,?_⟩) (hb.frame (· ∈before)),fun h=>by cases h⟩
 rw[JF,List.mem_append] at hp
 exact Or.inr hp
theorem wf_i64 {n:Int}(h:(Lit.int .i64 n).wf=true): -9223372036854775808<=n/\n<=9223372036854775807:=by
 simpa[Lit.wf,IntKind.min,IntKind.max,IntKind.signed,IntKind.bits] using h
theorem Va {P:Program}{ats:Array TypeId}{k:IntKind}{a b:Int}(ty:TypeId)(w:World):(Builtin.max_ ats ty [.int k a,.int k b].toArray).run P w= .ok (.int k (max a b)) w:=by
 have e:(if b>a then b else a)=max a b:=by split<;>omega
 simp[Builtin.max_,Builtin.max2,e]
theorem Vb {P:Program}{ats:Array TypeId}{k:IntKind}{a b:Int}(ty:TypeId)(w:World):(Builtin.min_ ats ty [.int k a,.int k b].toArray).run P w= .ok (.int k (min a b)) w:=by
 have e:(if b<a then b else a)=min a b:=by split<;>omega
 simp[Builtin.min_,Builtin.min2,e]
theorem QU {a:Int}{n:Nat}(h:1<=n):0<=(1:Int)/\a.fdiv (2 ^ (min (1:Int).toNat n))=a/2:=by
 refine⟨by decide,?_⟩
 rw[show min (1:Int).toNat n=1 by omega]
 exact Int.fdiv_eq_ediv_of_nonneg a (by decide)
section
variable {P:Program}{Q:iu}{a:Act}{w:World}
theorem n9 (w:World)(t e:TypeId)(b o:Nat)(vs us:List Value)(u:Value)(hb:w.heap[b]?=some (.cells vs.toArray e (0,0)))(hc:u.cells.toList=us)(ho:o+us.length<=vs.length)
  (cw:(P.info? t).map (·.size)=some us.length) (h1:∀v∈us,v.oneCell'=true):
  (Instr.storeAt t (.pointer (some ⟨b,o,none⟩)) u).run P w= .ok () (w.setRow b (vs.take o++us++vs.drop (o+us.length)).toArray):=by
 obtain⟨i,hi,hs⟩:=Option.map_eq_some_iff.1 cw
 have cH:u.cells.size=us.length:=by rw[<-hc,Array.length_toList]
 have zH:P.cellsOf t=us.length:=by simp[Program.cellsOf,hi,hs]
 have:=run_storeCells_at (P:=P) b o e us 0 vs.toArray w hb (by simpa using ho) h1
 simp only[Nat.add_zero] at this
 simp only[Instr.storeAt,Instr.sureAddr,storeVar,Sem.run_bind,Sem.run_pure,Result.andThen_ok,run_sizeOf w hi,hs,cH,zH,ne_eq,not_true_eq_false,if_false,hc]
 exact this
end
def Yt (w:World)(m:Option Nat)(w':World):Prop:=w.heap.size<=w'.heap.size/\∀k,k<w.heap.size->some k≠m->w'.heap[k]?=w.heap[k]?
theorem Yt.refl (w:World)(m:Option Nat):Yt w m w:=⟨Nat.le_refl _,fun _ _ _=>rfl⟩
theorem Yt.below {w w1 w2:World}{m:Option Nat}(h:Yt w m w1)(hb:Below w1.heap.size w1 w2):Yt w m w2:=
 ⟨Nat.le_trans h.1 hb.size,fun k hk hm=>(hb.block k (Nat.lt_of_lt_of_le hk h.1)).trans (h.2 k hk hm)⟩
section
variable {P:Program}{ops:Array Oper}{Q:Exit->Act->World->Prop}{D:World->Prop}
def Mix (P:Program)(ops:Array Oper)(Q:Exit->Act->World->Prop)(D:World->Prop)(hd:List Nat):Nat->Array Bool->Act->World->Prop
 |0,bp,a,w=>Region.ready .any ops bp=[]/\Q .normal a w
 |n+1,bp,a,w=>(Region.ready .any ops bp=[]->Q .normal a w)/\
  ∀i∈Region.ready .any ops bp,wpOp P ops Q i (fun a' w'=>(i∈hd->D w')/\Mix P ops Q D hd n (bp.setIfInBounds i true) a' w') a w
theorem Mix.any {hd:List Nat}:∀(n:Nat) (bp:Array Bool) (a:Act) (w:World),Mix P ops Q D hd n bp a w->wpAny P .any ops Q n bp a w
 |0,_,_,_,h=>h
 |n+1,_,_,_,h=>⟨h.1,fun i hi=>wpOp_mono (fun a' w' q=>Mix.any n _ a' w' q.2) (h.2 i hi)⟩
end
section
variable {P:Program}{B:Code}{p:List Nat}{Q:Exit->Act->World->Prop}{a:Act}{w:World}
end
abbrev Old (o:Orig)(S:aL):aL:=fun k=>k<o.w.heap.size\/S k
theorem Fr.old {o:Orig}{w:World}{S:aL}{rs:List nr}(H:Fr o w S rs){k:Nat}(h:Old o S k):k<w.heap.size:=by
 rcases h with h|h
 .exact Nat.lt_of_lt_of_le h H.below.size
 exact H.ig k h
theorem zI {α:Type}[Data α]{T:aL}{C:World->Prop}{w:World}{v:Value}{l:List α}(hC:∀w',C w'->cN T w w')(h:Rd T w v l){i:Int}(h0:0<=i)(h1:i<(l.length:Int))(d:α):
  ∃cs,Data.rd T w cs (l.getD i.toNat d)/\∀j,j<Data.size α->∀w',C w'->w'.cell? ⟨zz v,zA v+i.toNat*Data.size α+j,none⟩=cs[j]?:=by
 obtain⟨p,c,rfl,_,_,h3⟩:=cn h
 rcases h3 with rfl|⟨g,off,cur,t,fz,rfl,hg,hw,hc⟩
 .simp at h1;omega
 have hi:i.toNat<l.length:=by omega
 obtain⟨cs,hr,hj⟩:=hc i.toNat hi
 refine⟨cs,?_,fun j Hw w' Bj=>?_⟩
 .rw[List.getD_eq_getElem?_getD,List.getElem?_eq_getElem hi];exact hr
 show w'.cell? ⟨g,off+i.toNat*Data.size α+j,none⟩=_
 rw[cell_of_row w' g _ cur t fz ((hC w' Bj g hg).trans hw)]
 exact hj j Hw
section
variable {P:Program}{Q:Exit->Act->World->Prop}{a:Act}{w:World}
end
section
variable {P:Program}{Q:iu}{a:Act}{w:World}
end
theorem Fu {α:Type}[Data α]{S:aL}{w:World}:Rd S w (.slice none 0 0) ([]:List α):=
 gT ⟨none,0,rfl,by simp,by simp[maxLen],.inl rfl⟩
section
variable {P:Program}{Q:iu}{a:Act}{w:World}
end
end Go.Proofs.YtnfdimfepbbbpaaGreat
namespace Go.Proofs.YtnfdimfepbbbpaaGreat
open Go.ChangeShapes Go.WideShapes Go.ChangeAt Go.RowKit
def oa (P:Program)(t:TypeId){α:Type}[Data α](ok:α->Prop):Prop:=
 ∀ {H:Type} {enc:TypeId×Value->H} {w:World} {base:Nat} {sp:Nat->Bool} {hd:Bool} {fuel:Nat} {cs:List Value} {x:DataW H×List MemPlace},
  DataW.trod enc P w base sp hd fuel t cs=some x->∃a:α,Data.rd (· <w.heap.size) w cs a/\ok a
def aaD (n:Int):Prop:= -9223372036854775808<=n/\n<=9223372036854775807
theorem gJ {P:Program}{t:TypeId}(ht:P.underlying t=some (.int .i64)):oa P t aaD:=by
 intro H enc w base sp hd fuel cs x h
 obtain⟨n,rfl,_,hw⟩:=DataW.trod_int ht h
 exact⟨n,rfl,wf_i64 hw⟩
theorem j9 {P:Program}{t:TypeId}{f0 f1:Field}{α β:Type}[Data α][Data β]{Yu:α->Prop}{Yv:β->Prop}(ht:P.underlying t=some (.struct #[f0,f1]))(h0:oa P f0.type Yu)(h1:oa P f1.type Yv)
  (o0:f0.offset=0) (o1:f1.offset=Data.size α) (c0:P.cellsOf f0.type=Data.size α) (c1:P.cellsOf f1.type=Data.size β) (ct:P.cellsOf t=Data.size α+Data.size β):oa P t (α:=α×β) fun x=>Yu x.1/\Yv x.2:=by
 intro H enc w base sp hd fuel cs x h
 obtain⟨xs,n,_,_,cH,QV,hf⟩:=DataW.trod_struct ht h
 match xs,QV with
 |[y0,y1],_=>
  have g0:=hf 0 f0 rfl
  have g1:=hf 1 f1 rfl
  rw[o0,c0,List.drop_zero] at g0
  rw[o1,c1] at g1
  obtain⟨a,ra,ka⟩:=h0 (x:=y0) g0
  obtain⟨b,rb,kb⟩:=h1 (x:=y1) g1
  refine⟨(a,b),⟨_,_,?_,ra,rb⟩,ka,kb⟩
  have e1:(cs.drop (Data.size α)).take (Data.size β)=cs.drop (Data.size α):=List.take_of_length_le (by rw[List.length_drop,cH,ct];omega)
  rw[e1,List.take_append_drop]
theorem dP {P:Program}{t e:TypeId}{α:Type}[Data α]{ok:α->Prop}(ht:P.underlying t=some (.slice e))(h:oa P e ok)(hc:P.cellsOf e=Data.size α)(hp:0<Data.size α):oa P t (α:=List α) fun l=> ∀a∈l,ok a:=by
 intro H enc w base sp hd fuel cs x hx
 rcases Go.Deep.open_slice ht hx with⟨rfl,_⟩|⟨a,len,cap,m,n,D,Pl,rfl,hb,hl,hm,Fe,rfl,QW⟩
 .exact⟨[],⟨_,rfl,none,0,rfl,by simp,by simp[maxLen],.inl rfl⟩,by simp⟩
 have hlm:len<=m:=by rw[Fe];split<;>omega
 have each:∀i:Fin len,∃y:α,∃sk:List Value,(∀j,j<Data.size α->w.cell? ((a.add (i.val*Data.size α)).add j)=sk[j]?)/\sk.length=Data.size α/\Data.rd (· <w.heap.size) w sk y/\ok y:=by
  intro i
  obtain⟨sk,h1,h2⟩:=QW i.val (by omega)
  rw[hc] at h1
  obtain⟨_,hlen,jP⟩:=World.cells?_some h1
  obtain⟨y,ry,ky⟩:=h h2
  exact⟨y,sk,jP,hlen,ry,ky⟩
 refine⟨List.ofFn fun i=>Classical.choose (each i),⟨_,rfl,some a,cap,by rw[List.length_ofFn],by rw[List.length_ofFn];exact hl,hm,?_⟩,fun y hy=>?_⟩
 .by_cases h0:len=0
  .left;subst h0;rfl
  right
  obtain⟨cs0,k1,k2,_⟩:=Classical.choose_spec (each ⟨0,by omega⟩)
  have k0:=k1 0 hp
  rw[Go.Deep.add_add,List.getElem?_eq_getElem (by omega)] at k0
  have e0:a.add (0*Data.size α+0)=a:=by simp[Addr.add]
  simp only[e0] at k0
  obtain⟨g,off,spot⟩:=a
  unfold World.cell? at k0
  simp only at k0
  split at k0
  .rename_i cur ty fz LR
   split at k0
   .cases k0
   rename_i hs
   have zJ:spot=none:=by cases spot<;>simp_all
   subst zJ
   refine⟨g,off,cur,ty,fz,rfl,(Array.getElem?_eq_some_iff.1 LR).1,LR,fun i hi=>?_⟩
   rw[List.length_ofFn] at hi
   obtain⟨sk,k1,k2,k3,_⟩:=Classical.choose_spec (each ⟨i,hi⟩)
   refine⟨sk,by rw[List.getElem_ofFn];exact k3,fun j hj=>?_⟩
   rw[<-k1 j hj,Go.Deep.add_add]
   have lM:(⟨g,off,none⟩:Addr).add (i*Data.size α+j)=⟨g,off+(i*Data.size α+j),none⟩:=by unfold Addr.add;split<;>simp_all
   rw[lM,cell_of_row w g _ cur ty fz LR,Nat.add_assoc]
  cases k0
 obtain⟨i,rfl⟩:=List.mem_ofFn.1 hy
 obtain⟨sk,_,_,_,k4⟩:=Classical.choose_spec (each i)
 exact k4
theorem Fv {P:Program}{t:TypeId}{fs:Array Field}{α:Type}[Data α]{ok:α->Prop}(ho:oa P t ok)(ht:P.underlying t=some (.struct fs)){H:Type}{enc:TypeId×Value->H}{W:World}{b0:Nat}{sp:Nat->Bool}{hd:Bool}{v:Value}{d:DataW H}{ps:List MemPlace}
  (tL:Value.okWide P W .any b0 t v) (h:DataW.Trod enc P W 0 sp hd t v d ps):∃(cs:List Value) (a:α),v= .agg cs.toArray/\Data.rd (· <W.heap.size) W cs a/\ok a:=by
 obtain⟨cs,rfl,_⟩:=okWide_struct ht tL
 obtain⟨fuel,hx⟩:=h
 obtain⟨a,ha,hk⟩:=ho hx
 exact⟨cs.toList,a,rfl,ha,hk⟩
end Go.Proofs.YtnfdimfepbbbpaaGreat
namespace Go.Proofs.YtnfdimfepbbbpaaGreat
open Go.ChangeShapes Go.WideShapes Go.ChangeAt Go.RowKit
theorem Bk {P:Program}{t:TypeId}{f0 f1 f2:Field}{α β γ:Type}[Data α][Data β][Data γ]{Yu:α->Prop}{Yv:β->Prop}{ok2:γ->Prop}(ht:P.underlying t=some (.struct #[f0,f1,f2]))(h0:oa P f0.type Yu)(h1:oa P f1.type Yv)(h2:oa P f2.type ok2)
  (o0:f0.offset=0) (o1:f1.offset=Data.size α) (o2:f2.offset=Data.size α+Data.size β) (c0:P.cellsOf f0.type=Data.size α) (c1:P.cellsOf f1.type=Data.size β) (c2:P.cellsOf f2.type=Data.size γ) (ct:P.cellsOf t=Data.size α+(Data.size β+Data.size γ)):oa P t (α:=α×β×γ) fun x=>Yu x.1/\Yv x.2.1/\ok2 x.2.2:=by
 intro H enc w base sp hd fuel cs x h
 obtain⟨xs,n,_,_,cH,QV,hf⟩:=DataW.trod_struct ht h
 match xs,QV with
 |[y0,y1,y2],_=>
  have g0:=hf 0 f0 rfl
  have g1:=hf 1 f1 rfl
  have g2:=hf 2 f2 rfl
  rw[o0,c0,List.drop_zero] at g0
  rw[o1,c1] at g1
  rw[o2,c2] at g2
  obtain⟨a,ra,ka⟩:=h0 (x:=y0) g0
  obtain⟨b,rb,kb⟩:=h1 (x:=y1) g1
  obtain⟨c,rc,kc⟩:=h2 (x:=y2) g2
  refine⟨(a,b,c),⟨_,cs.drop (Data.size α),(List.take_append_drop _ _).symm,ra,⟨_,_,?_,rb,rc⟩⟩,ka,kb,kc⟩
  have e1:(cs.drop (Data.size α+Data.size β)).take (Data.size γ)=cs.drop (Data.size α+Data.size β):=List.take_of_length_le (by rw[List.length_drop,cH,ct];omega)
  rw[e1,<-List.drop_drop,List.take_append_drop]
section
variable {H:Type}{enc:TypeId×Value->H}{P:Program}{w:World}{base:Nat}{spare:Nat->Bool}{held:Bool}
end
end Go.Proofs.YtnfdimfepbbbpaaGreat
namespace Go.Proofs.YtnfdimfepbbbpaaGreat
open Go.ChangeShapes Go.WideShapes Go.ChangeAt Go.RowKit
theorem Hz {P:Program}{t:TypeId}{fs:Array Field}{α:Type}[Data α]{ok:α->Prop}(ho:oa P t ok)(ht:P.underlying t=some (.struct fs))(ha:Data.isAgg α=true){H:Type}{enc:TypeId×Value->H}{W:World}{b0:Nat}{sp:Nat->Bool}{hd:Bool}{v:Value}{d:DataW H}{ps:List MemPlace}
  (tL:Value.okWide P W .any b0 t v) (h:DataW.Trod enc P W 0 sp hd t v d ps):∃a:α,Rd (· <W.heap.size) W v a/\ok a:=by
 obtain⟨cs,a,rfl,hr,hk⟩:=Fv ho ht tL h
 exact⟨a,⟨cs,hr,by rw[if_pos ha]⟩,hk⟩
section
variable {P:Program}{Q:Exit->Act->World->Prop}{a:Act}{w:World}
end
def Rv (v:Value):Option (DataW Value×List MemPlace):=some (.held v,[])
def wfI (x:Int):Prop:= -9223372036854775808<=x/\x<=9223372036854775807
theorem Yw {x:Int}(h:wfI x):(Lit.int .i64 x).wf=true:=by
 have:=h.1;have:=h.2
 simp only[Lit.wf,IntKind.min,IntKind.max,IntKind.signed,IntKind.bits]
 simp
 omega
section
variable {P:Program}{B:Code}{p:List Nat}{Q:iu}{a:Act}{w:World}
end
end Go.Proofs.YtnfdimfepbbbpaaGreat
namespace Go.Proofs.YtnfdimfepbbbpaaGreat
open Go.RowKit
section
variable {P:Program}{Q:Exit->Act->World->Prop}{a:Act}{w:World}
end
structure Raw where
 v:Value
instance:Data Raw where
 size:=1
 isAgg:=false
 rd _ _ cs x:=cs=[x.v]/\x.v.oneCell'=true
 len h:=by rw[h.1];rfl
 up _ h:=h
 keep _ h:=h
 one h u hu:=by rw[h.1] at hu;simp at hu;subst hu;exact h.2
section
variable {P:Program}{o:Orig}{w:World}{S:aL}{rs:List nr}{kt et t:TypeId}
end
section
variable {P:Program}{Q:Exit->Act->World->Prop}{a:Act}{w:World}
end
section
variable {P:Program}{Q:Exit->Act->World->Prop}{a:Act}{w:World}
end
section
variable {P:Program}{Q:iu}{a:Act}{w:World}
end
def Vc (w:World)(ms:List Nat)(w':World):Prop:=w.heap.size<=w'.heap.size/\∀k,k<w.heap.size->k∉ms->w'.heap[k]?=w.heap[k]?
theorem Vc.below {w w1 w2:World}{ms:List Nat}(h:Vc w ms w1)(hb:Below w1.heap.size w1 w2):Vc w ms w2:=
 ⟨Nat.le_trans h.1 hb.size,fun k hk hm=>(hb.block k (Nat.lt_of_lt_of_le hk h.1)).trans (h.2 k hk hm)⟩
inductive Kc where
 |int
 |str
def bI:Kc->Type
 | .int=>Int
 | .str=>ByteArray
instance abJ:(k:Kc)->DecidableEq (bI k)
 | .int=>(inferInstance:DecidableEq Int)
 | .str=>(inferInstance:DecidableEq ByteArray)
def fJ:(k:Kc)->bI k->Value
 | .int,n=>.int .i64 n
 | .str,s=>.string s
def cU:(k:Kc)->bI k->Lit
 | .int,n=>.int .i64 n
 | .str,s=>.string s.data.toList
def gU:Kc->TypeDesc
 | .int=>.int .i64
 | .str=>.string
def dc:(k:Kc)->bI k->Prop
 | .int,n=>wfI n
 | .str,s=>ByteArray.size s<=maxLen
def ilt (a b:Int):Bool:=decide (a<b)
def Yx:(k:Kc)->bI k->bI k->Bool
 | .int,a,b=>ilt a b
 | .str,a,b=>bytesBefore a.data.toList b.data.toList
theorem LS:∀(k:Kc) (a b:bI k),(cU k a).before (cU k b)=Yx k a b
 | .int,_,_=>rfl
 | .str,_,_=>rfl
theorem C4:∀(k:Kc) {a b:bI k},cU k a=cU k b->a=b
 | .int,a,b,h=>by cases h;rfl
 | .str,a,b,h=>by
  have h:Lit.string a.data.toList= .string b.data.toList:=h
  have h2:=Lit.string.inj h
  obtain⟨⟨a⟩⟩:=a;obtain⟨⟨b⟩⟩:=b
  have h2:a=b:=h2
  subst h2;rfl
theorem pR (k:Kc)(a b:bI k):(cU k a).sameKey (cU k b)=decide (a=b):=by
 by_cases e:a=b
 .subst e
  rw[decide_eq_true rfl]
  cases k
  .have h:∀n:Int,(Lit.int .i64 n).sameKey (.int .i64 n)=true:=fun n=>by simp[Lit.sameKey]
   exact h a
  exact beq_self_eq_true _
 rw[decide_eq_false e]
 exact Bool.eq_false_iff.2 fun q=>e (C4 k (WideAt.sameKey_eq q))
def yW:Kc->Value->Option Lit
 | .int,.int q n=>if q= .i64/\(Lit.int .i64 n).wf=true then some (.int .i64 n) else none
 | .str,.string s=>if s.size<=maxLen then some (.string s.data.toList) else none
 |_,_=>none
section
variable {P P':Program}{kt CR et t:TypeId}{k:Kc}
theorem pS (h:P.underlying kt=some (gU k)):keyOf P kt=yW k:=by
 funext v
 cases k
 .have h:P.underlying kt=some (.int .i64):=h
  cases v<;>simp[keyOf,mapKey,h,yW]
 have h:P.underlying kt=some .string:=h
 cases v<;>simp[keyOf,mapKey,h,yW]
theorem nu (h:P.underlying kt=some (gU k)):Maps.Keyed P kt:=by
 cases k
 .exact Maps.int_keyed h
 exact Maps.string_keyed h
theorem nv (h:P.underlying kt=some (gU k)){x:bI k}(hw:dc k x):keyOf P kt (fJ k x)=some (cU k x):=by
 rw[pS h]
 cases k
 .have h:∀n:Int,wfI n->yW .int (.int .i64 n)=some (.int .i64 n):=fun n hn=>by unfold yW;exact if_pos ⟨rfl,Yw hn⟩
  exact h x hw
 have h:∀s:ByteArray,s.size<=maxLen->yW .str (.string s)=some (.string s.data.toList):=fun n hn=>by unfold yW;exact if_pos hn
 exact h x hw
theorem LU {v:Value}{l:Lit}(h:yW k v=some l):∃x:bI k,v=fJ k x/\l=cU k x/\dc k x:=by
 cases k
 .have key:∀v:Value,yW .int v=some l->∃n:Int,v= .int .i64 n/\l= .int .i64 n/\wfI n:=by
   intro v h
   cases v with
   |int q n=>
    have h:(if q= .i64/\(Lit.int .i64 n).wf=true then some (Lit.int .i64 n) else none)=some l:=h
    split at h
    .rename_i hq
     cases h;obtain⟨rfl,hw⟩:=hq
     refine⟨n,rfl,rfl,?_⟩
     have hw:(decide (IntKind.min .i64<=n) && decide (n<=IntKind.max .i64))=true:=hw
     simp only[Bool.and_eq_true,decide_eq_true_eq] at hw
     have h1:IntKind.min .i64= -9223372036854775808:=by decide
     have h2:IntKind.max .i64=9223372036854775807:=by decide
     rw[h1,h2] at hw
     exact hw
    cases h
   |_=>cases h
  exact key v h
 have key:∀v:Value,yW .str v=some l->∃s:ByteArray,v= .string s/\l= .string s.data.toList/\s.size<=maxLen:=by
  intro v h
  cases v with
  |string s=>
   have h:(if s.size<=maxLen then some (Lit.string s.data.toList) else none)=some l:=h
   split at h
   .rename_i hq;cases h;exact⟨s,rfl,rfl,hq⟩
   cases h
  |_=>cases h
 exact key v h
end
section
variable {k:Kc}{α β:Type}
def aI (l:List (bI k×α))(x:bI k):Option α:=(l.find? fun p=>decide (p.1=x)).map (·.2)
def kS (l:List (bI k×α))(x:bI k):List (bI k×α):=l.filter fun p=>!decide (p.1=x)
def kT (p:bI k×α):List (bI k×α)->List (bI k×α)
 |[]=>[p]
 |y::r=>if Yx k p.1 y.1 then p::y::r else y::kT p r
def gu (l:List (bI k×α))(x:bI k)(v:α):List (bI k×α):=kT (x,v) (kS l x)
def kU (l:List (bI k×Value)):DataW Value:=.map (l.map fun p=>(cU k p.1,.held p.2))
theorem C5 (p:bI k×Value):∀l:List (bI k×Value),(kT p l).map (fun p=>(cU k p.1,DataW.held p.2))=DataW.insert (cU k p.1,.held p.2) (l.map fun p=>(cU k p.1,DataW.held p.2))
 |[]=>rfl
 |y::r=>by
  simp only[kT,List.map_cons,DataW.insert,LS]
  split
  .rfl
  rw[List.map_cons,C5 p r]
theorem HA (l:List (bI k×Value))(x:bI k):(kU l).del (cU k x)=kU (kS l x):=by
 unfold kU DataW.del kS
 simp only[List.filter_map]
 congr 2
 refine List.filter_congr fun p _=>?_
 simp only[Function.comp_apply,pR]
theorem QX (l:List (bI k×Value))(x:bI k)(v:Value):(kU l).put (cU k x) (.held v)=kU (gu l x v):=by
 have h:(kU l).put (cU k x) (.held v)= .map (DataW.insert (cU k x,.held v) ((l.map fun p=>(cU k p.1,DataW.held p.2)).filter fun p=>!p.1.sameKey (cU k x))):=rfl
 have h2:(kU l).del (cU k x)= .map ((l.map fun p=>(cU k p.1,DataW.held p.2)).filter fun p=>!p.1.sameKey (cU k x)):=rfl
 rw[HA] at h2
 have h3:=DataW.map.inj h2
 rw[h,<-h3]
 exact congrArg DataW.map (C5 (x,v) (kS l x)).symm
theorem Fw (l:List (bI k×Value))(x:bI k)(z:DataW Value):(kU l).atKey (cU k x) z=match aI l x with|some v=>.held v|none=>z:=by
 unfold kU aI DataW.atKey
 simp only[List.find?_map]
 have:((fun p:Lit×DataW Value=>p.1.sameKey (cU k x))∘fun p:bI k×Value=>(cU k p.1,DataW.held p.2))=fun p=>decide (p.1=x):=by
  funext p;exact pR k _ _
 rw[this]
 cases l.find? fun p=>decide (p.1=x)<;>rfl
theorem HB (l:List (bI k×Value))(x:bI k):Maps.has (kU l) (cU k x)=(aI l x).isSome:=by
 unfold kU aI Maps.has
 simp only[List.any_map,Option.isSome_map,List.find?_isSome]
 rw[Bool.eq_iff_iff]
 simp[pR]
theorem C6 (p:bI k×α):∀l:List (bI k×α),(kT p l).length=l.length+1
 |[]=>rfl
 |y::r=>by unfold kT;split<;>simp[C6 p r]
theorem LV (l:List (bI k×α))(x:bI k)(v:α):(gu l x v).length<=l.length+1:=by
 unfold gu kS;rw[C6];exact Nat.succ_le_succ (List.length_filter_le _ _)
theorem LW (l:List (bI k×α))(x:bI k):(kS l x).length<=l.length:=List.length_filter_le _ _
theorem C7 (f:α->β)(p:bI k×α):∀l:List (bI k×α),(kT p l).map (fun q=>(q.1,f q.2))=kT (p.1,f p.2) (l.map fun q=>(q.1,f q.2))
 |[]=>rfl
 |y::r=>by
  simp only[kT,List.map_cons];split;· rfl
  .rw[List.map_cons,C7 f p r]
theorem wE (f:α->β)(l:List (bI k×α))(x:bI k):(kS l x).map (fun q=>(q.1,f q.2))=kS (l.map fun q=>(q.1,f q.2)) x:=by
 unfold kS;rw[List.filter_map];rfl
theorem jr (f:α->β)(l:List (bI k×α))(x:bI k)(v:α):(gu l x v).map (fun q=>(q.1,f q.2))=gu (l.map fun q=>(q.1,f q.2)) x (f v):=by
 unfold gu;rw[C7,wE]
theorem eR (f:α->β)(l:List (bI k×α))(x:bI k):aI (l.map fun q=>(q.1,f q.2)) x=(aI l x).map f:=by
 unfold aI;rw[List.find?_map]
 show Option.map _ (Option.map _ (l.find? fun p=>decide (p.1=x)))=_
 cases l.find? fun p=>decide (p.1=x)<;>rfl
theorem wF {p q:bI k×α}:∀ {l:List (bI k×α)},q∈kT p l↔q=p\/q∈l
 |[]=>by simp[kT]
 |y::r=>by
  unfold kT;split
  .simp
  simp only[List.mem_cons,wF (l:=r)]
  constructor
  .rintro(h|h|h)
   .exact .inr (.inl h)
   .exact .inl h
   exact .inr (.inr h)
  rintro(h|h|h)
  .exact .inr (.inl h)
  .exact .inl h
  exact .inr (.inr h)
theorem oJ {l:List (bI k×α)}{x:bI k}{v:α}{q:bI k×α}:q∈gu l x v↔q=(x,v)\/q∈l/\q.1≠x:=by
 unfold gu kS;rw[wF];simp
theorem je {l:List (bI k×α)}{x:bI k}{v:α}(h:aI l x=some v):(x,v)∈l:=by
 unfold aI at h
 obtain⟨p,h1,h2⟩:=Option.map_eq_some_iff.1 h
 have:=List.find?_some h1
 have e:p.1=x:=by simpa using this
 subst e;subst h2
 exact List.mem_of_find?_eq_some h1
theorem rz {l:List (bI k×α)}{x:bI k}:aI l x=none↔∀v,(x,v)∉l:=by
 unfold aI
 rw[Option.map_eq_none_iff,List.find?_eq_none]
 constructor
 .intro h v hm;have:=h _ hm;simp at this
 intro h p hp q;have e:p.1=x:=by simpa using q
 exact h p.2 (by rw[<-e];exact hp)
theorem zK (p:bI k×α)(x:bI k):∀l:List (bI k×α),(∀q∈l,q.1≠p.1)->aI (kT p l) x=if p.1=x then some p.2 else aI l x
 |[],_=>by unfold aI kT;by_cases e:p.1=x<;>simp[e]
 |y::r,h=>by
  have ih:=zK p x r fun q hq=>h q (List.mem_cons_of_mem _ hq)
  unfold kT
  split
  .unfold aI
   by_cases e:p.1=x
   .simp[e]
   simp[List.find?_cons,e]
  by_cases e2:y.1=x
  .have dL:p.1≠x:=fun e=>h y (by simp) (e2.trans e.symm)
   rw[if_neg dL]
   unfold aI;simp[List.find?_cons,e2]
  have s1:aI (y::kT p r) x=aI (kT p r) x:=by unfold aI;simp[List.find?_cons,e2]
  have s2:aI (y::r) x=aI r x:=by unfold aI;simp[List.find?_cons,e2]
  rw[s1,s2,ih]
theorem zL (l:List (bI k×α))(y x:bI k):aI (kS l y) x=if y=x then none else aI l x:=by
 by_cases e:y=x
 .rw[if_pos e,rz]
  intro v hm
  unfold kS at hm
  have:=(List.mem_filter.1 hm).2
  simp[e] at this
 rw[if_neg e]
 unfold aI kS
 rw[List.find?_filter]
 congr 2
 funext p
 by_cases q:p.1=x
 .have:¬x=y:=fun h=>e h.symm
  simp[q,this]
 simp[q]
theorem zM (l:List (bI k×α))(y x:bI k)(v:α):aI (gu l y v) x=if y=x then some v else aI l x:=by
 unfold gu
 rw[zK _ _ _ (fun q hq=>by have:=(List.mem_filter.1 hq).2;simpa using this),zL]
 by_cases e:y=x
 .rw[if_pos e,if_pos e]
 rw[if_neg e,if_neg e,if_neg e]
end
def dg (k:Kc)(w:World)(b:Nat)(l:List (bI k×Value)):Prop:=∃P kt,P.underlying kt=some (gU k)/\w.ownsMap P kt Rv b l.length (kU l)
section
variable {P P':Program}{kt CR et t:TypeId}{k:Kc}{w w':World}{b n:Nat}{l:List (bI k×Value)}
theorem JG (h:keyOf P kt=keyOf P' CR){D:DataW Value}(ho:w.ownsMap P kt Rv b n D):w.ownsMap P' CR Rv b n D:=by
 obtain⟨es,clock,hb,F,hs,hD⟩:=ho
 have gz:WideElems.rd P kt Rv=WideElems.rd P' CR Rv:=by
  funext x;unfold WideElems.rd;rw[h]
 have Yy:WideElems.rg P kt Rv=WideElems.rg P' CR Rv:=by
  funext x;unfold WideElems.rg;rw[gz]
 exact⟨es,clock,hb,⟨F.size,F.stamped,by rw[<-gz];exact F.reads⟩,hs,by rw[<-Yy];exact hD⟩
theorem LX {D:DataW Value}(ho:w.ownsMap P kt Rv b n D):w.ownsMap P kt Rv b (Maps.size D) D:=by
 obtain⟨es,clock,hb,F,hs,rfl⟩:=ho
 exact⟨es,clock,hb,F,by simp[Maps.size,length_sorted],rfl⟩
theorem dg.to (h:dg k w b l)(hu:P.underlying kt=some (gU k)):w.ownsMap P kt Rv b l.length (kU l):=by
 obtain⟨P',CR,T8,ho⟩:=h
 exact JG ((pS T8).trans (pS hu).symm) ho
theorem dg.mk (hu:P.underlying kt=some (gU k))(ho:w.ownsMap P kt Rv b n (kU l)):dg k w b l:=by
 have:=LX ho
 have e:Maps.size (kU l)=l.length:=by simp[Maps.size,kU]
 rw[e] at this
 exact⟨P,kt,hu,this⟩
theorem dg.keep (h:dg k w b l)(hb:w'.heap[b]?=w.heap[b]?):dg k w' b l:=by
 obtain⟨P,kt,hu,es,clock,ng,r⟩:=h
 exact⟨P,kt,hu,es,clock,hb.trans ng,r⟩
theorem dg.lt (h:dg k w b l):b<w.heap.size:=by obtain⟨P,kt,hu,ho⟩:=h;exact ho.lt
theorem dg.new (w:World)(hu:P.underlying kt=some (gU k)):dg k (w.alloc (.map #[] 0)) w.heap.size []:=dg.mk hu (World.ownsMap_made (H:=Value) w P kt Rv)
theorem dg.look (h:dg k w b l)(ht:P.underlying t=some (.map kt et))(hu:P.underlying kt=some (gU k)){z:Value}(hz:(zeroValue et).run P w= .ok z w){x:bI k}(hx:dc k x):
  (Instr.lookup t (.map (some b)) (fJ k x) false).run P w= .ok ((aI l x).getD z) w:=by
 obtain⟨v,ps,bY,hv⟩:=(h.to hu).lookup (nu hu) ht hz (zd:=.held z) (zp:=[]) rfl (nv hu hx)
 rw[Fw] at hv
 rw[bY]
 cases hl:aI l x with
 |none=>rw[hl] at hv;simp only[Rv,Option.some.injEq,Prod.mk.injEq,DataW.held.injEq] at hv;rw[hv.1];rfl
 |some u=>rw[hl] at hv;simp only[Rv,Option.some.injEq,Prod.mk.injEq,DataW.held.injEq] at hv;rw[hv.1];rfl
theorem dg.zN (h:dg k w b l)(ht:P.underlying t=some (.map kt et))(hu:P.underlying kt=some (gU k)){z:Value}(hz:(zeroValue et).run P w= .ok z w){x:bI k}(hx:dc k x):
  (Instr.lookup t (.map (some b)) (fJ k x) true).run P w= .ok (.tuple #[(aI l x).getD z,.bool (aI l x).isSome]) w:=by
 obtain⟨v,ps,bY,hv⟩:=(h.to hu).look_ok (nu hu) ht hz (zd:=.held z) (zp:=[]) rfl (nv hu hx)
 rw[Fw] at hv
 rw[bY,HB]
 cases hl:aI l x with
 |none=>rw[hl] at hv;simp only[Rv,Option.some.injEq,Prod.mk.injEq,DataW.held.injEq] at hv;rw[hv.1];rfl
 |some u=>rw[hl] at hv;simp only[Rv,Option.some.injEq,Prod.mk.injEq,DataW.held.injEq] at hv;rw[hv.1];rfl
theorem dg.put (h:dg k w b l)(ht:P.underlying t=some (.map kt et))(hu:P.underlying kt=some (gU k))(hl:l.length<=2147483647){x:bI k}(hx:dc k x)(v:Value):
  ∃w',(Instr.mapUpdate t (.map (some b)) (fJ k x) v).run P w= .ok () w'/\dg k w' b (gu l x v)/\w.grownBy w' (some b)/\w'.heap.size=w.heap.size:=by
 obtain⟨w',bY,ho,hG⟩:=(h.to hu).store (nu hu) ht (by simp only[maxLen];omega) (nv hu hx) (val:=v) (d:=.held v) (ps:=[]) rfl
 rw[QX] at ho
 refine⟨w',bY,dg.mk hu ho,hG.grown,?_⟩
 obtain⟨_,_,_,_,_,rfl⟩:=hG
 simp[ChangeMaps.setBlock]
theorem dg.drop (h:dg k w b l)(ht:P.underlying t=some (.map kt et))(hu:P.underlying kt=some (gU k)){x:bI k}(hx:dc k x)(ty:TypeId):
  ∃w',(Builtin.delete_ #[t,kt] ty #[.map (some b),fJ k x]).run P w= .ok (.tuple #[]) w'/\dg k w' b (kS l x)/\w.grownBy w' (some b):=by
 obtain⟨w',bY,ho,hG⟩:=(h.to hu).drop (nu hu) ht (nv hu hx) ty
 rw[HA] at ho
 exact⟨w',bY,dg.mk hu ho,hG.grown⟩
theorem dg.len (h:dg k w b l)(ht:P.underlying t=some (.map kt et))(hu:P.underlying kt=some (gU k))(ty:TypeId):(Builtin.len_ #[t] ty #[.map (some b)]).run P w= .ok (.int .i64 (l.length:Int)) w:=by
 have:=(h.to hu).len ht ty
 have e:Maps.size (kU l)=l.length:=by simp[Maps.size,kU]
 rw[e] at this;exact this
end
section
variable {α:Type}
def ah (m:List (Int×α))(x:Int):Option α:=aI (k:=.int) m x
def cB (m:List (Int×α))(x:Int)(v:α):List (Int×α):=gu (k:=.int) m x v
def wG (m:List (Int×α))(x:Int):List (Int×α):=kS (k:=.int) m x
theorem bO (m:List (Int×α))(y x:Int)(v:α):ah (cB m y v) x=if y=x then some v else ah m x:=zM (k:=.int) m y x v
theorem wH (m:List (Int×α))(y x:Int):ah (wG m y) x=if y=x then none else ah m x:=zL (k:=.int) m y x
theorem dh (m:List (Int×α))(x:Int)(v:α):(cB m x v).length<=m.length+1:=LV (k:=.int) m x v
theorem l6 {m:List (Int×α)}{x:Int}:ah m x=none↔∀v,(x,v)∉m:=rz (k:=.int)
theorem lz {m:List (Int×α)}{x:Int}{v:α}(h:ah m x=some v):(x,v)∈m:=je (k:=.int) h
theorem HC {m:List (Int×α)}{x:Int}{v:α}{q:Int×α}:q∈cB m x v↔q=(x,v)\/q∈m/\q.1≠x:=oJ (k:=.int)
theorem tM {k:Kc}(p:bI k×α):∀l:List (bI k×α),(kT p l).Perm (p::l)
 |[]=>List.Perm.refl _
 |y::r=>by
  unfold kT;split
  .exact List.Perm.refl _
  exact(List.Perm.cons y (tM p r)).trans (List.Perm.swap p y r)
theorem JH {k:Kc}{l:List (bI k×α)}{x:bI k}(h:aI l x=none):kS l x=l:=by
 unfold kS
 rw[List.filter_eq_self]
 intro p hp
 have:=rz.1 h p.2
 by_cases e:p.1=x
 .exact(this (by rw[<-e];exact hp)).elim
 simp[e]
theorem JI {k:Kc}{l:List (bI k×α)}{x:bI k}{v:α}(h:aI l x=none):(gu l x v).Perm ((x,v)::l):=by
 unfold gu;rw[JH h];exact tM _ _
theorem C8 {m:List (Int×α)}{x:Int}{v:α}(h:ah m x=none):(cB m x v).Perm ((x,v)::m):=JI (k:=.int) h
end
theorem JJ {P P':Program}{r b since c0 clock:Nat}{seen:Array Nat}{es:Array MapEntry}{w w':World}{v:Value}(h:(Instr.entry (.pointer (some ⟨r,0,none⟩))).run P w= .ok v w)
  (hb:w.heap[b]?=some (.map es clock)) (hr:w.heap[r]?=some (.mapIter (some b) since seen c0)) (ng:w'.heap[b]?=w.heap[b]?) (Hp:w'.heap[r]?=w.heap[r]?):(Instr.entry (.pointer (some ⟨r,0,none⟩))).run P' w'= .ok v w':=by
 rw[hb] at ng;rw[hr] at Hp
 simp only[Instr.entry,getObj,Sem.run_bind,Sem.run,hr,hb,Result.andThen] at h
 simp only[Instr.entry,getObj,Sem.run_bind,Sem.run,Hp,ng,Result.andThen]
 revert h
 generalize seen.back?=bk
 cases bk with
 |none=>intro h;simp[Sem.run] at h
 |some q=>
  intro h
  simp only[Sem.run_bind,Sem.run,hb,Result.andThen] at h
  simp only[Sem.run_bind,Sem.run,ng,Result.andThen]
  revert h
  cases hq:(clock !=c0) with
  |true=>intro h;simp[Sem.run,Sem.run_bind,unsupported,Result.andThen] at h
  |false=>
   simp only[Bool.false_eq_true,if_false]
   cases hf:es.find? (fun x=>x.born==q) with
   |none=>intro h;simp[Sem.run,unsupported] at h
   |some e=>intro h;simp only[Sem.run_pure] at h ⊢;cases h;rfl
def jI (k:Kc)(w:World)(mb r:Nat)(l:List (bI k×Value))(lf:bI k->Bool)(cnt:Nat)(cur:Option (bI k×Value)):Prop:=
 (∃P kt left,P.underlying kt=some (gU k)/\w.ranges P kt Rv mb r l.length (kU l) left cnt/\∀x,left (cU k x)=lf x)/\
 ∀x v,cur=some (x,v)->∀(P:Program) (w':World),w'.heap[mb]?=w.heap[mb]?->w'.heap[r]?=w.heap[r]?->(Instr.entry (.pointer (some ⟨r,0,none⟩))).run P w'= .ok (.tuple #[fJ k x,v]) w'
section
variable {P P':Program}{kt CR et t:TypeId}{k:Kc}{w w':World}{mb r n cnt:Nat}{l:List (bI k×Value)}{lf:bI k->Bool}{cur:Option (bI k×Value)}
theorem jI.keep (h:jI k w mb r l lf cnt cur)(hb:w'.heap[mb]?=w.heap[mb]?)(hr:w'.heap[r]?=w.heap[r]?):jI k w' mb r l lf cnt cur:=by
 obtain⟨⟨P,kt,left,hu,⟨es,clock,since,seen,c0,h1,F,hs,hD,h2,rest⟩,hl⟩,hc⟩:=h
 exact⟨⟨P,kt,left,hu,⟨es,clock,since,seen,c0,hb.trans h1,F,hs,hD,hr.trans h2,rest⟩,hl⟩,fun x v e P w'' h3 h4=>hc x v e P w'' (h3.trans hb) (h4.trans hr)⟩
theorem jI.lt (h:jI k w mb r l lf cnt cur):r<w.heap.size:=by obtain⟨⟨P,kt,left,hu,h,_⟩,_⟩:=h;exact h.lt
theorem jI.ne (h:jI k w mb r l lf cnt cur):r≠mb:=by obtain⟨⟨P,kt,left,hu,h,_⟩,_⟩:=h;exact h.ne
theorem dg.range (h:dg k w mb l)(ht:P.underlying t=some (.map kt et))(hu:P.underlying kt=some (gU k)):
  ∃w',(Instr.range t (.map (some mb))).run P w= .ok (.pointer (some ⟨w.heap.size,0,none⟩)) w'/\jI k w' mb w.heap.size l (fun x=>(aI l x).isSome) l.length none/\w.grownBy w' none/\w'.heap.size=w.heap.size+1:=by
 obtain⟨w',h1,h2,h3,h4⟩:=(h.to hu).range (nu hu) ht
 have e:Maps.size (kU l)=l.length:=by simp[Maps.size,kU]
 rw[e] at h2
 exact⟨w',h1,⟨⟨P,kt,_,hu,h2,fun x=>HB l x⟩,fun _ _ q=>by cases q⟩,h3,h4⟩
theorem C9 (h:keyOf P kt=keyOf P' CR){D:DataW Value}{left:Lit->Bool}(ho:w.ranges P kt Rv mb r n D left cnt):w.ranges P' CR Rv mb r n D left cnt:=by
 have gz:WideElems.rd P kt Rv=WideElems.rd P' CR Rv:=by
  funext x;unfold WideElems.rd;rw[h]
 have Yy:WideElems.rg P kt Rv=WideElems.rg P' CR Rv:=by
  funext x;unfold WideElems.rg;rw[gz]
 obtain⟨es,clock,since,seen,c0,hb,F,hs,hD,h1,h2,h3,h4,h5,h6⟩:=ho
 exact⟨es,clock,since,seen,c0,hb,⟨F.size,F.stamped,by rw[<-gz];exact F.reads⟩,hs,by rw[<-Yy];exact hD,h1,h2,h3,by rw[<-Yy];exact h4,by rw[<-Yy];exact h5,h6⟩
theorem jI.next (h:jI k w mb r l lf cnt cur)(hu:P.underlying kt=some (gU k))(ty:TypeId):
  ((∀x,lf x=false)/\(Instr.next (.pointer (some ⟨r,0,none⟩)) false ty).run P w= .ok (.tuple #[.bool false]) w)\/
  ∃x v w' jt,lf x=true/\dc k x/\aI l x=some v/\jt<cnt/\(Instr.next (.pointer (some ⟨r,0,none⟩)) false ty).run P w= .ok (.tuple #[.bool true,fJ k x,v]) w'/\
   jI k w' mb r l (fun z=>lf z && !decide (z=x)) jt (some (x,v))/\w.grownBy w' (some r)/\w'.heap.size=w.heap.size:=by
 obtain⟨⟨P',CR,left,T8,JK,hl⟩,_⟩:=h
 have hR:w.ranges P kt Rv mb r l.length (kU l) left cnt:=C9 ((pS T8).trans (pS hu).symm) JK
 have dL:=hR.ne
 rcases hR.next (nu hu) ty with⟨_,h2,h3⟩|⟨key,v,kl,y,w',jt,h1,h2,h3,h4,h5,h6,h7,h8,h9,h10⟩
 .exact .inl ⟨fun x=>by rw[<-hl];exact h2 _,h3⟩
 rw[pS hu] at h1
 obtain⟨x,rfl,rfl,hw⟩:=LU h1
 simp only[Rv,Option.some.injEq] at h3
 subst h3
 have qG:aI l x=some v:=by
  have a:=h4 (.held (.bool false))
  have b:=h4 (.held (.bool true))
  rw[Fw] at a b
  cases hq:aI l x with
  |none=>
   rw[hq] at a b
   have a:DataW.held (Value.bool false)= .held v:=a
   have b:DataW.held (Value.bool true)= .held v:=b
   rw[<-b] at a;cases a
  |some u=>rw[hq] at a;have a:DataW.held u= .held v:=a;cases a;rfl
 obtain⟨es,clock,since,seen,c0,e1,F,hs,hD,e2,e3⟩:=h6
 refine .inr ⟨x,v,w',jt,by rw[<-hl];exact h2,hw,qG,h7,h5,⟨⟨P,kt,fun q=>left q && !q.sameKey (cU k x),hu,⟨es,clock,since,seen,c0,e1,F,hs,hD,e2,e3⟩,fun z=>?_⟩,fun x' v' q P2 w2 q1 q2=>?_⟩,h8,h9⟩
 .show(left (cU k z) && !(cU k z).sameKey (cU k x))=_
  rw[hl,pR]
 cases q
 exact JJ h10 e1 e2 q1 q2
theorem zO (ht:P.underlying t=some (.map kt et)):(Instr.range t (.map none)).run P w= .ok (.pointer (some ⟨w.heap.size,0,none⟩)) (w.alloc (.mapIter none 0 #[] 0)):=by
 simp[Instr.range,run_underlying ht,newObj,Result.andThen,Sem.run,Sem.run_bind,Sem.run_pure]
theorem LY {since c0:Nat}{seen:Array Nat}(hr:w.heap[r]?=some (.mapIter none since seen c0))(ty:TypeId):(Instr.next (.pointer (some ⟨r,0,none⟩)) false ty).run P w= .ok (.tuple #[.bool false]) w:=by
 simp[Instr.next,getObj,Sem.run_bind,Sem.run,hr,Result.andThen]
end
end Go.Proofs.YtnfdimfepbbbpaaGreat
namespace Go.Proofs.YtnfdimfepbbbpaaGreat
open Go.RowKit Maps ChangeMaps WideElems
def JL (k:Kc)(w:World)(b:Nat)(x:bI k)(st:Int):Prop:=∃(es:Array MapEntry) (clock j:Nat) (e:MapEntry),w.heap[b]?=some (.map es clock)/\es[j]?=some e/\e.key=fJ k x/\(e.born:Int)=st
theorem JL.keep {k:Kc}{w w':World}{b:Nat}{x:bI k}{st:Int}(h:JL k w b x st)(hb:w'.heap[b]?=w.heap[b]?):JL k w' b x st:=let⟨es,c,j,e,h1,h2⟩:=h;⟨es,c,j,e,hb.trans h1,h2⟩
section
variable {P:Program}{kt et t:TypeId}{k:Kc}{w w':World}{b:Nat}{l:List (bI k×Value)}
theorem sn {es:Array MapEntry}{clock:Nat}{o:Obj}(hb:w.heap[b]?=some (.map es clock)):(ChangeMaps.setBlock w b o).heap[b]?=some o:=by
 have iH:=(Array.getElem?_eq_some_iff.1 hb).1
 show(w.heap.setIfInBounds b o)[b]?=_
 rw[Array.getElem?_setIfInBounds,if_pos rfl,if_pos iH]
theorem dg.entry (h:dg k w b l)(ht:P.underlying t=some (.map kt et))(hu:P.underlying kt=some (gU k))(hl:l.length<=2147483647){z:Value}(hz:(zeroValue et).run P w= .ok z w){x:bI k}(hx:dc k x):
  ∃(st:Int) (w':World),(Instr.mapEntry t (.map (some b)) (fJ k x)).run P w= .ok (.tuple #[(aI l x).getD z,.int .i64 st]) w'/\dg k w' b (gu l x ((aI l x).getD z))/\JL k w' b x st/\w.grownBy w' (some b)/\w'.heap.size=w.heap.size:=by
 have HE:=h.look ht hu hz hx
 obtain⟨w',bY,ho,hG,cw⟩:=h.put ht hu hl hx ((aI l x).getD z)
 have kV:=nv hu hx
 have K:=nu hu
 obtain⟨es,clock,hb,F,hs,hD⟩:=h.to hu
 generalize hv0:(aI l x).getD z=v0 at*
 rcases K.find w kV es.toList F.keys with⟨h1,h2⟩|⟨j,e0,h1,h2,h3⟩
 .have hz0:z=v0:=by
   have:(Instr.lookup t (.map (some b)) (fJ k x) false).run P w= .ok z w:=by
    simp[Instr.lookup,run_underlying ht,MapKept.run_getObj_map hb,K.check w _ kV,h1,hz,Result.andThen]
   rw[HE] at this
   injection this with this
   exact this.symm
  subst hz0
  have hr:(Instr.mapUpdate t (.map (some b)) (fJ k x) z).run P w= .ok () (ChangeMaps.setBlock w b (.map (es.push ⟨fJ k x,z,clock⟩) (clock+1))):=by
   simp[Instr.mapUpdate,run_underlying ht,MapKept.run_getObj_map hb,K.check w false kV,h1,MapKept.run_setObj_map _ hb,Result.andThen,ChangeMaps.setBlock]
  have he:w'=ChangeMaps.setBlock w b (.map (es.push ⟨fJ k x,z,clock⟩) (clock+1)):=by
   rw[bY] at hr;injection hr
  refine⟨(clock:Int),w',?_,ho,⟨_,_,es.size,⟨fJ k x,z,clock⟩,by rw[he];exact sn hb,by simp,rfl,rfl⟩,hG,cw⟩
  rw[he]
  simp[Instr.mapEntry,run_underlying ht,MapKept.run_getObj_map hb,K.check w false kV,h1,hz,MapKept.run_setObj_map _ hb,Result.andThen,ChangeMaps.setBlock,goInt]
 have hj:es[j]?=some e0:=by simpa using h2
 have hv:e0.val=v0:=by
  have:(Instr.lookup t (.map (some b)) (fJ k x) false).run P w= .ok e0.val w:=by
   simp[Instr.lookup,run_underlying ht,MapKept.run_getObj_map hb,K.check w _ kV,h1,hz,Result.andThen]
  rw[HE] at this
  injection this with this
  exact this.symm
 subst hv
 have hm:(es.modify j fun e=>{e with key:=fJ k x})=es.modify j fun e=>{e with key:=fJ k x,val:=e0.val}:=by
  apply Array.ext'
  rw[Array.toList_modify,Array.toList_modify,modify_eq_set _ _ _ _ h2,modify_eq_set _ _ _ _ h2]
 have hr:(Instr.mapUpdate t (.map (some b)) (fJ k x) e0.val).run P w= .ok () (ChangeMaps.setBlock w b (.map (es.modify j fun e=>{e with key:=fJ k x,val:=e0.val}) clock)):=by
  simp[Instr.mapUpdate,run_underlying ht,MapKept.run_getObj_map hb,K.check w false kV,h1,hj,h3,K.stays w kV,MapKept.run_setObj_map _ hb,Result.andThen,ChangeMaps.setBlock]
 have he:w'=ChangeMaps.setBlock w b (.map (es.modify j fun e=>{e with key:=fJ k x,val:=e0.val}) clock):=by
  rw[bY] at hr;injection hr
 refine⟨(e0.born:Int),w',?_,ho,⟨_,_,j,{e0 with key:=fJ k x,val:=e0.val},by rw[he];exact sn hb,by rw[Array.getElem?_modify,if_pos rfl,hj];rfl,rfl,rfl⟩,hG,cw⟩
 rw[he,<-hm]
 simp[Instr.mapEntry,run_underlying ht,MapKept.run_getObj_map hb,K.check w false kV,h1,hj,h3,K.stays w kV,MapKept.run_setObj_map _ hb,Result.andThen,ChangeMaps.setBlock,goInt]
theorem Da {α β:Type}{f:α->β}{l:List α}(h:(l.map f).Nodup){i j:Nat}{a c:α}(hi:l[i]?=some a)(hj:l[j]?=some c)(e:f a=f c):i=j:=by
 have h1:(l.map f)[i]?=some (f a):=by rw[List.getElem?_map,hi];rfl
 have h2:(l.map f)[j]?=some (f a):=by rw[List.getElem?_map,hj,e];rfl
 have Vd:=(List.getElem?_eq_some_iff.1 h1).1
 exact(List.getElem?_inj Vd h).1 (h1.trans h2.symm)
theorem dg.entryStore (h:dg k w b l)(ht:P.underlying t=some (.map kt et))(hu:P.underlying kt=some (gU k))(hl:l.length<=2147483647){x:bI k}(hx:dc k x){st:Int}(tI:JL k w b x st)(v:Value):
  ∃w',(Instr.entryStore t (.map (some b)) (.int .i64 st) v).run P w= .ok () w'/\dg k w' b (gu l x v)/\w.grownBy w' (some b)/\w'.heap.size=w.heap.size:=by
 obtain⟨w',bY,ho,hG,cw⟩:=h.put ht hu hl hx v
 have kV:=nv hu hx
 have K:=nu hu
 obtain⟨es,clock,hb,F,hs,hD⟩:=h.to hu
 obtain⟨es',aaE,j,e,ng,hj,hek,heb⟩:=tI
 rw[hb] at ng
 cases ng
 have Lr:es.toList[j]?=some e:=by simpa using hj
 rcases K.find w kV es.toList F.keys with⟨h1,h2⟩|⟨i,e0,h1,h2,h3⟩
 .exact(h2 e (List.mem_of_getElem? Lr) hek).elim
 have Db:i=j:=Da F.stamped.2.2 h2 Lr (h3.trans hek.symm)
 subst Db
 rw[Lr] at h2
 cases h2
 have hfi:es.findIdx? (fun e=>(e.born:Int)==st)=some i:=by
  rw[Array.findIdx?_eq_some_iff_getElem]
  have iH:i<es.size:=(Array.getElem?_eq_some_iff.1 hj).1
  have rA:es[i]=e:=(Array.getElem?_eq_some_iff.1 hj).2
  refine⟨iH,by rw[rA];simp[heb],fun q hq hp=>?_⟩
  have hp:((es[q].born:Int))=st:=by simpa using hp
  have LZ:es[q].born=e.born:=by
   have:(es[q].born:Int)=(e.born:Int):=hp.trans heb.symm
   omega
  have:q=i:=Da (f:=MapEntry.born) F.stamped.2.1 (l:=es.toList) (i:=q) (j:=i) (a:=es[q]) (c:=e) (by simp) Lr LZ
  omega
 have hm:(es.modify i fun e=>{e with val:=v})=es.modify i fun e=>{e with key:=fJ k x,val:=v}:=by
  apply Array.ext'
  rw[Array.toList_modify,Array.toList_modify,modify_eq_set _ _ _ _ Lr,modify_eq_set _ _ _ _ Lr,hek]
 have hr:(Instr.mapUpdate t (.map (some b)) (fJ k x) v).run P w= .ok () (ChangeMaps.setBlock w b (.map (es.modify i fun e=>{e with key:=fJ k x,val:=v}) clock)):=by
  simp[Instr.mapUpdate,run_underlying ht,MapKept.run_getObj_map hb,K.check w false kV,h1,hj,hek,K.stays w kV,MapKept.run_setObj_map _ hb,Result.andThen,ChangeMaps.setBlock]
 have he:w'=ChangeMaps.setBlock w b (.map (es.modify i fun e=>{e with key:=fJ k x,val:=v}) clock):=by
  rw[bY] at hr;injection hr
 refine⟨w',?_,ho,hG,cw⟩
 rw[he,<-hm]
 simp[Instr.entryStore,MapKept.run_getObj_map hb,asInt,asIntOf,hfi,MapKept.run_setObj_map _ hb,Result.andThen,ChangeMaps.setBlock]
end
def bl (k:Kc)(α:Type):Type:=List (bI k×α)
def lB {k:Kc}{α:Type}[Data α](S:aL)(w:World)(b:Nat)(m:bl k α):Prop:=
 ∃zs:List (bI k×(Value×α)),dg k w b (zs.map fun q=>(q.1,q.2.1))/\m=zs.map (fun q=>(q.1,q.2.2))/\∀z∈zs,Rd S w z.2.1 z.2.2
def L0 {k:Kc}{α:Type}[Data α](S:aL)(w:World)(v:Value)(m:bl k α):Prop:=∃x,v= .map x/\match x with
 |none=>m=([]:List (bI k×α))
 |some b=>S b/\lB S w b m
theorem lB.keep {k:Kc}{α:Type}[Data α]{S:aL}{w w':World}{b:Nat}{m:bl k α}(h:lB S w b m)(hk:cN S w w')(hb:w'.heap[b]?=w.heap[b]?):lB S w' b m:=by
 obtain⟨zs,h1,h2,h3⟩:=h
 exact⟨zs,h1.keep hb,h2,fun z hz=>(h3 z hz).keep hk⟩
theorem lB.up {k:Kc}{α:Type}[Data α]{S S':aL}{w:World}{b:Nat}{m:bl k α}(h:lB S w b m)(hs:∀k,S k->S' k):lB S' w b m:=by
 obtain⟨zs,h1,h2,h3⟩:=h
 exact⟨zs,h1,h2,fun z hz=>(h3 z hz).up hs⟩
instance Ve {k:Kc} {α:Type} [Data α]:Data (bl k α) where
 size:=1
 isAgg:=false
 rd S w cs m:=∃v,cs=[v]/\L0 S w v m
 len:=by rintro S w cs l ⟨v,rfl,_⟩;rfl
 up:=by
  rintro S S' w cs l hs ⟨v,rfl,x,rfl,h⟩
  refine⟨_,rfl,x,rfl,?_⟩
  cases x with
  |none=>exact h
  |some b=>exact⟨hs _ h.1,h.2.up hs⟩
 keep:=by
  rintro S w w' cs l hk ⟨v,rfl,x,rfl,h⟩
  refine⟨_,rfl,x,rfl,?_⟩
  cases x with
  |none=>exact h
  |some b=>exact⟨h.1,h.2.keep hk (hk b h.1)⟩
 one:=by
  rintro S w cs l ⟨v,rfl,x,rfl,_⟩ u hu
  simp at hu;subst hu;rfl
theorem rB {k:Kc}{α:Type}[Data α]{S:aL}{w:World}{v:Value}{m:bl k α}(h:Rd S w v m):L0 S w v m:=by
 obtain⟨cs,⟨v',rfl,h⟩,rfl⟩:=h;exact h
theorem Bl {k:Kc}{α:Type}[Data α]{S:aL}{w:World}{v:Value}{m:bl k α}(h:L0 S w v m):Rd S w v m:=⟨[v],⟨v,rfl,h⟩,rfl⟩
def kW (α:Type):Type:=Option α
def kf {α:Type}[Data α](S:aL)(w:World)(v:Value):kW α->Prop
 |none=>v= .pointer none
 |some y=> ∃b cur t fz cs,v= .pointer (some ⟨b,0,none⟩)/\S b/\w.heap[b]?=some (.cells cur t fz)/\Data.rd S w cs y/\∀j,j<Data.size α->cur[j]?=cs[j]?
theorem kf.keep {α:Type}[Data α]{S:aL}{w w':World}{v:Value}{x:kW α}(h:kf S w v x)(hk:cN S w w'):kf S w' v x:=by
 cases x with
 |none=>exact h
 |some y=>
  obtain⟨b,cur,t,fz,cs,h1,h2,h3,h4,h5⟩:=h
  exact⟨b,cur,t,fz,cs,h1,h2,(hk b h2).trans h3,Data.keep hk h4,h5⟩
theorem kf.up {α:Type}[Data α]{S S':aL}{w:World}{v:Value}{x:kW α}(h:kf S w v x)(hs:∀k,S k->S' k):kf S' w v x:=by
 cases x with
 |none=>exact h
 |some y=>
  obtain⟨b,cur,t,fz,cs,h1,h2,h3,h4,h5⟩:=h
  exact⟨b,cur,t,fz,cs,h1,hs _ h2,h3,Data.up hs h4,h5⟩
theorem kf.val {α:Type}[Data α]{S:aL}{w:World}{v:Value}{x:kW α}(h:kf S w v x):∃p,v= .pointer p:=by
 cases x with
 |none=>exact⟨_,h⟩
 |some y=>obtain⟨b,cur,t,fz,cs,h1,_⟩:=h;exact⟨_,h1⟩
instance Vf {α:Type} [Data α]:Data (kW α) where
 size:=1
 isAgg:=false
 rd S w cs x:=∃v,cs=[v]/\kf S w v x
 len:=by rintro S w cs l ⟨v,rfl,_⟩;rfl
 up:=by rintro S S' w cs l hs ⟨v,rfl,h⟩;exact⟨v,rfl,h.up hs⟩
 keep:=by rintro S w w' cs l hk ⟨v,rfl,h⟩;exact⟨v,rfl,h.keep hk⟩
 one:=by
  rintro S w cs l ⟨v,rfl,h⟩ u hu
  obtain⟨p,rfl⟩:=h.val
  simp at hu;subst hu;rfl
theorem ny {α:Type}[Data α]{S:aL}{w:World}{v:Value}{x:kW α}(h:Rd S w v x):kf S w v x:=by
 obtain⟨cs,⟨v',rfl,h⟩,rfl⟩:=h;exact h
theorem Fx {α:Type}[Data α]{S:aL}{w:World}{v:Value}{x:kW α}(h:kf S w v x):Rd S w v x:=⟨[v],⟨v,rfl,h⟩,rfl⟩
inductive Ty where
 |int
 |bool
 |str
 |list (t:Ty)
 |pair (a b:Ty)
 |map (k:Kc) (t:Ty)
 |ptr (t:Ty)
def El:Ty->Type
 | .int=>Int
 | .bool=>Bool
 | .str=>ByteArray
 | .list t=>List (El t)
 | .pair a b=>El a×El b
 | .map k t=>bl k (El t)
 | .ptr t=>kW (El t)
instance Dc:(t:Ty)->Data (El t)
 | .int=>(inferInstance:Data Int)
 | .bool=>(inferInstance:Data Bool)
 | .str=>(inferInstance:Data ByteArray)
 | .list t=>@instDataList (El t) (Dc t)
 | .pair a b=>@instDataProd (El a) (El b) (Dc a) (Dc b)
 | .map k t=>@Ve k (El t) (Dc t)
 | .ptr t=>@Vf (El t) (Dc t)
def rC:(t:Ty)->El t
 | .int=>(0:Int)
 | .bool=>false
 | .str=>(⟨#[]⟩:ByteArray)
 | .list _=>[]
 | .pair a b=>(rC a,rC b)
 | .map k t=>([]:List (bI k×El t))
 | .ptr t=>(none:Option (El t))
def Fy:(t s:Ty)->Option (PLift (t=s))
 | .int,.int=>some ⟨rfl⟩
 | .bool,.bool=>some ⟨rfl⟩
 | .str,.str=>some ⟨rfl⟩
 | .list t,.list s=>match Fy t s with
  |some ⟨h⟩=>some ⟨congrArg Ty.list h⟩
  |none=>none
 | .pair a b,.pair c d=>match Fy a c,Fy b d with
  |some ⟨h⟩,some ⟨k⟩=>some ⟨h▸k▸rfl⟩
  |_,_=>none
 | .map .int a,.map .int b=>match Fy a b with
  |some ⟨h⟩=>some ⟨congrArg (Ty.map .int) h⟩
  |none=>none
 | .map .str a,.map .str b=>match Fy a b with
  |some ⟨h⟩=>some ⟨congrArg (Ty.map .str) h⟩
  |none=>none
 | .ptr t,.ptr s=>match Fy t s with
  |some ⟨h⟩=>some ⟨congrArg Ty.ptr h⟩
  |none=>none
 |_,_=>none
def iw {t s:Ty}(a:El t):Option (El s):=match Fy t s with
 |some ⟨h⟩=>some (h▸a)
 |none=>none
theorem dZ {t s:Ty}{a:El t}{b:El s}(h:iw (s:=s) a=some b):∃e:t=s,e▸a=b:=by
 unfold iw at h
 split at h
 .rename_i e _;exact⟨e,Option.some.inj h⟩
 cases h
inductive kX where
 |i (n:Int)
 |b (b:Bool)
 |s (s:ByteArray)
 |l (t:Ty) (l:List (El t))
 |m (k:Kc) (t:Ty) (m:bl k (El t))
 |p (t:Ty) (x:kW (El t))
def bg:(t:Ty)->El t->List kX
 | .int,n=>[.i n]
 | .bool,b=>[.b b]
 | .str,s=>[.s s]
 | .list t,l=>[.l t l]
 | .pair a b,x=>bg a x.1++bg b x.2
 | .map k t,m=>[.m k t m]
 | .ptr t,x=>[.p t x]
def kg (S:aL)(w:World)(v:Value):kX->Prop
 | .i n=>v= .int .i64 n
 | .b b=>v= .bool b
 | .s s=>v= .string s
 | .l _ l=>Rd S w v l
 | .m _ _ m=>Rd S w v m
 | .p _ x=>Rd S w v x
def bU (S:aL)(w:World):List Value->List kX->Prop
 |[],[]=>True
 |v::vs,c::cs=>kg S w v c/\bU S w vs cs
 |_,_=>False
theorem bU.append {S:aL}{w:World}:∀ {a:List Value} {b:List kX} {c:List Value} {d:List kX},bU S w a b->bU S w c d->bU S w (a++c) (b++d)
 |[],[],_,_,_,h=>h
 |_::_,_::_,_,_,h,k=>⟨h.1,h.2.append k⟩
 |[],_::_,_,_,h,_=>h.elim
 |_::_,[],_,_,h,_=>h.elim
theorem bU.split {S:aL}{w:World}:∀ {vs:List Value} {a b:List kX},bU S w vs (a++b)->bU S w (vs.take a.length) a/\bU S w (vs.drop a.length) b
 |vs,[],b,h=>by simpa using⟨tv,h⟩
 |[],_::_,_,h=>h.elim
 |v::vs,x::a,b,h=>by
  obtain⟨h1,h2⟩:=bU.split (vs:=vs) (a:=a) (b:=b) h.2
  exact⟨⟨h.1,h1⟩,h2⟩
theorem bU.len {S:aL}{w:World}:∀ {vs:List Value} {a:List kX},bU S w vs a->vs.length=a.length
 |[],[],_=>rfl
 |_::_,_::_,h=>by simp[bU.len h.2]
 |[],_::_,h=>h.elim
 |_::_,[],h=>h.elim
theorem bU.get {S:aL}{w:World}:∀ {vs:List Value} {a:List kX},bU S w vs a->∀ {j:Nat} {c:kX},a[j]?=some c->∃v,vs[j]?=some v/\kg S w v c
 |[],[],_,_,_,h=>by simp at h
 |v::vs,x::a,h,0,c,e=>by simp at e;subst e;exact⟨v,rfl,h.1⟩
 |v::vs,x::a,h,j+1,c,e=>h.2.get (j:=j) (by simpa using e)
 |[],_::_,h,_,_,_=>h.elim
 |_::_,[],h,_,_,_=>h.elim
theorem kg.keep {S:aL}{w w':World}(hk:cN S w w'){v:Value}{c:kX}(h:kg S w v c):kg S w' v c:=by
 cases c with
 |l t l=>exact Rd.keep hk h
 |m k t m=>exact Rd.keep hk h
 |p t x=>exact Rd.keep hk h
 |_=>exact h
theorem kg.up {S S':aL}{w:World}(hs:∀k,S k->S' k){v:Value}{c:kX}(h:kg S w v c):kg S' w v c:=by
 cases c with
 |l t l=>exact Rd.up hs h
 |m k t m=>exact Rd.up hs h
 |p t x=>exact Rd.up hs h
 |_=>exact h
theorem gK {S:aL}{w:World}:∀(t:Ty) {cs:List Value} {a:El t},Data.rd S w cs a->bU S w cs (bg t a)
 | .int,cs,a,h=>by have h:cs=[.int .i64 a]:=h;subst h;exact⟨rfl,tv⟩
 | .bool,cs,a,h=>by have h:cs=[.bool a]:=h;subst h;exact⟨rfl,tv⟩
 | .str,cs,a,h=>by have h:cs=[.string a]:=h;subst h;exact⟨rfl,tv⟩
 | .list t,cs,a,h=>by
  obtain⟨v,rfl,h⟩:=h
  exact⟨gT h,tv⟩
 | .pair a b,cs,x,h=>by
  obtain⟨c1,c2,rfl,h1,h2⟩:=h
  exact(gK a h1).append (gK b h2)
 | .map k t,cs,a,h=>by
  obtain⟨v,rfl,h⟩:=h
  exact⟨Bl h,tv⟩
 | .ptr t,cs,a,h=>by
  obtain⟨v,rfl,h⟩:=h
  exact⟨Fx h,tv⟩
theorem vC {S:aL}{w:World}:∀(t:Ty) {cs:List Value} {a:El t},bU S w cs (bg t a)->Data.rd S w cs a
 | .int,cs,a,h=>by
  match cs,h with
  |[v],h=>have h1:v= .int .i64 a:=h.1;subst h1;rfl
 | .bool,cs,a,h=>by
  match cs,h with
  |[v],h=>have h1:v= .bool a:=h.1;subst h1;rfl
 | .str,cs,a,h=>by
  match cs,h with
  |[v],h=>have h1:v= .string a:=h.1;subst h1;rfl
 | .list t,cs,a,h=>by
  match cs,h with
  |[v],h=>exact⟨v,rfl,cn h.1⟩
 | .pair a b,cs,x,h=>by
  obtain⟨h1,h2⟩:=bU.split h
  exact⟨_,_,(List.take_append_drop _ _).symm,vC a h1,vC b h2⟩
 | .map k t,cs,a,h=>by
  match cs,h with
  |[v],h=>exact⟨v,rfl,rB h.1⟩
 | .ptr t,cs,a,h=>by
  match cs,h with
  |[v],h=>exact⟨v,rfl,ny h.1⟩
theorem wI:∀(t:Ty) (a:El t),(bg t a).length=Data.size (El t)
 | .int,_=>rfl
 | .bool,_=>rfl
 | .str,_=>rfl
 | .list _,_=>rfl
 | .map _ _,_=>rfl
 | .ptr _,_=>rfl
 | .pair a b,x=>by
  show(bg a x.1++bg b x.2).length=Data.size (El a)+Data.size (El b)
  rw[List.length_append,wI a,wI b]
def cI:Ty->Bool| .pair _ _=>true|_=>false
theorem wJ:∀t:Ty,Data.isAgg (El t)=cI t
 | .int=>rfl
 | .bool=>rfl
 | .str=>rfl
 | .list _=>rfl
 | .pair _ _=>rfl
 | .map _ _=>rfl
 | .ptr _=>rfl
def aH:Ty->Nat
 | .int=>1
 | .bool=>1
 | .str=>1
 | .list _=>1
 | .map _ _=>1
 | .ptr _=>1
 | .pair a b=>aH a+aH b
theorem b7:∀t:Ty,aH t=Data.size (El t)
 | .int=>rfl
 | .bool=>rfl
 | .str=>rfl
 | .list _=>rfl
 | .map _ _=>rfl
 | .ptr _=>rfl
 | .pair a b=>by
  show aH a+aH b=Data.size (El a)+Data.size (El b)
  rw[b7 a,b7 b]
theorem dx (t:Ty)(a:El t):(bg t a).length=aH t:=by rw[wI,b7]
inductive BE where
 |lit (b:Bool)
 |dec (p:Prop) (i:Decidable p)
 |raw (b:Bool)
 |not (x:BE)
 |and (x y:BE)
 |or (x y:BE)
def BE.den:BE->Bool
 | .lit b=>b
 | .dec p i=>@decide p i
 | .raw b=>b
 | .not x=>!x.den
 | .and x y=>x.den && y.den
 | .or x y=>x.den||y.den
def BE.is:BE->Bool->Prop
 | .lit c,b=>c=b
 | .dec p _,true=>p
 | .dec p _,false=>¬p
 | .raw c,b=>c=b
 | .not x,true=>x.is false
 | .not x,false=>x.is true
 | .and x y,true=>x.is true/\y.is true
 | .and x y,false=>x.is false\/y.is false
 | .or x y,true=>x.is true\/y.is true
 | .or x y,false=>x.is false/\y.is false
theorem BE.iM:∀(e:BE) (b:Bool),e.is b↔e.den=b
 | .lit c,b=>Iff.rfl
 | .dec p i,true=>by simp[is,den]
 | .dec p i,false=>by simp[is,den]
 | .raw c,b=>Iff.rfl
 | .not x,true=>by simp[is,den,iM x]
 | .not x,false=>by simp[is,den,iM x]
 | .and x y,true=>by simp[is,den,iM x,iM y]
 | .and x y,false=>by rw[is,den,iM x,iM y];cases x.den<;>cases y.den<;>simp
 | .or x y,true=>by rw[is,den,iM x,iM y];cases x.den<;>cases y.den<;>simp
 | .or x y,false=>by simp[is,den,iM x,iM y]
structure bF where
 p:Nat->Option Addr
 n:Nat->Nat
 c:Nat->Nat
 b:Nat->Nat
 f:Nat->Lit->Value
 m:Nat->Option Nat
def bF.v (A:bF)(j:Nat):Value:=.slice (A.p j) (A.n j) (A.c j)
def bF.set (A:bF)(j:Nat)(p:Option Addr)(n c b:Nat):bF:=⟨fun k=>if k=j then p else A.p k,fun k=>if k=j then n else A.n k,fun k=>if k=j then c else A.c k,fun k=>if k=j then b else A.b k,A.f,A.m⟩
def bF.dF (A:bF)(j:Nat)(g:Lit->Value):bF:=⟨A.p,A.n,A.c,A.b,fun k=>if k=j then g else A.f k,A.m⟩
theorem bF.jJ (A:bF)(j:Nat)(g:Lit->Value):(A.dF j g).f j=g:=by simp[bF.dF]
def bF.aT (A:bF)(j:Nat)(x:Option Nat):bF:=⟨A.p,A.n,A.c,A.b,A.f,fun k=>if k=j then x else A.m k⟩
theorem bF.wK (A:bF)(j:Nat)(x:Option Nat):(A.aT j x).m j=x:=by simp[bF.aT]
theorem bF.jQ (A:bF)(j:Nat)(p:Option Addr)(n c b:Nat):(A.set j p n c b).v j= .slice p n c:=by simp[bF.set,bF.v]
theorem bF.Yz (A:bF)(j:Nat)(p:Option Addr)(n c b:Nat):(A.set j p n c b).p j=p:=by simp[bF.set]
theorem bF.wL (A:bF)(j:Nat)(p:Option Addr)(n c b:Nat):(A.set j p n c b).b j=b:=by simp[bF.set]
inductive Hx where
 |el (i:Int) (sz off:Nat)
 |ky (k:Kc) (x:bI k)
def ix (c:Nat):Lit:=.int .i64 (c:Int)
theorem Vg {c d:Nat}(h:ix c=ix d):c=d:=by
 unfold ix at h
 injection h with _ h
 exact Int.ofNat.inj h
def Hx.lit:Hx->Lit
 | .el i sz off=>ix (i.toNat*sz+off)
 | .ky k x=>cU k x
inductive Sc where
 |v (x:Value)
 |b (e:BE)
 |own (j:Nat)
 |mp (j:Nat)
 |ptr (j off:Nat)
 |el (j:Nat) (i:Int) (sz off:Nat)
 |nh (f:FuncId) (cF:List (Nat×Nat))
 |hd (p q:Nat) (x:Hx)
 |pd (j:Nat)
def Sc.den (A:bF):Sc->Value
 | .v x=>x
 | .b e=>.bool e.den
 | .own j=>A.v j
 | .mp j=>.map (A.m j)
 | .ptr j off=>.pointer (some ⟨A.b j,off,none⟩)
 | .el j i sz off=>.pointer (some ⟨zz (A.v j),zA (A.v j)+i.toNat*sz+off,none⟩)
 | .nh f cF=>.func (.func f) #[] (cF.map fun c=>.pointer (some ⟨A.b c.1,c.2,none⟩)).toArray
 | .hd _ q x=>A.f q x.lit
 | .pd j=>.pointer (A.p j)
def Sc.all (F:Nat->Prop):Sc->Prop
 | .v _=>True
 | .b _=>True
 | .own j=>F j
 | .mp j=>F j
 | .ptr j _=>F j
 | .el j _ _ _=>F j
 | .nh _ cF=> ∀c∈cF,F c.1
 | .hd p q _=>F p/\F q
 | .pd j=>F j
inductive Sy where
 |one (s:Sc)
 |agg (cs:List Sc)
 |lY (ps:List (Bool×List Sc))
def eX (A:bF)(p:Bool×List Sc):Value:=if p.1 then .agg (p.2.map (Sc.den A)).toArray else(p.2.map (Sc.den A)).headD undef
def Sy.den (A:bF):Sy->Value
 | .one s=>s.den A
 | .agg cs=>.agg (cs.map (Sc.den A)).toArray
 | .lY ps=>.tuple (ps.map (eX A)).toArray
def Sy.all (F:Nat->Prop):Sy->Prop
 | .one s=>s.all F
 | .agg cs=> ∀c∈cs,c.all F
 | .lY ps=> ∀p∈ps,∀c∈p.2,c.all F
structure E2 where
 ch:List (Nat×Bool)
 sy:Sy
def ga (w:World)(e:TypeId)(sz:Nat)(v:Value)(n:Nat)(xs:List Value):Prop:=
 xs.length=n*sz/\((v= .slice none 0 0/\n=0)\/∃g d cap cur,v= .slice (some ⟨g,d*sz,none⟩) n cap/\w.heap[g]?=some (.cells cur e (0,0))/\n<=cap/\cap<=maxLen/\(d+cap)*sz<=cur.size/\(cur.toList.drop (d*sz)).take (n*sz)=xs)
theorem ga.keep {w w':World}{e:TypeId}{sz:Nat}{v:Value}{n:Nat}{xs:List Value}(h:ga w e sz v n xs)(hb:∀b,v.ownBlock=some b->w'.heap[b]?=w.heap[b]?):ga w' e sz v n xs:=by
 refine⟨h.1,?_⟩
 rcases h.2 with q|⟨g,d,cap,cur,rfl,hg,rest⟩
 .exact .inl q
 exact .inr ⟨g,d,cap,cur,rfl,(hb g rfl).trans hg,rest⟩
theorem ga.of {w:World}{e:TypeId}{sz:Nat}{v:Value}{n:Nat}{xs:List Value}{base:Nat}(h:w.ownsRow base e sz v n xs):ga w e sz v n xs:=by
 refine⟨h.1,?_⟩
 rcases h.2 with q|⟨g,cap,cur,h1,_,h2,h3,h4,h5,h6⟩
 .exact .inl q
 exact .inr ⟨g,0,cap,cur,by rw[h1,Nat.zero_mul],h2,h3,h4,by rw[Nat.zero_add,h5];exact Nat.le_refl _,by rw[Nat.zero_mul,List.drop_zero];exact h6⟩
theorem ga.nil (w:World)(e:TypeId)(sz:Nat):ga w e sz (.slice none 0 0) 0 []:=⟨by simp,.inl ⟨rfl,rfl⟩⟩
theorem ga.slice {w:World}{e:TypeId}{sz:Nat}{v:Value}{n:Nat}{xs:List Value}(h:ga w e sz v n xs):∃p c,v= .slice p n c/\n<=c/\c<=maxLen:=by
 rcases h.2 with⟨rfl,rfl⟩|⟨g,d,cap,cur,rfl,hg,h1,h2,_⟩
 .exact⟨_,_,rfl,Nat.le_refl _,by simp[maxLen]⟩
 exact⟨_,_,rfl,h1,h2⟩
def di {α:Type}[Data α](S:aL)(w:World)(e:TypeId)(v:Value)(l:List α):Prop:=∃xs,ga w e (Data.size α) v l.length xs/\cC S w xs l
section
variable {α:Type}[Data α]{S S':aL}{w w':World}{e:TypeId}{v:Value}{l:List α}
theorem di.keep (h:di S w e v l)(hk:cN S w w')(hb:∀b,v.ownBlock=some b->w'.heap[b]?=w.heap[b]?):di S w' e v l:=let⟨xs,h1,h2⟩:=h;⟨xs,h1.keep hb,h2.keep hk⟩
theorem di.up (h:di S w e v l)(hs:∀k,S k->S' k):di S' w e v l:=let⟨xs,h1,h2⟩:=h;⟨xs,h1,h2.up hs⟩
theorem di.of (h:Own S w e v l):di S w e v l:=let⟨xs,h1,h2⟩:=h;⟨xs,.of h1,h2⟩
theorem di.nil:di S w e (.slice none 0 0) ([]:List α):=⟨[],ga.nil w e _,cC.nil _ _⟩
theorem di.cells (h:di S w e v l){i:Int}(h0:0<=i)(h1:i<(l.length:Int))(d:α):
  ∃cs,Data.rd S w cs (l.getD i.toNat d)/\∀j,j<Data.size α->w.cell? ⟨zz v,zA v+i.toNat*Data.size α+j,none⟩=cs[j]?:=by
 obtain⟨xs,hh,hR⟩:=h
 rcases hh.2 with⟨_,hn⟩|⟨g,dd,cap,cur,rfl,hg,JB,qF,cH,jO⟩
 .omega
 have hi:i.toNat<l.length:=by omega
 refine⟨_,by rw[List.getD_eq_getElem?_getD,List.getElem?_eq_getElem hi];exact hR.2 i.toNat hi,fun q hq=>?_⟩
 show w.cell? ⟨g,dd*Data.size α+i.toNat*Data.size α+q,none⟩=_
 rw[cell_of_row w g _ cur e (0,0) hg]
 rw[List.getElem?_take,if_pos hq,List.getElem?_drop,<-jO,List.getElem?_take,if_pos ?_,List.getElem?_drop,Nat.add_assoc,Array.getElem?_toList]
 have:=Nat.mul_le_mul_right (Data.size α) (show i.toNat+1<=l.length from hi)
 rw[Nat.succ_mul] at this
 omega
theorem vD {α:Type}[Data α]{xs:List Value}{l:List α}{lo hi:Nat}(h:cC S w xs l)(h1:lo<=hi)(h2:hi<=l.length):cC S w ((xs.drop (lo*Data.size α)).take ((hi-lo)*Data.size α)) ((l.drop lo).take (hi-lo)):=by
 refine⟨?_,fun i vE=>?_⟩
 .rw[List.length_take,List.length_drop,List.length_take,List.length_drop,h.1,<-Nat.sub_mul]
  have:hi-lo<=l.length-lo:=by omega
  rw[Nat.min_eq_left (Nat.mul_le_mul_right _ this),Nat.min_eq_left this]
 rw[List.length_take,List.length_drop] at vE
 have Vd:lo+i<l.length:=by omega
 have e1:((l.drop lo).take (hi-lo))[i]'(by rw[List.length_take,List.length_drop];exact vE)=l[lo+i]:=by simp
 rw[e1]
 have e2:((((xs.drop (lo*Data.size α)).take ((hi-lo)*Data.size α)).drop (i*Data.size α)).take (Data.size α))=(xs.drop ((lo+i)*Data.size α)).take (Data.size α):=by
  rw[List.drop_take,List.take_take,List.drop_drop,<-Nat.add_mul,Nat.min_eq_left]
  rw[<-Nat.sub_mul]
  have:1<=hi-lo-i:=by omega
  calc Data.size α=1*Data.size α:=(Nat.one_mul _).symm
   _<=_:=Nat.mul_le_mul_right _ this
 rw[e2]
 exact h.2 (lo+i) Vd
theorem tN {α:Type}[Data α]{p:Option Addr}{len cap lo hi:Nat}{l:List α}(h:ic S w (.slice p len cap) l)(h1:lo<=hi)(h2:hi<=l.length):ic S w (sliced p lo hi cap (Data.size α)) ((l.drop lo).take (hi-lo)):=by
 obtain⟨p',c',e,k1,k2,k3⟩:=h
 cases e
 have hlen:((l.drop lo).take (hi-lo)).length=hi-lo:=by rw[List.length_take,List.length_drop];omega
 refine⟨_,cap-lo,by unfold sliced;rw[hlen],by rw[hlen];omega,by omega,?_⟩
 rcases k3 with rfl|⟨g,off,cur,t,fz,rfl,hg,hw,hc⟩
 .exact .inl (by simp)
 by_cases q:cap=lo
 .exact .inl (List.eq_nil_of_length_eq_zero (by rw[hlen];omega))
 refine .inr ⟨g,off+lo*Data.size α,cur,t,fz,by rw[if_neg q];simp[Addr.add_lit],hg,hw,fun i vE=>?_⟩
 rw[hlen] at vE
 obtain⟨cs,q1,q2⟩:=hc (lo+i) (by omega)
 have e1:((l.drop lo).take (hi-lo))[i]'(by rw[hlen];exact vE)=l[lo+i]:=by simp
 refine⟨cs,by rw[e1];exact q1,fun j hj=>?_⟩
 rw[<-q2 j hj,Nat.add_mul]
 congr 1;omega
theorem di.rd (h:di S w e v l):Rd (fun k=>S k\/v.ownBlock=some k) w v l:=by
 obtain⟨xs,h1,h2⟩:=h
 refine gT ?_
 rcases h1.2 with⟨rfl,hn⟩|⟨g,d,cap,cur,rfl,hg,JB,qF,cH,jO⟩
 .have:l=[]:=List.eq_nil_of_length_eq_zero hn
  subst this
  exact⟨none,0,rfl,by simp,by simp[maxLen],.inl rfl⟩
 refine⟨_,cap,rfl,JB,qF,.inr ⟨g,d*Data.size α,cur,e,(0,0),rfl,.inr rfl,hg,fun j hj=>?_⟩⟩
 refine⟨_,Data.up (fun _=>.inl) (h2.2 j hj),fun q hq=>?_⟩
 rw[List.getElem?_take,if_pos hq,List.getElem?_drop,<-jO,List.getElem?_take,if_pos ?_,List.getElem?_drop,Nat.add_assoc,Array.getElem?_toList]
 have:=Nat.mul_le_mul_right (Data.size α) (show j+1<=l.length from hj)
 rw[Nat.succ_mul] at this
 omega
end
inductive X2 where
 |nest (q:Nat) (h:Option Nat) (e:TypeId) (t:Ty) (ie:TypeId) (l:List (El t))
 |fc (q:Nat) (k:Kc) (h:Option (bI k)) (t:Ty) (ie:TypeId) (m:bl k (List (El t)))
 |uK (t:Ty) (x:kW (El t))
 |par (t:Ty) (x:kW (El t))
 |Dd (t:Ty) (x:El t)
 |yQ (t:Ty) (x:El t)
 |De (q:Nat) (k:Kc) (t:Ty) (m:bl k (El t)) (x:bI k)
 |Df (D:Nat)
 |vw (q lo:Nat) (e:TypeId) (t:Ty) (l:List (El t))
 |fwd (b:Nat)
inductive R2 where
 |ro (t:Ty) (l:List (El t))
 |ar (t:Ty) (l:List (El t))
 |row (e:TypeId) (t:Ty) (l:List (El t))
 |box (t:TypeId) (cs:List Sc)
 |nA (k:Kc) (t:Ty) (m:bl k (El t))
 |vF (k:Kc) (t:Ty) (m:bl k (El t))
 |map (k:Kc) (t:Ty) (m:bl k (El t))
 |iter (k:Kc) (t:Ty) (m:bl k (El t)) (lf:bI k->Bool) (cnt:Nat) (cur:Option (bI k×El t))
 |ext (x:X2)
structure Rs where
 ok:aL->World->Prop
 has:Nat->Prop
 keep:∀S w w',ok S w->cN S w w'->(∀b,has b->w'.heap[b]?=w.heap[b]?)->ok S w'
 up:∀(S S':aL) w,ok S w->(∀k,S k->S' k)->ok S' w
def Rs.of (r:nr):Rs:=⟨fun S w=>r.ok S w,fun b=>r.block=some b,fun _ _ _ h hk hb=>nr.Ho h hk hb,fun _ _ _ h hs=>nr.T6 h hs⟩
def ko:Rs:=⟨fun _ _=>True,fun _=>False,fun _ _ _ _ _ _=>trivial,fun _ _ _ _ _=>trivial⟩
def ob {α:Type}[Data α](e:TypeId)(v:Value)(l:List α):Rs:=⟨fun S w=>di S w e v l,fun b=>v.ownBlock=some b,fun _ _ _ h hk hb=>h.keep hk hb,fun _ _ _ h hs=>h.up hs⟩
def qO {k:Kc}{α:Type}[Data α](x:Option Nat)(m:bl k α):Rs where
 ok S w:=∃b,x=some b/\lB S w b m
 has b:=x=some b
 keep:=fun S w w' ⟨b,e,h⟩ hk hb=>⟨b,e,h.keep hk (hb b e)⟩
 up:=fun S S' w ⟨b,e,h⟩ hs=>⟨b,e,h.up hs⟩
def Bm {k:Kc}{α:Type}[Data α](S:aL)(w:World)(b:Nat)(m:bl k α)(lf:bI k->Bool)(cnt:Nat)(cur:Option (bI k×α)):Prop:=
 ∃mb,∃zs:List (bI k×(Value×α)),∃cu:Option (bI k×(Value×α)),S mb/\jI k w mb b (zs.map fun q=>(q.1,q.2.1)) lf cnt (cu.map fun q=>(q.1,q.2.1))/\m=zs.map (fun q=>(q.1,q.2.2))/\(∀z∈zs,Rd S w z.2.1 z.2.2)/\cur=cu.map (fun q=>(q.1,q.2.2))/\∀q,cu=some q->Rd S w q.2.1 q.2.2
def sq {k:Kc}{α:Type}(w:World)(b:Nat)(m:bl k α)(lf:bI k->Bool)(cur:Option (bI k×α)):Prop:=
 m=([]:List (bI k×α))/\cur=none/\(∀x,lf x=false)/\∃since seen c0,w.heap[b]?=some (.mapIter none since seen c0)
def Fz {k:Kc}{α:Type}[Data α](b:Nat)(m:bl k α)(lf:bI k->Bool)(cnt:Nat)(cur:Option (bI k×α)):Rs where
 ok S w:=Bm S w b m lf cnt cur\/sq w b m lf cur
 has x:=x=b
 keep:=by
  intro S w w' h hk hb
  rcases h with⟨mb,zs,cu,h1,h2,h3,h4,h5,h6⟩|⟨h1,h2,h3,s,se,c,h4⟩
  .have h7:=h2.keep (hk mb h1) (hb b rfl)
   exact .inl ⟨mb,zs,cu,h1,h7,h3,fun z hz=>(h4 z hz).keep hk,h5,fun q e=>(h6 q e).keep hk⟩
  exact .inr ⟨h1,h2,h3,s,se,c,(hb b rfl).trans h4⟩
 up:=by
  intro S S' w h hs
  rcases h with⟨mb,zs,cu,h1,h2,h3,h4,h5,h6⟩|h
  .exact .inl ⟨mb,zs,cu,hs mb h1,h2,h3,fun z hz=>(h4 z hz).up hs,h5,fun q e=>(h6 q e).up hs⟩
  exact .inr h
def gl (t:Ty)(l:List (El t)):List kX:=l.flatMap (bg t)
theorem dQ (t:Ty):∀l:List (El t),(gl t l).length=l.length*aH t
 |[]=>by simp[gl]
 |x::l=>by
  show(bg t x++gl t l).length=_
  rw[List.length_append,dx,dQ t l,List.length_cons,Nat.succ_mul];omega
def qH (S:aL)(w:World)(ie:TypeId)(v:Value):kX->Prop
 | .l _ l=>di S w ie v l
 |c=>kg S w v c/\v.ownBlock=none
theorem qH.keep {S:aL}{w w':World}{ie:TypeId}{v:Value}{c:kX}(h:qH S w ie v c)(hk:cN S w w')(hb:∀b,v.ownBlock=some b->w'.heap[b]?=w.heap[b]?):qH S w' ie v c:=by
 cases c with
 |l t l=>exact di.keep h hk hb
 |_=>exact⟨h.1.keep hk,h.2⟩
theorem qH.up {S S':aL}{w:World}{ie:TypeId}{v:Value}{c:kX}(h:qH S w ie v c)(hs:∀k,S k->S' k):qH S' w ie v c:=by
 cases c with
 |l t l=>exact di.up h hs
 |_=>exact⟨h.1.up hs,h.2⟩
structure iy (S:aL)(w:World)(v:Value)(f:Lit->Value)(h:Option Nat)(e:TypeId)(t:Ty)(ie:TypeId)(l:List (El t)):Prop where
 row:∃xs,ga w e (aH t) v l.length xs/\(∀u∈xs,u.oneCell'=true)/\∀c x,(gl t l)[c]?=some x->h≠some c->xs[c]?=some (f (ix c))/\qH S w ie (f (ix c)) x
 inj:∀c d b,c<l.length*aH t->d<l.length*aH t->h≠some c->h≠some d->(f (ix c)).ownBlock=some b->(f (ix d)).ownBlock=some b->c=d
 out:∀c b,c<l.length*aH t->h≠some c->(f (ix c)).ownBlock=some b->v.ownBlock≠some b
def FA (v:Value)(f:Lit->Value)(h:Option Nat)(e:TypeId)(t:Ty)(ie:TypeId)(l:List (El t)):Rs where
 ok S w:=iy S w v f h e t ie l
 has b:=v.ownBlock=some b\/∃c,c<l.length*aH t/\h≠some c/\(f (ix c)).ownBlock=some b
 keep:=by
  intro S w w' H hk hb
  obtain⟨xs,h1,h2,h3⟩:=H.row
  refine⟨⟨xs,h1.keep fun b q=>hb b (.inl q),h2,fun c x hc hh=>?_⟩,H.inj,H.out⟩
  obtain⟨k1,k2⟩:=h3 c x hc hh
  refine⟨k1,k2.keep hk fun b q=>hb b (.inr ⟨c,?_,hh,q⟩)⟩
  have:=(List.getElem?_eq_some_iff.1 hc).1
  rwa[dQ] at this
 up:=fun S S' w H hs=>⟨let⟨xs,h1,h2,h3⟩:=H.row;⟨xs,h1,h2,fun c x hc hh=>⟨(h3 c x hc hh).1,(h3 c x hc hh).2.up hs⟩⟩,H.inj,H.out⟩
structure rD {k:Kc}{α:Type}[Data α](S:aL)(w:World)(b:Nat)(f:Lit->Value)(h:Option (bI k))(ie:TypeId)(m:bl k (List α)):Prop where
 map:∃zs:List (bI k×(Value×List α)),dg k w b (zs.map fun q=>(q.1,q.2.1))/\m=zs.map (fun q=>(q.1,q.2.2))/\∀z∈zs,h≠some z.1->z.2.1=f (cU k z.1)/\di S w ie z.2.1 z.2.2
 XO:∀x,aI m x=none->h≠some x->f (cU k x)= .slice none 0 0
 inj:∀x y c,h≠some x->h≠some y->(f (cU k x)).ownBlock=some c->(f (cU k y)).ownBlock=some c->x=y
 out:∀x c,h≠some x->(f (cU k x)).ownBlock=some c->c≠b
def L1 {k:Kc}{α:Type}[Data α](y:Option Nat)(f:Lit->Value)(h:Option (bI k))(ie:TypeId)(m:bl k (List α)):Rs where
 ok S w:=∃b,y=some b/\rD S w b f h ie m
 has c:=y=some c\/∃x,h≠some x/\(f (cU k x)).ownBlock=some c
 keep:=by
  intro S w w' ⟨b,e,H⟩ hk hb
  obtain⟨zs,h1,h2,h3⟩:=H.map
  exact⟨b,e,⟨zs,h1.keep (hb b (.inl e)),h2,fun z hz hh=>⟨(h3 z hz hh).1,(h3 z hz hh).2.keep hk fun c q=>hb c (.inr ⟨z.1,hh,by rw[<-(h3 z hz hh).1];exact q⟩)⟩⟩,H.XO,H.inj,H.out⟩
 up:=fun S S' w ⟨b,e,H⟩ hs=>⟨b,e,let⟨zs,h1,h2,h3⟩:=H.map;⟨zs,h1,h2,fun z hz hh=>⟨(h3 z hz hh).1,(h3 z hz hh).2.up hs⟩⟩,H.XO,H.inj,H.out⟩
def gA {α:Type}[Data α](S:aL)(w:World)(b:Nat)(y:α):Prop:=∃cur t fz cs,S b/\w.heap[b]?=some (.cells cur t fz)/\Data.rd S w cs y/\∀j,j<Data.size α->cur[j]?=cs[j]?
def T9 {α:Type}[Data α](b:Nat)(y:α):Rs where
 ok S w:=gA S w b y
 has _:=False
 keep:=fun S w w' ⟨cur,t,fz,cs,h1,h2,h3,h4⟩ hk _=>⟨cur,t,fz,cs,h1,(hk b h1).trans h2,Data.keep hk h3,h4⟩
 up:=fun S S' w ⟨cur,t,fz,cs,h1,h2,h3,h4⟩ hs=>⟨cur,t,fz,cs,hs b h1,h2,Data.up hs h3,h4⟩
def Ua {k:Kc}{α:Type}[Data α](y:Option Nat)(f:Lit->Value)(m:bl k α)(key:bI k):Rs where
 ok S w:=∃b,y=some b/\lB S w b m/\∃st,f (cU k key)= .int .i64 st/\JL k w b key st
 has b:=y=some b
 keep:=fun S w w' ⟨b,e,h,st,h1,h2⟩ hk hb=>⟨b,e,h.keep hk (hb b e),st,h1,h2.keep (hb b e)⟩
 up:=fun S S' w ⟨b,e,h,h2⟩ hs=>⟨b,e,h.up hs,h2⟩
def L2 (D:Nat):Rs:=⟨fun _ w=>w.heap[D]?=some (.deferred (some [])),fun b=>b=D,fun _ _ _ h _ hb=>(hb D rfl).trans h,fun _ _ _ h _=>h⟩
def lN (u v:Value)(lo sz:Nat):Prop:=∃p n c,v= .slice p n c/\lo<=n/\n<=c/\u=sliced p lo n c sz
def Vh {α:Type}[Data α](u v:Value)(lo:Nat)(e:TypeId)(l:List α):Rs:=⟨fun S w=>di S w e v l/\lN u v lo (Data.size α),fun b=>v.ownBlock=some b,fun _ _ _ h hk hb=>⟨h.1.keep hk hb,h.2⟩,fun _ _ _ h hs=>⟨h.1.up hs,h.2⟩⟩
theorem sr {α:Type}[Data α]{S:aL}{w:World}{e:TypeId}{u v:Value}{l:List α}{lo:Nat}(h:di S w e v l)(hv:lN u v lo (Data.size α)):Rd (fun k=>S k\/v.ownBlock=some k) w u (l.drop lo)/\lo<=l.length:=by
 obtain⟨p,n,c,rfl,h1,h2,rfl⟩:=hv
 have hr:=cn h.rd
 obtain⟨p',c',e',_⟩:=eW hr
 cases e'
 have:=gT (tN hr h1 (Nat.le_refl _))
 rw[List.take_of_length_le (by rw[List.length_drop];exact Nat.le_refl _)] at this
 exact⟨this,h1⟩
theorem FB {α:Type}[Data α]{S:aL}{w:World}{e:TypeId}{u v:Value}{l:List α}{lo:Nat}(h:di S w e v l)(hv:lN u v lo (Data.size α)){i:Int}(h0:0<=i)(h1:i<((l.drop lo).length:Int))(d:α):
  ∃cs,Data.rd S w cs ((l.drop lo).getD i.toNat d)/\∀j,j<Data.size α->w.cell? ⟨zz u,zA u+i.toNat*Data.size α+j,none⟩=cs[j]?:=by
 have hlo:=(sr h hv).2
 rw[List.length_drop] at h1
 obtain⟨cs,k1,k2⟩:=di.cells h (i:=(lo:Int)+i) (by omega) (by omega) d
 have e1:((lo:Int)+i).toNat=lo+i.toNat:=by omega
 rw[e1] at k1 k2
 refine⟨cs,by rw[List.getD_eq_getElem?_getD,List.getElem?_drop,<-List.getD_eq_getElem?_getD];exact k1,fun j hj=>?_⟩
 rw[<-k2 j hj]
 obtain⟨p,n,c,rfl,g1,g2,rfl⟩:=hv
 obtain⟨p',c',e',_⟩:=eW (cn h.rd)
 cases e'
 have hc:¬c=lo:=by omega
 obtain⟨xs,hh,_⟩:=h
 rcases hh.2 with⟨q,hn⟩|⟨g,dd,cap,cur,q,_⟩
 .omega
 cases q
 unfold sliced
 rw[if_neg hc]
 have e3:∀x,zz (.slice (some ⟨g,dd*Data.size α,none⟩) l.length c)=g/\zA (.slice (some ⟨g,dd*Data.size α,none⟩) l.length c)=dd*Data.size α/\zz (.slice ((some (⟨g,dd*Data.size α,none⟩:Addr)).map (·.add (lo*Data.size α))) x (c-lo))=g/\zA (.slice ((some (⟨g,dd*Data.size α,none⟩:Addr)).map (·.add (lo*Data.size α))) x (c-lo))=dd*Data.size α+lo*Data.size α:=fun x=>⟨rfl,rfl,by simp[zz,Addr.add_lit],by simp[zA,Addr.add_lit]⟩
 obtain⟨a1,a2,a3,a4⟩:=e3 (l.length-lo)
 rw[a1,a2,a3,a4,Nat.add_mul]
 congr 2
 omega
def X2.den (A:bF)(j:Nat):X2->Rs
 | .nest q h e t ie l=>FA (A.v j) (A.f q) h e t ie l
 | .fc q _ h _ ie m=>L1 (A.m j) (A.f q) h ie m
 | .uK _ x=>.of (.ro (.pointer (A.p j)) x)
 | .par _ _=>ko
 | .Dd _ x=>T9 (A.b j) x
 | .yQ _ _=>ko
 | .De q _ _ m x=>Ua (A.m j) (A.f q) m x
 | .Df D=>L2 D
 | .vw q lo e t l=>Vh (A.v j) (A.v q) lo e l
 | .fwd _=>ko
def X2.all (F:Nat->Prop):X2->Prop
 | .nest q _ _ _ _ _=>F q
 | .fc q _ _ _ _ _=>F q
 | .De q _ _ _ _=>F q
 | .vw q _ _ _ _=>F q
 | .fwd b=>F b
 |_=>True
def R2.den (A:bF)(j:Nat):R2->Rs
 | .ro t l=>.of (@nr.ro (List (El t)) _ (A.v j) l)
 | .ar _ _=>ko
 | .row e t l=>@ob (El t) _ e (A.v j) l
 | .box t cs=>.of (.box (A.b j) t (cs.map (Sc.den A)))
 | .nA _ _ m=>.of (.ro (.map (A.m j)) m)
 | .vF _ _ _=>ko
 | .map _ _ m=>qO (A.m j) m
 | .iter _ _ m lf cnt cur=>Fz (A.b j) m lf cnt cur
 | .ext x=>x.den A j
def R2.all (F:Nat->Prop):R2->Prop
 | .box _ cs=> ∀c∈cs,c.all F
 | .ext x=>x.all F
 |_=>True
def cV (F:Nat->Prop)(A B:bF):Prop:=∀j,F j->A.v j=B.v j/\A.b j=B.b j/\A.f j=B.f j/\A.m j=B.m j
theorem cV.set {F:Nat->Prop}{A:bF}{j:Nat}(h:¬F j)(p:Option Addr)(n c b:Nat):cV F A (A.set j p n c b):=fun k hk=>by
 have:k≠j:=fun e=>h (e▸hk)
 simp[bF.set,bF.v,this]
theorem cV.dF {F:Nat->Prop}{A:bF}{j:Nat}(h:¬F j)(g:Lit->Value):cV F A (A.dF j g):=fun k hk=>by
 have:k≠j:=fun e=>h (e▸hk)
 simp[bF.dF,bF.v,this]
theorem cV.aT {F:Nat->Prop}{A:bF}{j:Nat}(h:¬F j)(x:Option Nat):cV F A (A.aT j x):=fun k hk=>by
 have:k≠j:=fun e=>h (e▸hk)
 simp[bF.aT,bF.v,this]
theorem cV.refl (F:Nat->Prop)(A:bF):cV F A A:=fun _ _=>⟨rfl,rfl,rfl,rfl⟩
theorem cV.trans {F:Nat->Prop}{A B C:bF}(h:cV F A B)(k:cV F B C):cV F A C:=fun j hj=>⟨(h j hj).1.trans (k j hj).1,(h j hj).2.1.trans (k j hj).2.1,(h j hj).2.2.1.trans (k j hj).2.2.1,(h j hj).2.2.2.trans (k j hj).2.2.2⟩
theorem cV.mono {F G:Nat->Prop}{A B:bF}(h:cV G A B)(hs:∀j,F j->G j):cV F A B:=fun j hj=>h j (hs j hj)
section
variable {F:Nat->Prop}{A B:bF}
theorem cV.p (h:cV F A B){j:Nat}(k:F j):A.p j=B.p j:=by
 have:=(h j k).1
 unfold bF.v at this
 injection this
theorem Sc.congr (h:cV F A B):∀ {s:Sc},s.all F->s.den A=s.den B
 | .v _,_=>rfl
 | .b _,_=>rfl
 | .own j,k=>(h j k).1
 | .mp j,k=>by simp only[den];rw[(h j k).2.2.2]
 | .ptr j off,k=>by simp only[den];rw[(h j k).2.1]
 | .el j i sz off,k=>by simp only[den];rw[(h j k).1]
 | .nh f cF,k=>by
  simp only[den]
  congr 2
  exact List.map_congr_left fun c hc=>by rw[(h c.1 (k c hc)).2.1]
 | .hd p q ix,k=>by simp only[den];rw[(h q k.2).2.2.1]
 | .pd j,k=>by simp only[den];rw[h.p k]
theorem jf (h:cV F A B){cs:List Sc}(k:∀c∈cs,c.all F):cs.map (Sc.den A)=cs.map (Sc.den B):=List.map_congr_left fun c hc=>Sc.congr h (k c hc)
theorem Sy.congr (h:cV F A B):∀ {s:Sy},s.all F->s.den A=s.den B
 | .one s,k=>Sc.congr h k
 | .agg cs,k=>by simp only[den];rw[jf h k]
 | .lY ps,k=>by
  simp only[den]
  congr 2
  exact List.map_congr_left fun p hp=>by unfold eX;rw[jf h (k p hp)]
theorem X2.congr (h:cV F A B){j:Nat}(hj:F j):∀ {r:X2},r.all F->r.den A j=r.den B j
 | .nest q _ _ _ _ _,k=>by simp only[den];rw[(h j hj).1,(h q k).2.2.1]
 | .fc q _ _ _ _ _,k=>by simp only[den];rw[(h j hj).2.2.2,(h q k).2.2.1]
 | .uK _ _,_=>by simp only[den];rw[h.p hj]
 | .par _ _,_=>rfl
 | .Dd _ _,_=>by simp only[den];rw[(h j hj).2.1]
 | .yQ _ _,_=>rfl
 | .De q _ _ _ _,k=>by simp only[den];rw[(h j hj).2.2.2,(h q k).2.2.1]
 | .Df _,_=>rfl
 | .vw q _ _ _ _,k=>by simp only[den];rw[(h j hj).1,(h q k).1]
 | .fwd _,_=>rfl
theorem R2.congr (h:cV F A B){j:Nat}(hj:F j):∀ {r:R2},r.all F->r.den A j=r.den B j
 | .ro t l,_=>by simp only[den];rw[(h j hj).1]
 | .ar t l,_=>rfl
 | .row e t l,_=>by simp only[den];rw[(h j hj).1]
 | .box t cs,k=>by simp only[den];rw[(h j hj).2.1,jf h k]
 | .nA k t m,_=>by simp only[den];rw[(h j hj).2.2.2]
 | .vF k t m,_=>rfl
 | .map k t m,_=>by simp only[den];rw[(h j hj).2.2.2]
 | .iter k t m lf cnt cur,_=>by simp only[den];rw[(h j hj).2.1]
 | .ext x,k=>X2.congr h hj k
variable {G:Nat->Prop}
theorem Sc.mono (h:∀j,F j->G j):∀ {s:Sc},s.all F->s.all G
 | .v _,_=>trivial
 | .b _,_=>trivial
 | .own j,k=>h j k
 | .mp j,k=>h j k
 | .ptr j _,k=>h j k
 | .el j _ _ _,k=>h j k
 | .nh _ _,k=>fun c hc=>h _ (k c hc)
 | .hd _ _ _,k=>⟨h _ k.1,h _ k.2⟩
 | .pd _,k=>h _ k
theorem Sy.mono (h:∀j,F j->G j):∀ {s:Sy},s.all F->s.all G
 | .one _,k=>Sc.mono h k
 | .agg _,k=>fun c hc=>Sc.mono h (k c hc)
 | .lY _,k=>fun p hp c hc=>Sc.mono h (k p hp c hc)
theorem X2.mono (h:∀j,F j->G j):∀ {r:X2},r.all F->r.all G
 | .nest _ _ _ _ _ _,k=>h _ k
 | .fc _ _ _ _ _ _,k=>h _ k
 | .uK _ _,_=>trivial
 | .par _ _,_=>trivial
 | .Dd _ _,_=>trivial
 | .yQ _ _,_=>trivial
 | .De _ _ _ _ _,k=>h _ k
 | .Df _,_=>trivial
 | .vw _ _ _ _ _,k=>h _ k
 | .fwd _,k=>h _ k
theorem R2.mono (h:∀j,F j->G j):∀ {r:R2},r.all F->r.all G
 | .ro _ _,_=>trivial
 | .ar _ _,_=>trivial
 | .row _ _ _,_=>trivial
 | .box _ _,k=>fun c hc=>Sc.mono h (k c hc)
 | .nA _ _ _,_=>trivial
 | .vF _ _ _,_=>trivial
 | .map _ _ _,_=>trivial
 | .iter _ _ _ _ _ _,_=>trivial
 | .ext _,k=>X2.mono h k
end
structure jH (w w':World)(H:Nat->Prop):Prop where
 os:w'.os=w.os
 tape:w'.tape=w.tape
 output:w'.output=w.output
 size:w.heap.size<=w'.heap.size
 block:∀k,k<w.heap.size->¬H k->w'.heap[k]?=w.heap[k]?
theorem jH.of {w w':World}{r:Option Nat}(h:w.grownBy w' r):jH w w' (fun b=>r=some b):=⟨h.os,h.tape,h.output,h.size,fun k hk hn=>h.block k hk fun e=>hn e.symm⟩
theorem jH.refl (w:World)(H:Nat->Prop):jH w w H:=⟨rfl,rfl,rfl,Nat.le_refl _,fun _ _ _=>rfl⟩
theorem jH.trans {a b c:World}{H K:Nat->Prop}(h:jH a b H)(k:jH b c K)(hk:∀j,j<a.heap.size->K j->H j):jH a c H:=
 ⟨k.os.trans h.os,k.tape.trans h.tape,k.output.trans h.output,Nat.le_trans h.size k.size,fun j hj hn=>(k.block j (Nat.lt_of_lt_of_le hj h.size) fun q=>hn (hk j hj q)).trans (h.block j hj hn)⟩
theorem jH.below {a b:World}{H:Nat->Prop}(h:Below a.heap.size a b):jH a b H:=⟨h.os,h.tape,h.output,h.size,fun k hk _=>h.block k hk⟩
structure bD extends Orig where
 G:Nat->Prop
 gS:∀k,G k->¬S k
 gin:∀k,G k->k<w.heap.size
 pF:Nat->Prop
 pA:bF
 kp:Nat
def L3:bF:=⟨fun _=>none,fun _=>0,fun _=>0,fun _=>0,fun _ _=>undef,fun _=>none⟩
def bD.of (o:Orig):bD:=⟨o,fun _=>False,fun _ h=>h.elim,fun _ h=>h.elim,fun _=>False,L3,0⟩
def bD.new (o:bD)(b:Nat):Prop:=o.w.heap.size<=b\/o.G b
def bD.old (o:bD):aL:=fun k=>k<o.w.heap.size/\¬o.G k
abbrev Bn (o:bD)(w':World):aL:=fun k=>o.S k\/(o.new k/\k<w'.heap.size)
structure fZ (o:bD)(w:World)(S:aL)(f:Nat->Option Rs):Prop where
 oK:jH o.w w o.G
 src:∀k,S k->o.S k\/o.new k
 ig:∀k,S k->k<w.heap.size
 ok:∀j r,f j=some r->r.ok S w
 own:∀j r b,f j=some r->r.has b->o.new b/\b<w.heap.size/\¬S b
 apart:∀i j ri rj b,f i=some ri->f j=some rj->ri.has b->rj.has b->i=j
def eN {α:Type}(f:Nat->Option α)(j:Nat)(x:Option α):Nat->Option α:=fun k=>if k=j then x else f k
section
variable {o:bD}{w w':World}{S S':aL}{f:Nat->Option Rs}
theorem bD.Dg {b:Nat}(h:jH o.w w o.G)(k:w.heap.size<=b):o.new b:=.inl (Nat.le_trans h.size k)
theorem fZ.old (h:fZ o w S f):cN o.old o.w w:=fun k hk=>h.oK.block k hk.1 hk.2
theorem fZ.start (o:bD):fZ o o.w o.S (fun _=>none):=
 ⟨jH.refl _ _,fun _ h=>.inl h,o.ok,fun _ _ h=>(by cases h),fun _ _ _ h=>(by cases h),fun _ _ _ _ _ h=>(by cases h)⟩
abbrev fZ.at (h:fZ o w S f):Orig:=⟨w,S,h.ig⟩
theorem fZ.sub {g:Nat->Option Rs}(h:fZ o w S f)(hg:∀j r,g j=some r->f j=some r):fZ o w S g:=
 ⟨h.oK,h.src,h.ig,fun j r k=>h.ok j r (hg j r k),fun j r b k=>h.own j r b (hg j r k),fun i j ri rj b k l=>h.apart i j ri rj b (hg i ri k) (hg j rj l)⟩
theorem fZ.Ub (h:fZ o w S f){j:Nat}{r:Rs}(hj:f j=some r)(hb:Below w.heap.size w w'):∀b,r.has b->w'.heap[b]?=w.heap[b]?:=fun b e=>hb.block b (h.own j r b hj e).2.1
theorem fZ.on (h:fZ o w S f)(hb:Below w.heap.size w w'):fZ o w' S f where
 oK:=h.oK.trans (jH.below (H:=fun _=>False) hb) fun _ _ q=>q.elim
 src:=h.src
 ig k hk:=Nat.lt_of_lt_of_le (h.ig k hk) hb.size
 ok j r hj:=r.keep _ _ _ (h.ok j r hj) (fun k hk=>hb.block k (h.ig k hk)) (h.Ub hj hb)
 own j r b hj e:=let⟨h1,h2,h3⟩:=h.own j r b hj e;⟨h1,Nat.lt_of_lt_of_le h2 hb.size,h3⟩
 apart:=h.apart
theorem fZ.call (h:fZ o w S f)(hb:Below w.heap.size w w'):fZ o w' (fun k=>S k\/(w.heap.size<=k/\k<w'.heap.size)) f where
 oK:=(h.on hb).oK
 src k hk:=hk.elim (h.src k) fun q=>.inr (bD.Dg h.oK q.1)
 ig k hk:=hk.elim (fun q=>Nat.lt_of_lt_of_le (h.ig k q) hb.size) fun q=>q.2
 ok j r hj:=r.up _ _ _ (r.keep _ _ _ (h.ok j r hj) (fun k hk=>hb.block k (h.ig k hk)) (h.Ub hj hb)) fun _=>.inl
 own j r b hj e:=let⟨h1,h2,h3⟩:=h.own j r b hj e;⟨h1,Nat.lt_of_lt_of_le h2 hb.size,fun q=>q.elim h3 fun q=>Nat.lt_irrefl _ (Nat.lt_of_lt_of_le h2 q.1)⟩
 apart:=h.apart
theorem fZ.put (h:fZ o w S f)(j:Nat)(r:Rs)(eE:r.ok S w)(hb:∀b,r.has b->o.new b/\b<w.heap.size/\¬S b/\∀i ri,i≠j->f i=some ri->¬ri.has b):fZ o w S (eN f j (some r)) where
 oK:=h.oK
 src:=h.src
 ig:=h.ig
 ok i ri hi:=by
  unfold eN at hi
  split at hi
  .cases hi;exact eE
  exact h.ok i ri hi
 own i ri b hi e:=by
  unfold eN at hi
  split at hi
  .cases hi;obtain⟨h1,h2,h3,_⟩:=hb b e;exact⟨h1,h2,h3⟩
  exact h.own i ri b hi e
 apart i k ri rk b hi hk ei ek:=by
  unfold eN at hi hk
  split at hi<;>split at hk
  .rename_i a c;exact a.trans c.symm
  .rename_i a c;cases hi;exact((hb b ei).2.2.2 k rk c hk ek).elim
  .rename_i a c;cases hk;exact((hb b ek).2.2.2 i ri a hi ei).elim
  exact h.apart i k ri rk b hi hk ei ek
theorem fZ.L4 (h:fZ o w S f)(j:Nat){α:Type}[Data α]{v:Value}{a:α}(hr:Rd S w v a):fZ o w S (eN f j (some (Rs.of (.ro v a)))):=h.put j _ hr fun b e=>by cases e
theorem fZ.wM (h:fZ o w S f)(j:Nat){r:Rs}(hr:r.ok S w)(hn:∀b,¬r.has b):fZ o w S (eN f j (some r)):=h.put j r hr fun b e=>(hn b e).elim
theorem fZ.L5 (h:fZ o w S f)(j:Nat)(x:Obj)(r:Rs)(eE:r.ok S (w.alloc x))(hb:∀b,r.has b->b=w.heap.size):fZ o (w.alloc x) S (eN f j (some r)):=by
 refine(h.on (j6 w x)).put j r eE fun b e=>?_
 have e:=hb b e;subst e
 have cw:w.heap.size<(w.alloc x).heap.size:=by simp
 refine⟨bD.Dg h.oK (Nat.le_refl _),cw,fun q=>Nat.lt_irrefl _ (h.ig _ q),fun i ri _ hi e=>Nat.lt_irrefl _ (h.own i ri _ hi e).2.1⟩
theorem fZ.swap (h:fZ o w S f){g:Nat->Option Rs}{N K:Nat->Prop}(hc:jH w w' (fun b=> ∃j r,K j/\f j=some r/\r.has b))(hS:∀k,S k->S' k)
  (XP:∀k,S' k->S k\/(((∃j r,K j/\f j=some r/\r.has k)\/w.heap.size<=k)/\k<w'.heap.size/\∀j r,N j->g j=some r->¬r.has k))
  (hold:∀j r,¬N j->g j=some r->¬K j/\f j=some r) (eE:∀j r,N j->g j=some r->r.ok S' w')
  (tO:∀j r b,N j->g j=some r->r.has b->((∃i ri,K i/\f i=some ri/\ri.has b)\/w.heap.size<=b)/\b<w'.heap.size)
  (L6:∀i j ri rj b,N i->N j->g i=some ri->g j=some rj->ri.has b->rj.has b->i=j):fZ o w' S' g:=by
 have YA:∀b,(∃j r,K j/\f j=some r/\r.has b)->o.new b/\b<w.heap.size/\¬S b:=fun b ⟨j,r,_,h2,h3⟩=>h.own j r b h2 h3
 have hKo:∀j r b,¬K j->f j=some r->r.has b->¬ ∃i ri,K i/\f i=some ri/\ri.has b:=fun j r b hj hf hb ⟨i,ri,h1,h2,h3⟩=>hj (by rw[h.apart j i r ri b hf h2 hb h3];exact h1)
 have qP:cN S w w':=fun k hk=>hc.block k (h.ig k hk) fun q=>(YA k q).2.2 hk
 refine⟨h.oK.trans hc fun j hj q=>?_,fun k hk=>?_,fun k hk=>?_,fun j r hj=>?_,fun j r b hj hb=>?_,fun i j ri rj b hi hj ei ej=>?_⟩
 .rcases(YA j q).1 with q|q
  .omega
  exact q
 .rcases XP k hk with q|⟨q,_⟩
  .exact h.src k q
  rcases q with q|q
  .exact .inr (YA k q).1
  exact .inr (bD.Dg h.oK q)
 .rcases XP k hk with q|q
  .exact Nat.lt_of_lt_of_le (h.ig k q) hc.size
  exact q.2.1
 .by_cases hN:N j
  .exact eE j r hN hj
  obtain⟨h1,h2⟩:=hold j r hN hj
  exact r.up _ _ _ (r.keep _ _ _ (h.ok j r h2) qP fun b hb=>hc.block b (h.own j r b h2 hb).2.1 (hKo j r b h1 h2 hb)) hS
 .by_cases hN:N j
  .obtain⟨h1,h2⟩:=tO j r b hN hj hb
   refine⟨?_,h2,fun q=>?_⟩
   .rcases h1 with h1|h1
    .exact(YA b h1).1
    exact bD.Dg h.oK h1
   rcases XP b q with q|⟨_,_,q⟩
   .rcases h1 with h1|h1
    .exact(YA b h1).2.2 q
    have:=h.ig b q;omega
   exact q j r hN hj hb
  obtain⟨h1,h2⟩:=hold j r hN hj
  obtain⟨k1,k2,k3⟩:=h.own j r b h2 hb
  refine⟨k1,Nat.lt_of_lt_of_le k2 hc.size,fun q=>?_⟩
  rcases XP b q with q|⟨q,_,_⟩
  .exact k3 q
  rcases q with q|q
  .exact hKo j r b h1 h2 hb q
  omega
 by_cases Vi:N i<;>by_cases hNj:N j
 .exact L6 i j ri rj b Vi hNj hi hj ei ej
 .obtain⟨h1,h2⟩:=hold j rj hNj hj
  rcases(tO i ri b Vi hi ei).1 with q|q
  .exact(hKo j rj b h1 h2 ej q).elim
  have:=(h.own j rj b h2 ej).2.1;omega
 .obtain⟨h1,h2⟩:=hold i ri Vi hi
  rcases(tO j rj b hNj hj ej).1 with q|q
  .exact(hKo i ri b h1 h2 ei q).elim
  have:=(h.own i ri b h2 ei).2.1;omega
 exact h.apart i j ri rj b (hold i ri Vi hi).2 (hold j rj hNj hj).2 ei ej
theorem fZ.mut (h:fZ o w S f)(j:Nat){r:Rs}(hj:f j=some r)(hg:jH w w' r.has):fZ o w' S (eN f j none):=by
 refine h.swap (N:=fun _=>False) (K:=fun i=>i=j) ⟨hg.os,hg.tape,hg.output,hg.size,fun k hk hn=>hg.block k hk fun q=>hn ⟨j,r,rfl,hj,q⟩⟩ (fun _ q=>q) (fun _ q=>.inl q) (fun i ri _ hi=>?_) (fun _ _ q=>q.elim) (fun _ _ _ q=>q.elim) (fun _ _ _ _ _ q=>q.elim)
 unfold eN at hi
 split at hi
 .cases hi
 rename_i dL;exact⟨dL,hi⟩
end
inductive Tr (α:Type 1):Type 1 where
 |ret (a:α)
 |fail
 |slot (t:Nat) (k:E2->Tr α)
 |res (j:Nat) (k:R2->Tr α)
def Tr.run {α:Type 1}(s:Nat->Option E2)(r:Nat->Option R2):Tr α->Option α
 | .ret a=>some a
 | .fail=>none
 | .slot t k=>match s t with
  |some e=>(k e).run s r
  |none=>none
 | .res j k=>match r j with
  |some x=>(k x).run s r
  |none=>none
theorem Tr.mono {α:Type 1}{s s':Nat->Option E2}{r r':Nat->Option R2}(hs:∀t e,s t=some e->s' t=some e)(hr:∀j x,r j=some x->r' j=some x):∀(T:Tr α) {a:α},T.run s r=some a->T.run s' r'=some a
 | .ret _,_,h=>h
 | .fail,_,h=>h
 | .slot t k,a,h=>by
  simp only[run] at h ⊢
  split at h
  .rename_i e he;rw[hs t e he];exact Tr.mono hs hr _ h
  cases h
 | .res j k,a,h=>by
  simp only[run] at h ⊢
  split at h
  .rename_i e he;rw[hr j e he];exact Tr.mono hs hr _ h
  cases h
structure Hid where
 lhs:bF->World->Result Value
 rhs:bF->World->Result Value
structure Out:Type 1 where
 cs:List Prop
 hs:List Hid
 sy:Sy
 re:List (Nat×Option R2)
def QY:List Prop->Prop
 |[]=>True
 |[p]=>p
 |p::q::r=>p/\QY (q::r)
theorem HF:∀ {l:List Prop},QY l↔∀p∈l,p
 |[]=>by simp[QY]
 |[p]=>by rw[List.forall_mem_singleton];rfl
 |p::q::r=>by
  show(p/\QY (q::r))↔_
  rw[List.forall_mem_cons,HF]
def aV (i:Int)(n:Nat):Prop:=0<=i/\i<(n:Int)
theorem bd {i:Int}{n:Nat}(h:0<=i/\i<(n:Int):=by omega):aV i n:=h
theorem bw {n:Int}(h: -9223372036854775808<=n/\n<=9223372036854775807:=by omega):aX .i64 n:=h
def kY:Value->Sc
 | .bool b=>.b (.lit b)
 |v=>.v v
def yX:Value->Sy
 | .agg cs=>.agg (cs.toList.map kY)
 |v=>.one (kY v)
def gG {α:Type 1}(C:List (Nat×Bool)):Operand->(Sy->Tr α)->Tr α
 | .tmp t,k=>.slot t fun e=>match e.ch.isPrefixOf C with
  |true=>k e.sy
  |false=>.fail
 | .const v,k=>k (yX v)
 | .func f,k=>k (.one (.nh f []))
 | .global _,_=>.fail
def JM {α:Type 1}(C:List (Nat×Bool)):List Operand->(List Sy->Tr α)->Tr α
 |[],k=>k []
 |x::l,k=>gG C x fun s=>JM C l fun r=>k (s::r)
def one (s:Sc):Tr Out:=.ret ⟨[],[],.one s,[]⟩
def od (p:Prop)(s:Sc):Tr Out:=.ret ⟨[p],[],.one s,[]⟩
def num (n:Int):Sc:=.v (.int .i64 n)
def aZ {α:Type 1}(b:Bool)(T:Tr α):Tr α:=match b with
 |true=>T
 |false=>.fail
abbrev HG:Ty->Nat:=aH
theorem L7 (t:Ty):HG t=Data.size (El t):=b7 t
def bu (k:Bool):Nat->List kX->List Sc×List (Nat×Option R2)
 |_,[]=>([],[])
 |b,.i n::r=>let x:=bu k b r;(num n::x.1,x.2)
 |b,.b e::r=>let x:=bu k b r;(.b (.raw e)::x.1,x.2)
 |b,.s s::r=>let x:=bu k b r;(.v (.string s)::x.1,x.2)
 |b,.l t l::r=>let x:=bu k (b+1) r;(.own b::x.1,(b,some (match k with|true=>.ro t l|false=>.ar t l))::x.2)
 |b,.m q t m::r=>let x:=bu k (b+1) r;(.mp b::x.1,(b,some (match k with|true=>.nA q t m|false=>.vF q t m))::x.2)
 |b,.p t y::r=>let x:=bu k (b+1) r;(.pd b::x.1,(b,some (match k with|true=>.ext (.uK t y)|false=>.ext (.par t y)))::x.2)
def gP:R2->Option ((t:Ty)×List (El t))
 | .ro t l=>some ⟨t,l⟩
 | .ar t l=>some ⟨t,l⟩
 | .row _ t l=>some ⟨t,l⟩
 | .ext (.vw _ lo _ t l)=>some ⟨t,l.drop lo⟩
 |_=>none
def zP:R2->Option ((k:Kc)×(t:Ty)×bl k (El t))
 | .nA k t m=>some ⟨k,t,m⟩
 | .vF k t m=>some ⟨k,t,m⟩
 | .map k t m=>some ⟨k,t,m⟩
 |_=>none
def HH:R2->Option ((t:Ty)×List (El t))
 | .ext (.nest _ _ _ t _ l)=>some ⟨t,l⟩
 |x=>gP x
def Uc:R2->Option ((t:Ty)×List (El t))
 | .ext (.nest _ none _ t _ l)=>some ⟨t,l⟩
 |x=>gP x
def aaF:R2->Option ((k:Kc)×(t:Ty)×bl k (El t))
 | .ext (.fc _ k _ t _ m)=>some ⟨k,.list t,m⟩
 |x=>zP x
def L8:R2->Option ((k:Kc)×(t:Ty)×bl k (El t))
 | .ext (.fc _ k none t _ m)=>some ⟨k,.list t,m⟩
 |x=>zP x
def Dh:R2->Option ((t:Ty)×kW (El t))
 | .ext (.uK t x)=>some ⟨t,x⟩
 | .ext (.par t x)=>some ⟨t,x⟩
 |_=>none
def Ma:R2->Option ((t:Ty)×El t)
 | .ext (.Dd t x)=>some ⟨t,x⟩
 | .ext (.yQ t x)=>some ⟨t,x⟩
 |_=>none
def gb:R2->Bool
 | .ar _ _=>false
 | .vF _ _ _=>false
 | .ext (.par _ _)=>false
 | .ext (.yQ _ _)=>false
 |_=>true
def arith (op:BinOp)(k:IntKind)(a b:Int):Tr Out:=
 match op with
 | .add=>od (aX k (a+b)) (.v (.int k (a+b)))
 | .sub=>od (aX k (a-b)) (.v (.int k (a-b)))
 | .mul=>od (aX k (a*b)) (.v (.int k (a*b)))
 | .quo=>od (0<=a/\0<b/\aX k a) (.v (.int k (a/b)))
 | .rem=>od (0<=a/\0<b) (.v (.int k (a%b)))
 | .eql=>one (.b (.dec (a=b) inferInstance))
 | .neq=>one (.b (.not (.dec (a=b) inferInstance)))
 | .lss=>one (.b (.dec (a<b) inferInstance))
 | .leq=>one (.b (.dec (a<=b) inferInstance))
 | .gtr=>one (.b (.dec (b<a) inferInstance))
 | .geq=>one (.b (.dec (b<=a) inferInstance))
 | .shr=>aZ (decide (k= .u64) && decide (b=1)) (one (.v (.int .u64 (a/2))))
 | .xor=>aZ (decide (k= .i64) && decide (b=1)) (od (0<=a/\a<=9223372036854775807) (.v (.int .i64 (if a%2=0 then a+1 else a-1))))
 |_=>.fail
def Vj (P:Program)(op:BinOp)(t:TypeId):Sy->Sy->Tr Out
 | .one (.v (.int k a)),.one (.v (.int k' b))=>aZ (decide (k=k')) (arith op k a b)
 | .one (.v (.string a)),.one (.v (.string b))=>match op with
  | .add=>od (a.size+b.size<=9223372036854775807) (.v (.string (a++b)))
  | .eql=>one (.b (.dec (a=b) inferInstance))
  | .neq=>one (.b (.not (.dec (a=b) inferInstance)))
  |_=>.fail
 | .one (.pd j),.one (.v (.pointer none))=>match P.underlying t,op with
  |some (.pointer _),.eql=>.res j fun x=>match Dh x with
   |some ⟨t',y⟩=>one (.b (.raw (show Option (El t') from y).isNone))
   |none=>.fail
  |some (.pointer _),.neq=>.res j fun x=>match Dh x with
   |some ⟨t',y⟩=>one (.b (.raw (show Option (El t') from y).isSome))
   |none=>.fail
  |_,_=>.fail
 | .one (.ptr j off),.one (.v (.pointer none))=>match P.underlying t,op with
  |some (.pointer _),.eql=>one (.b (.lit false))
  |some (.pointer _),.neq=>one (.b (.lit true))
  |_,_=>.fail
 | .one (.nh _ _),.one (.v .nilFunc)=>match P.underlying t,op with
  |some (.func _ _ _),.eql=>one (.b (.lit false))
  |some (.func _ _ _),.neq=>one (.b (.lit true))
  |_,_=>.fail
 | .one (.b a),.one (.b b)=>match P.underlying t,op with
  |some .bool,.eql=>one (.b (.raw (a.den==b.den)))
  |some .bool,.neq=>one (.b (.not (.raw (a.den==b.den))))
  |_,_=>.fail
 |_,_=>.fail
def uL (j q:Nat)(i:Int)(sz:Nat):Nat->List kX->Option (List Sc)
 |_,[]=>some []
 |c,.i n::r=>(uL j q i sz (c+1) r).map (num n:: ·)
 |c,.b e::r=>(uL j q i sz (c+1) r).map (.b (.raw e):: ·)
 |c,.s s::r=>(uL j q i sz (c+1) r).map (.v (.string s):: ·)
 |c,.l _ _::r=>(uL j q i sz (c+1) r).map (.hd j q (.el i sz c):: ·)
 |_,.m _ _ _::_=>none
 |_,.p _ _::_=>none
def abK (P:Program)(t:TypeId)(n:Nat)(one:Tr Out)(many:Tr Out):Tr Out:=
 match P.underlying t with
 |some (.struct _)=>aZ ((P.info? t).isSome && Nat.beq n (P.cellsOf t)) many
 |some (.array _ _)=>.fail
 |some _=>one
 |none=>.fail
def Di (P:Program)(k:Bool)(b:Nat)(t:TypeId)(cs:List kX)(off:Nat):Tr Out:=
 match P.underlying t with
 |some (.struct _)=>
  let c:=bu k b ((cs.drop off).take (P.cellsOf t))
  aZ ((P.info? t).isSome && Nat.beq c.1.length (P.cellsOf t)) (.ret ⟨[],[],.agg c.1,c.2⟩)
 |some (.array _ _)=>.fail
 |some _=>match cs[off]? with
  |some c=>match bu k b [c] with
   |([s],re)=>.ret ⟨[],[],.one s,re⟩
   |_=>.fail
  |none=>.fail
 |none=>.fail
def Mb (P:Program)(b:Nat)(t:TypeId):Sy->Tr Out
 | .one (.ptr j off)=>.res j fun x=>match x with
  | .box _ cs=>match P.underlying t with
   |some (.struct _)=>aZ ((P.info? t).isSome && Nat.beq ((cs.drop off).take (P.cellsOf t)).length (P.cellsOf t)) (.ret ⟨[],[],.agg ((cs.drop off).take (P.cellsOf t)),[]⟩)
   |some (.array _ _)=>.fail
   |some _=>match cs[off]? with
    |some s=>one s
    |none=>.fail
   |none=>.fail
  | .ext (.Dd t' y)=>Di P true b t (bg t' y) off
  | .ext (.yQ t' y)=>Di P false b t (bg t' y) off
  |_=>.fail
 | .one (.el j i sz off)=>.res j fun x=>match x with
  | .ext (.nest q none _ t' _ l)=>aZ (Nat.beq (HG t') sz) (match P.underlying t with
   |some (.struct _)=>match uL j q i sz off (((bg t' (l.getD i.toNat (rC t'))).drop off).take (P.cellsOf t)) with
    |some c=>aZ ((P.info? t).isSome && Nat.beq c.length (P.cellsOf t)) (.ret ⟨[],[],.agg c,[]⟩)
    |none=>.fail
   |some (.array _ _)=>.fail
   |some _=>match(bg t' (l.getD i.toNat (rC t')))[off]? with
    |some c=>match uL j q i sz off [c] with
     |some [s]=>one s
     |_=>.fail
    |none=>.fail
   |none=>.fail)
  |x=>match gP x with
   |some ⟨t',l⟩=>aZ (Nat.beq (HG t') sz) (Di P (gb x) b t (bg t' (l.getD i.toNat (rC t'))) off)
   |none=>.fail
 |_=>.fail
def Mc (C:List (Nat×Bool))(c x y:Operand):Tr Out:=
 match c with
 | .tmp t=>gG C c fun s=>match s with
  | .one (.b (.lit true))=>gG C x fun r=>.ret ⟨[],[],r,[]⟩
  | .one (.b (.lit false))=>gG C y fun r=>.ret ⟨[],[],r,[]⟩
  | .one (.b e)=>match x,y with
   | .const (.bool true),y=>gG (C++[(t,false)]) y fun r=>match r with
    | .one (.b q)=>one (.b (.or e q))
    |_=>.fail
   |x,.const (.bool false)=>gG (C++[(t,true)]) x fun r=>match r with
    | .one (.b p)=>one (.b (.and e p))
    |_=>.fail
   |_,_=>.fail
  |_=>.fail
 |_=>.fail
def Vk {α:Type 1}(l:List Sc)(k:Int->List Sc->Tr α):Tr α:=match l with
 | .v (.int .i64 m)::l=>k m l
 |_=>.fail
def Md {α:Type 1}(l:List Sc)(k:Bool->List Sc->Tr α):Tr α:=match l with
 | .b e::l=>k e.den l
 |_=>.fail
def Vl {α:Type 1}(l:List Sc)(k:ByteArray->List Sc->Tr α):Tr α:=match l with
 | .v (.string m)::l=>k m l
 |_=>.fail
def Me {α:Type 1}(t:Ty)(l:List Sc)(k:List (El t)->List Sc->Tr α):Tr α:=match l with
 | .own j::l=>.res j fun x=>match Uc x with
  |some ⟨t',y⟩=>match iw (t:=.list t') (s:=.list t) y with
   |some z=>k z l
   |none=>.fail
  |none=>.fail
 | .v (.slice none 0 0)::l=>k [] l
 |_=>.fail
def Vm {α:Type 1}(k:Kc)(t:Ty)(l:List Sc)(c:bl k (El t)->List Sc->Tr α):Tr α:=match l with
 | .mp j::l=>.res j fun x=>match L8 x with
  |some ⟨k',t',y⟩=>match iw (t:=.map k' t') (s:=.map k t) y with
   |some z=>c z l
   |none=>.fail
  |none=>.fail
 | .v (.map none)::l=>c ([]:List (bI k×El t)) l
 |_=>.fail
def Vn {α:Type 1}(t:Ty)(l:List Sc)(c:kW (El t)->List Sc->Tr α):Tr α:=match l with
 | .pd j::l=>.res j fun x=>match Dh x with
  |some ⟨t',y⟩=>match iw (t:=.ptr t') (s:=.ptr t) y with
   |some z=>c z l
   |none=>.fail
  |none=>.fail
 | .ptr j off::l=>match off with
  |0=>.res j fun x=>match Ma x with
   |some ⟨t',y⟩=>match iw (t:=t') (s:=t) y with
    |some z=>c (some z:Option (El t)) l
    |none=>.fail
   |none=>.fail
  |_=>.fail
 | .v (.pointer none)::l=>c (none:Option (El t)) l
 |_=>.fail
def FC {α:Type 1}:(t:Ty)->List Sc->(El t->List Sc->Tr α)->Tr α
 | .int,l,k=>Vk l k
 | .bool,l,k=>Md l k
 | .str,l,k=>Vl l k
 | .list t,l,k=>Me t l k
 | .map q t,l,k=>Vm q t l k
 | .ptr t,l,k=>Vn t l k
 | .pair p q,l,k=>FC p l fun x l'=>FC q l' fun y l''=>k (x,y) l''
def jg {α:Type 1}(t:Ty)(y:Sy)(k:El t->Tr α):Tr α:=
 match y,cI t with
 | .one c,false=>FC t [c] fun x l=>match l with
  |[]=>k x
  |_=>.fail
 | .agg cs,true=>FC t cs fun x l=>match l with
  |[]=>k x
  |_=>.fail
 |_,_=>.fail
def uM:(k:Kc)->Sy->Option (bI k)
 | .int,.one (.v (.int .i64 n))=>some (show Int from n)
 | .str,.one (.v (.string s))=>some (show ByteArray from s)
 |_,_=>none
def lC (P:Program)(kt:TypeId):Kc->Bool
 | .int=>match P.underlying kt with
  |some (.int .i64)=>true
  |_=>false
 | .str=>match P.underlying kt with
  |some .string=>true
  |_=>false
def wN (P:Program)(t:TypeId):Option Sy:=match P.info? t with
 |some i=>i.zero.map yX
 |none=>none
def iN (P:Program)(t:TypeId)(y:Sy):Hid:=⟨fun _ w=>(zeroValue t).run P w,fun A w=>.ok (y.den A) w⟩
def zN (P:Program)(b:Nat)(t:TypeId)(ok:Bool)(p q:Sy):Tr Out:=
 match P.underlying t with
 |some (.map kt et)=>match p with
  | .one (.mp j)=>.res j fun r=>match r with
   | .ext (.fc qf k none _ _ m)=>match uM k q with
    |some x=>aZ (lC P kt k) (match ok with
     |true=>.ret ⟨[dc k x],[iN P et (.one (.v (.slice none 0 0)))],.lY [(false,[.hd j qf (.ky k x)]),(false,[.b (.raw (aI m x).isSome)])],[]⟩
     |false=>.ret ⟨[dc k x],[iN P et (.one (.v (.slice none 0 0)))],.one (.hd j qf (.ky k x)),[]⟩)
    |none=>.fail
   |r=>match zP r with
   |some ⟨k,ty,m⟩=>match uM k q,wN P et with
    |some x,some z=>aZ (lC P kt k) (jg ty z fun x0=>
     let c:=bu (gb r) b (bg ty ((aI m x).getD x0))
     match ok with
     |true=>.ret ⟨[dc k x],[iN P et z],.lY [(cI ty,c.1),(false,[.b (.raw (aI m x).isSome)])],c.2⟩
     |false=>match cI ty,c.1 with
      |true,cs=>.ret ⟨[dc k x],[iN P et z],.agg cs,c.2⟩
      |false,[s]=>.ret ⟨[dc k x],[iN P et z],.one s,c.2⟩
      |_,_=>.fail)
    |_,_=>.fail
   |none=>.fail
  |_=>.fail
 |_=>.fail
def jh (P:Program)(C:List (Nat×Bool))(b:Nat):Op->Tr Out
 | .move x=>gG C x fun s=>.ret ⟨[],[],s,[]⟩
 | .assign x=>gG C x fun s=>.ret ⟨[],[],s,[]⟩
 | .unOp .not _ x=>gG C x fun s=>match s with
  | .one (.b e)=>one (.b (.not e))
  |_=>.fail
 | .extract x i=>gG C x fun s=>match s with
  | .lY ps=>match ps[i]? with
   |some (true,cs)=>.ret ⟨[],[],.agg cs,[]⟩
   |some (false,[c])=>one c
   |_=>.fail
  |_=>.fail
 | .nilCheck x=>gG C x fun s=>match s with
  | .one (.ptr j off)=>one (.ptr j off)
  | .one (.el j i sz off)=>one (.el j i sz off)
  | .one (.pd j)=>.res j fun x=>match x with
   | .ext (.uK t y)=>.ret ⟨[(show Option (El t) from y).isSome=true],[],.one (.ptr b 0),[(b,some (.ext (.Dd t ((show Option (El t) from y).getD (rC t)))))]⟩
   | .ext (.par t y)=>.ret ⟨[(show Option (El t) from y).isSome=true],[],.one (.ptr b 0),[(b,some (.ext (.yQ t ((show Option (El t) from y).getD (rC t)))))]⟩
   |_=>.fail
  |_=>.fail
 | .binOp op t x y _=>gG C x fun p=>gG C y fun q=>Vj P op t p q
 | .convert s d x=>match P.underlying s,P.underlying d with
  |some (.int _),some (.int k)=>gG C x fun p=>match p with
   | .one (.v (.int _ n))=>od (aX k n) (.v (.int k n))
   |_=>.fail
  |_,_=>.fail
 | .index t x i=>match P.underlying t with
  |some .string=>gG C x fun p=>gG C i fun q=>match p,q with
   | .one (.v (.string s)),.one (.v (.int _ n))=>od (aV n s.size) (.v (.int .u8 (Hq s n)))
   |_,_=>.fail
  |_=>.fail
 | .indexAddr t x i=>match P.underlying t with
  |some (.slice e)=>gG C x fun p=>gG C i fun q=>match p,q with
   | .one (.own j),.one (.v (.int _ n))=>.res j fun r=>match HH r with
    |some ⟨t',l⟩=>aZ ((P.info? e).isSome) (od (aV n l.length) (.el j n (P.cellsOf e) 0))
    |none=>.fail
   |_,_=>.fail
  |_=>.fail
 | .fieldAddr t x f=>match P.underlying t with
  |some (.struct fs)=>match fs[f]? with
   |some fd=>aZ (Nat.blt 0 (P.cellsOf fd.type)) (gG C x fun p=>match p with
    | .one (.ptr j off)=>one (.ptr j (off+fd.offset))
    | .one (.el j i sz off)=>one (.el j i sz (off+fd.offset))
    |_=>.fail)
   |none=>.fail
  |_=>.fail
 | .load t x=>gG C x fun p=>Mb P b t p
 | .field t x f=>match P.underlying t with
  |some (.struct fs)=>match fs[f]? with
   |some fd=>gG C x fun p=>match p with
    | .agg cs=>match P.underlying fd.type with
     |some (.struct _)=>aZ ((P.info? fd.type).isSome) (.ret ⟨[],[],.agg ((cs.drop fd.offset).take (P.cellsOf fd.type)),[]⟩)
     |some (.array _ _)=>.fail
     |some _=>match cs[fd.offset]? with
      |some s=>one s
      |none=>.fail
     |none=>.fail
    |_=>.fail
   |none=>.fail
  |_=>.fail
 | .pick c x y=>Mc C c x y
 | .call c=>match c.callee,c.args.toList with
  | .builtin .len,[x]=>match(c.argTypes[0]?).bind P.underlying with
   |some .string=>gG C x fun p=>match p with
    | .one (.v (.string s))=>one (num (s.size:Int))
    |_=>.fail
   |some (.slice _)=>gG C x fun p=>match p with
    | .one (.own j)=>.res j fun r=>match HH r with
     |some ⟨t',l⟩=>one (num (l.length:Int))
     |none=>.fail
    | .one (.v (.slice none 0 0))=>one (num 0)
    |_=>.fail
   |_=>.fail
  | .builtin .max,[x,y]=>gG C x fun p=>gG C y fun q=>match p,q with
   | .one (.v (.int .i64 a)),.one (.v (.int .i64 b))=>one (num (max a b))
   |_,_=>.fail
  | .builtin .min,[x,y]=>gG C x fun p=>gG C y fun q=>match p,q with
   | .one (.v (.int .i64 a)),.one (.v (.int .i64 b))=>one (num (min a b))
   |_,_=>.fail
  |_,_=>.fail
 |_=>.fail
theorem oL (A:bF)(v:Value):(kY v).den A=v:=by unfold kY;split<;>rfl
theorem Mf (A:bF)(v:Value):(yX v).den A=v:=by
 unfold yX
 split
 .rename_i cs
  simp only[Sy.den,List.map_map]
  have:(Sc.den A∘kY)=id:=by funext x;exact oL A x
  rw[this,List.map_id]
 exact oL A _
def Sc.b9 (A:bF):Sc->Prop
 | .el j i _ _=>CW (A.v j) i
 |_=>True
def Sy.b9 (A:bF):Sy->Prop
 | .one s=>s.b9 A
 | .agg cs=> ∀c∈cs,c.b9 A
 | .lY ps=> ∀p∈ps,∀c∈p.2,c.b9 A
def R2.b9 (A:bF):R2->Prop
 | .box _ cs=> ∀c∈cs,c.b9 A
 |_=>True
theorem l7 (A:bF)(v:Value):(kY v).b9 A:=by unfold kY;split<;>trivial
theorem oM (F:Nat->Prop)(v:Value):(kY v).all F:=by unfold kY;split<;>trivial
theorem JN (A:bF)(v:Value):(yX v).b9 A:=by
 unfold yX
 split
 .intro c hc;obtain⟨x,_,rfl⟩:=List.mem_map.1 hc;exact l7 A x
 exact l7 A _
theorem Mg (F:Nat->Prop)(v:Value):(yX v).all F:=by
 unfold yX
 split
 .intro c hc;obtain⟨x,_,rfl⟩:=List.mem_map.1 hc;exact oM F x
 exact oM F _
theorem Sc.dG {F:Nat->Prop}{A B:bF}(h:cV F A B):∀ {s:Sc},s.all F->s.b9 A->s.b9 B
 | .el j i _ _,k,g=>by simp only[b9] at g ⊢;rw[<-(h j k).1];exact g
 | .v _,_,_=>trivial
 | .b _,_,_=>trivial
 | .own _,_,_=>trivial
 | .mp _,_,_=>trivial
 | .ptr _ _,_,_=>trivial
 | .nh _ _,_,_=>trivial
 | .hd _ _ _,_,_=>trivial
 | .pd _,_,_=>trivial
theorem Sy.dG {F:Nat->Prop}{A B:bF}(h:cV F A B):∀ {s:Sy},s.all F->s.b9 A->s.b9 B
 | .one _,k,g=>Sc.dG h k g
 | .agg _,k,g=>fun c hc=>Sc.dG h (k c hc) (g c hc)
 | .lY _,k,g=>fun p hp c hc=>Sc.dG h (k p hp c hc) (g p hp c hc)
theorem R2.dG {F:Nat->Prop}{A B:bF}(h:cV F A B):∀ {s:R2},s.all F->s.b9 A->s.b9 B
 | .box _ _,k,g=>fun c hc=>Sc.dG h (k c hc) (g c hc)
 | .ro _ _,_,_=>trivial
 | .ar _ _,_,_=>trivial
 | .row _ _ _,_,_=>trivial
 | .nA _ _ _,_,_=>trivial
 | .vF _ _ _,_,_=>trivial
 | .map _ _ _,_,_=>trivial
 | .iter _ _ _ _ _ _,_,_=>trivial
 | .ext _,_,_=>trivial
abbrev bq (A:bF)(r:Nat->Option R2):Nat->Option Rs:=fun j=>(r j).map (R2.den A j)
def su (o:bD)(A:bF)(j:Nat):R2->Prop
 | .ar _ x=>Rd o.old o.w (A.v j) x
 | .vF _ _ x=>Rd o.old o.w (.map (A.m j)) x
 | .ext (.par _ x)=>Rd o.old o.w (.pointer (A.p j)) x
 | .ext (.yQ _ x)=>gA o.old o.w (A.b j) x
 |_=>True
theorem su.congr {o:bD}{F:Nat->Prop}{A B:bF}(h:cV F A B){j:Nat}(k:F j):∀ {x:R2},su o A j x->su o B j x
 | .ar _ _,q=>by show Rd _ _ _ _;rw[<-(h j k).1];exact q
 | .vF _ _ _,q=>by show Rd _ _ _ _;rw[<-(h j k).2.2.2];exact q
 | .ext (.par _ _),q=>by show Rd _ _ _ _;rw[<-h.p k];exact q
 | .ext (.yQ _ _),q=>by show gA _ _ _ _;rw[<-(h j k).2.1];exact q
 | .ro _ _,_=>trivial
 | .row _ _ _,_=>trivial
 | .box _ _,_=>trivial
 | .nA _ _ _,_=>trivial
 | .map _ _ _,_=>trivial
 | .iter _ _ _ _ _ _,_=>trivial
 | .ext (.nest _ _ _ _ _ _),_=>trivial
 | .ext (.fc _ _ _ _ _ _),_=>trivial
 | .ext (.uK _ _),_=>trivial
 | .ext (.Dd _ _),_=>trivial
 | .ext (.De _ _ _ _ _),_=>trivial
 | .ext (.Df _),_=>trivial
 | .ext (.vw _ _ _ _ _),_=>trivial
 | .ext (.fwd _),_=>trivial
structure cz (o:bD)(n:Nat)(A:bF)(S:aL)(F:Nat->Prop)(s:Nat->Option E2)(r:Nat->Option R2)(a:Act)(w:World):Prop where
 size:a.tmps.size=n
 eY:a.defers=[]
 env:∀t e,s t=some e->C2 a ⟨t,e.ch,e.sy.den A⟩
 kZ:∀t e,s t=some e->jd a e.ch->e.sy.all F/\e.sy.b9 A
 dD:∀j x,r j=some x->F j/\x.all F/\x.b9 A
 bB:fZ o w S (bq A r)
 args:∀j x,r j=some x->su o A j x
 wO:(∀j,o.pF j->F j)/\cV o.pF o.pA A
def Ud (o:bD)(S:aL)(w:World)(A:bF)(j:Nat):R2->Prop
 | .ro _ x=>Rd S w (A.v j) x
 | .ar _ x=>Rd o.old o.w (A.v j) x
 | .nA _ _ x=>Rd S w (.map (A.m j)) x
 | .vF _ _ x=>Rd o.old o.w (.map (A.m j)) x
 | .ext (.uK _ x)=>Rd S w (.pointer (A.p j)) x
 | .ext (.par _ x)=>Rd o.old o.w (.pointer (A.p j)) x
 | .ext (.Dd _ x)=>gA S w (A.b j) x
 | .ext (.yQ _ x)=>gA o.old o.w (A.b j) x
 |_=>False
def jv (o:bD)(S:aL)(w:World)(A:bF):Nat->List (Nat×Option R2)->Prop
 |_,[]=>True
 |b,p::l=>b<=p.1/\(∃x,p.2=some x/\Ud o S w A p.1 x)/\jv o S w A (p.1+1) l
theorem jv.aaG {o:bD}{S:aL}{w:World}{A:bF}{b b':Nat}(h:b<=b'):∀ {l:List (Nat×Option R2)},jv o S w A b' l->jv o S w A b l
 |[],_=>trivial
 |_::_,k=>⟨Nat.le_trans h k.1,k.2⟩
def FU (F:Nat->Prop)(re:List (Nat×Option R2)):Nat->Prop:=fun j=>F j\/∃x,(j,x)∈re
def vG (o:bD)(S:aL)(w:World)(k:Bool)(vs:List Value)(cs:List kX):Prop:=match k with
 |true=>bU S w vs cs
 |false=>bU o.old o.w vs cs
theorem vG.cons {o:bD}{S:aL}{w:World}{k:Bool}{v:Value}{vs:List Value}{c:kX}{cs:List kX}(h:vG o S w k (v::vs) (c::cs)):(match k with|true=>kg S w v c|false=>kg o.old o.w v c)/\vG o S w k vs cs:=by
 cases k<;>exact h
theorem vG.JO {o:bD}{S:aL}{w:World}{k:Bool}{c:kX}{cs:List kX}(h:vG o S w k [] (c::cs)):False:=by cases k<;>exact h
theorem vG.aaH {o:bD}{S:aL}{w:World}{k:Bool}{v:Value}{vs:List Value}(h:vG o S w k (v::vs) []):False:=by cases k<;>exact h
theorem fq {o:bD}{S:aL}{w:World}{k:Bool}{B:Nat}:∀(cs:List kX) (vs:List Value) (b:Nat) (A:bF) (F:Nat->Prop),vG o S w k vs cs->(∀j,b<=j->j<B->¬F j)->(∀p∈(bu k b cs).2,p.1<B)->
  ∃A',cV F A A'/\(bu k b cs).1.map (Sc.den A')=vs/\jv o S w A' b (bu k b cs).2/\∀s∈(bu k b cs).1,s.all (FU F (bu k b cs).2)/\s.b9 A'
 |[],[],b,A,F,_,_,_=>⟨A,cV.refl _ _,rfl,tv,fun _ h=>by cases h⟩
 |[],_::_,_,_,_,h,_,_=>h.aaH.elim
 | .i n::r,[],_,_,_,h,_,_=>h.JO.elim
 | .b n::r,[],_,_,_,h,_,_=>h.JO.elim
 | .s n::r,[],_,_,_,h,_,_=>h.JO.elim
 | .l t n::r,[],_,_,_,h,_,_=>h.JO.elim
 | .m q t n::r,[],_,_,_,h,_,_=>h.JO.elim
 | .p t n::r,[],_,_,_,h,_,_=>h.JO.elim
 | .i n::r,v::vs,b,A,F,h,hF,hB=>by
  obtain⟨A',h1,h2,h3,h4⟩:=fq r vs b A F h.cons.2 hF hB
  have hv:v= .int .i64 n:=by cases k<;>exact h.1
  refine⟨A',h1,by show Sc.den A' _::_=_;rw[h2,hv];rfl,h3,fun s hs=>?_⟩
  rcases List.mem_cons.1 hs with rfl|hs
  .exact⟨tv,tv⟩
  exact h4 s hs
 | .b n::r,v::vs,b,A,F,h,hF,hB=>by
  obtain⟨A',h1,h2,h3,h4⟩:=fq r vs b A F h.cons.2 hF hB
  have hv:v= .bool n:=by cases k<;>exact h.1
  refine⟨A',h1,by show Sc.den A' _::_=_;rw[h2,hv];rfl,h3,fun s hs=>?_⟩
  rcases List.mem_cons.1 hs with rfl|hs
  .exact⟨tv,tv⟩
  exact h4 s hs
 | .s n::r,v::vs,b,A,F,h,hF,hB=>by
  obtain⟨A',h1,h2,h3,h4⟩:=fq r vs b A F h.cons.2 hF hB
  have hv:v= .string n:=by cases k<;>exact h.1
  refine⟨A',h1,by show Sc.den A' _::_=_;rw[h2,hv];rfl,h3,fun s hs=>?_⟩
  rcases List.mem_cons.1 hs with rfl|hs
  .exact⟨tv,tv⟩
  exact h4 s hs
 | .l t n::r,v::vs,b,A,F,h,hF,hB=>by
  obtain⟨p,c,hv⟩:∃p c,v= .slice p n.length c:=by
   cases k
   .obtain⟨p,c,hv,_⟩:=cn (show Rd o.old o.w v n from h.1);exact⟨p,c,hv⟩
   obtain⟨p,c,hv,_⟩:=cn (show Rd S w v n from h.1);exact⟨p,c,hv⟩
  have hA:=cV.set (A:=A) (F:=F) (j:=b) (hF b (Nat.le_refl _) (hB _ List.mem_cons_self)) p n.length c 0
  obtain⟨A',h1,h2,h3,h4⟩:=fq r vs (b+1) (A.set b p n.length c 0) (fun j=>F j\/j=b) h.cons.2 (fun j hj hB hn=>by
   rcases hn with hn|hn
   .exact hF j (by omega) hB hn
   omega) (fun p hp=>hB p (List.mem_cons_of_mem _ hp))
  have hb:(A'.v b)=v:=by rw[<-(h1 b (.inr rfl)).1,bF.jQ,hv]
  refine⟨A',hA.trans (h1.mono fun j hj=>.inl hj),by show Sc.den A' (.own b)::_=_;rw[h2];simp only[Sc.den,hb],⟨Nat.le_refl _,⟨_,rfl,by
   cases k
   .show Rd _ _ (A'.v b) _;rw[hb];exact h.1
   show Rd _ _ (A'.v b) _;rw[hb];exact h.1⟩,h3⟩,fun s hs=>?_⟩
  rcases List.mem_cons.1 hs with rfl|hs
  .exact⟨.inr ⟨_,List.mem_cons_self⟩,tv⟩
  refine⟨Sc.mono (fun j hj=>?_) (h4 s hs).1,(h4 s hs).2⟩
  rcases hj with(hj|hj)|⟨x,hx⟩
  .exact .inl hj
  .subst hj;exact .inr ⟨_,List.mem_cons_self⟩
  exact .inr ⟨x,List.mem_cons_of_mem _ hx⟩
 | .m q t n::r,v::vs,b,A,F,h,hF,hB=>by
  obtain⟨y,hv⟩:∃y,v= .map y:=by
   cases k
   .obtain⟨y,hv,_⟩:=rB (show Rd o.old o.w v n from h.1);exact⟨y,hv⟩
   obtain⟨y,hv,_⟩:=rB (show Rd S w v n from h.1);exact⟨y,hv⟩
  have hA:=cV.aT (A:=A) (F:=F) (j:=b) (hF b (Nat.le_refl _) (hB _ List.mem_cons_self)) y
  obtain⟨A',h1,h2,h3,h4⟩:=fq r vs (b+1) (A.aT b y) (fun j=>F j\/j=b) h.cons.2 (fun j hj hB hn=>by
   rcases hn with hn|hn
   .exact hF j (by omega) hB hn
   omega) (fun p hp=>hB p (List.mem_cons_of_mem _ hp))
  have hb:(.map (A'.m b))=v:=by rw[<-(h1 b (.inr rfl)).2.2.2,bF.wK,hv]
  refine⟨A',hA.trans (h1.mono fun j hj=>.inl hj),by show Sc.den A' (.mp b)::_=_;rw[h2];simp only[Sc.den,hb],⟨Nat.le_refl _,⟨_,rfl,by
   cases k
   .show Rd _ _ (.map (A'.m b)) _;rw[hb];exact h.1
   show Rd _ _ (.map (A'.m b)) _;rw[hb];exact h.1⟩,h3⟩,fun s hs=>?_⟩
  rcases List.mem_cons.1 hs with rfl|hs
  .exact⟨.inr ⟨_,List.mem_cons_self⟩,tv⟩
  refine⟨Sc.mono (fun j hj=>?_) (h4 s hs).1,(h4 s hs).2⟩
  rcases hj with(hj|hj)|⟨x,hx⟩
  .exact .inl hj
  .subst hj;exact .inr ⟨_,List.mem_cons_self⟩
  exact .inr ⟨x,List.mem_cons_of_mem _ hx⟩
 | .p t n::r,v::vs,b,A,F,h,hF,hB=>by
  obtain⟨y,hv⟩:∃y,v= .pointer y:=by
   cases k
   .exact(ny (show Rd o.old o.w v n from h.1)).val
   exact(ny (show Rd S w v n from h.1)).val
  have hA:=cV.set (A:=A) (F:=F) (j:=b) (hF b (Nat.le_refl _) (hB _ List.mem_cons_self)) y 0 0 0
  obtain⟨A',h1,h2,h3,h4⟩:=fq r vs (b+1) (A.set b y 0 0 0) (fun j=>F j\/j=b) h.cons.2 (fun j hj hB hn=>by
   rcases hn with hn|hn
   .exact hF j (by omega) hB hn
   omega) (fun p hp=>hB p (List.mem_cons_of_mem _ hp))
  have hb:(.pointer (A'.p b))=v:=by rw[<-h1.p (.inr rfl),bF.Yz,hv]
  refine⟨A',hA.trans (h1.mono fun j hj=>.inl hj),by show Sc.den A' (.pd b)::_=_;rw[h2];simp only[Sc.den,hb],⟨Nat.le_refl _,⟨_,rfl,by
   cases k
   .show Rd _ _ (.pointer (A'.p b)) _;rw[hb];exact h.1
   show Rd _ _ (.pointer (A'.p b)) _;rw[hb];exact h.1⟩,h3⟩,fun s hs=>?_⟩
  rcases List.mem_cons.1 hs with rfl|hs
  .exact⟨.inr ⟨_,List.mem_cons_self⟩,tv⟩
  refine⟨Sc.mono (fun j hj=>?_) (h4 s hs).1,(h4 s hs).2⟩
  rcases hj with(hj|hj)|⟨x,hx⟩
  .exact .inl hj
  .subst hj;exact .inr ⟨_,List.mem_cons_self⟩
  exact .inr ⟨x,List.mem_cons_of_mem _ hx⟩
section
variable {P:Program}{o:bD}{n:Nat}{A:bF}{S:aL}{F:Nat->Prop}{s:Nat->Option E2}{r:Nat->Option R2}{a:Act}{w:World}{C:List (Nat×Bool)}{b:Nat}
theorem pT (H:cz o n A S F s r a w){j:Nat}{x:R2}(hj:r j=some x){t:Ty}{l:List (El t)}(hx:gP x=some ⟨t,l⟩):Rd (· <w.heap.size) w (A.v j) l:=by
 have hm:bq A r j=some (x.den A j):=by simp[bq,hj]
 cases x with
 |ro t' l'=>cases hx;exact Rd.up H.bB.ig (H.bB.ok j _ hm)
 |ar t' l'=>cases hx;exact(Rd.keep H.bB.old (H.args j _ hj)).up fun _ hk=>Nat.lt_of_lt_of_le hk.1 H.bB.oK.size
 |row e t' l'=>cases hx;exact(di.rd (H.bB.ok j _ hm)).up fun k hk=>hk.elim (H.bB.ig k) fun q=>(H.bB.own j _ k hm q).2.1
 |ext y=>
  cases y with
  |vw q lo e t' l'=>
   cases hx
   have eE:di S w e (A.v q) l'/\lN (A.v j) (A.v q) lo (Data.size (El t)):=H.bB.ok j _ hm
   exact(sr eE.1 eE.2).1.up fun k hk=>hk.elim (H.bB.ig k) fun q=>(H.bB.own j _ k hm q).2.1
  |_=>cases hx
 |_=>cases hx
theorem Dj (H:cz o n A S F s r a w){j:Nat}{x:R2}(hj:r j=some x){k:Kc}{t:Ty}{m:bl k (El t)}(hx:zP x=some ⟨k,t,m⟩):(A.m j=none/\m=([]:List (bI k×El t)))\/
  ∃b,∃zs:List (bI k×(Value×El t)),A.m j=some b/\dg k w b (zs.map fun q=>(q.1,q.2.1))/\m=zs.map (fun q=>(q.1,q.2.2))/\∀z∈zs,match gb x with
   |true=>Rd S w z.2.1 z.2.2
   |false=>Rd o.old o.w z.2.1 z.2.2:=by
 have hm:bq A r j=some (x.den A j):=by simp[bq,hj]
 cases x with
 |nA k' t' m'=>
  cases hx
  have h:Rd S w (.map (A.m j)) m:=H.bB.ok j _ hm
  obtain⟨y,hy,h⟩:=rB h
  cases hy
  cases hA:A.m j with
  |none=>rw[hA] at h;exact .inl ⟨rfl,h⟩
  |some b=>rw[hA] at h;obtain⟨_,zs,h1,h2,h3⟩:=h;exact .inr ⟨b,zs,rfl,h1,h2,h3⟩
 |vF k' t' m'=>
  cases hx
  obtain⟨y,hy,h⟩:=rB (H.args j _ hj)
  cases hy
  cases hA:A.m j with
  |none=>rw[hA] at h;exact .inl ⟨rfl,h⟩
  |some b=>rw[hA] at h;obtain⟨hb,zs,h1,h2,h3⟩:=h;exact .inr ⟨b,zs,rfl,h1.keep (H.bB.old b hb),h2,h3⟩
 |map k' t' m'=>
  cases hx
  obtain⟨b,e,zs,h1,h2,h3⟩:=H.bB.ok j _ hm
  exact .inr ⟨b,zs,e,h1,h2,h3⟩
 |_=>cases hx
theorem Bo (H:cz o n A S F s r a w){j:Nat}{x:R2}(hj:r j=some x){t:Ty}{l:List (El t)}(hx:gP x=some ⟨t,l⟩){i:Int}(h0:0<=i)(h1:i<(l.length:Int)):
  ∃cs,vG o S w (gb x) cs (bg t (l.getD i.toNat (rC t)))/\cs.length=Data.size (El t)/\∀q,q<Data.size (El t)->w.cell? ⟨zz (A.v j),zA (A.v j)+i.toNat*Data.size (El t)+q,none⟩=cs[q]?:=by
 have hm:bq A r j=some (x.den A j):=by simp[bq,hj]
 cases x with
 |ro t' l'=>
  cases hx
  have hr:Rd S w (A.v j) l:=H.bB.ok j _ hm
  obtain⟨cs,k1,k2⟩:=zI (C:=(· =w)) (T:=S) (fun w' e=>by subst e;exact cN.refl _ _) hr h0 h1 (rC t)
  exact⟨cs,gK t k1,Data.len k1,fun q hq=>k2 q hq w rfl⟩
 |ar t' l'=>
  cases hx
  have hr:Rd o.old o.w (A.v j) l:=H.args j _ hj
  obtain⟨cs,k1,k2⟩:=zI (C:=(· =w)) (T:=o.old) (fun w' e=>by subst e;exact H.bB.old) hr h0 h1 (rC t)
  exact⟨cs,gK t k1,Data.len k1,fun q hq=>k2 q hq w rfl⟩
 |row e t' l'=>
  cases hx
  obtain⟨cs,k1,k2⟩:=di.cells (show di S w e (A.v j) l from H.bB.ok j _ hm) h0 h1 (rC t)
  exact⟨cs,gK t k1,Data.len k1,fun q hq=>k2 q hq⟩
 |ext y=>
  cases y with
  |vw q lo e t' l'=>
   cases hx
   have eE:di S w e (A.v q) l'/\lN (A.v j) (A.v q) lo (Data.size (El t)):=H.bB.ok j _ hm
   obtain⟨cs,k1,k2⟩:=FB eE.1 eE.2 h0 h1 (rC t)
   exact⟨cs,gK t k1,Data.len k1,fun q hq=>k2 q hq⟩
  |_=>cases hx
 |_=>cases hx
theorem wP (H:cz o n A S F s r a w){j:Nat}{x:R2}(hj:r j=some x){t:Ty}{l:List (El t)}(hx:HH x=some ⟨t,l⟩):∃p c,A.v j= .slice p l.length c/\(0<l.length->∃g f,p=some ⟨g,f,none⟩):=by
 have old:gP x=some ⟨t,l⟩->∃p c,A.v j= .slice p l.length c/\(0<l.length->∃g f,p=some ⟨g,f,none⟩):=fun hx=>by
  obtain⟨p,c,h1,_,_,h2⟩:=cn (pT H hj hx)
  refine⟨p,c,h1,fun h=>?_⟩
  rcases h2 with rfl|⟨g,f,_,_,_,h2,_⟩
  .cases h
  exact⟨g,f,h2⟩
 cases x with
 |ext y=>
  cases y with
  |nest q h e t' ie l'=>
   cases hx
   have hm:iy S w (A.v j) (A.f q) h e t ie l:=H.bB.ok j _ (show bq A r j=some _ by simp[bq,hj];rfl)
   obtain⟨xs,h1,_⟩:=hm.row
   rcases h1.2 with⟨hv,hn⟩|⟨g,d,cap,cur,hv,_⟩
   .exact⟨_,_,by rw[hv,hn],fun q=>by omega⟩
   exact⟨_,_,hv,fun _=>⟨_,_,rfl⟩⟩
  |vw _ _ _ _ _=>exact old hx
  |_=>cases hx
 |_=>exact old hx
theorem JP (H:cz o n A S F s r a w){j:Nat}{x:R2}(hj:r j=some x){t:Ty}{l:List (El t)}(hx:HH x=some ⟨t,l⟩){i:Int}(h0:0<=i)(h1:i<(l.length:Int)):CW (A.v j) i:=by
 obtain⟨p,c,h2,h3⟩:=wP H hj hx
 obtain⟨g,f,rfl⟩:=h3 (by omega)
 exact⟨g,f,_,c,h2,h0,h1⟩
theorem sw {t:Ty}:∀ {l:List (El t)} {i off:Nat} (hi:i<l.length),off<aH t->(gl t l)[i*aH t+off]?=(bg t (l.getD i (rC t)))[off]?
 |x::l,0,off,_,ho=>by
  show(bg t x++gl t l)[0*aH t+off]?=(bg t x)[off]?
  rw[Nat.zero_mul,Nat.zero_add,List.getElem?_append_left (by rw[dx];exact ho)]
 |x::l,i+1,off,hi,ho=>by
  show(bg t x++gl t l)[(i+1)*aH t+off]?=(bg t (l.getD i (rC t)))[off]?
  rw[List.getElem?_append_right (by rw[dx,Nat.succ_mul];omega),dx,show(i+1)*aH t+off-aH t=i*aH t+off by rw[Nat.succ_mul];omega]
  exact sw (by simpa using hi) ho
theorem ga.cell {e:TypeId}{sz:Nat}{v:Value}{n:Nat}{xs:List Value}(h:ga w e sz v n xs){c:Nat}{u:Value}(hc:xs[c]?=some u):w.cell? ⟨zz v,zA v+c,none⟩=some u:=by
 have hl:=(List.getElem?_eq_some_iff.1 hc).1
 rcases h.2 with⟨_,rfl⟩|⟨g,d,cap,cur,rfl,hg,h1,h2,h3,h4⟩
 .have:=h.1;omega
 show w.cell? ⟨g,d*sz+c,none⟩=_
 rw[cell_of_row w g _ cur e (0,0) hg,<-hc,<-h4,List.getElem?_take,if_pos (by rw[<-h.1];exact hl),List.getElem?_drop,Array.getElem?_toList]
theorem tP {v:Value}{f:Lit->Value}{e:TypeId}{t:Ty}{ie:TypeId}{l:List (El t)}(h:iy S w v f none e t ie l){i:Int}(h0:0<=i)(h1:i<(l.length:Int)){off:Nat}{c:kX}(hc:(bg t (l.getD i.toNat (rC t)))[off]?=some c):
  w.cell? ⟨zz v,zA v+(i.toNat*aH t+off),none⟩=some (f (ix (i.toNat*aH t+off)))/\qH S w ie (f (ix (i.toNat*aH t+off))) c:=by
 obtain⟨xs,k1,_,k2⟩:=h.row
 have ho:off<aH t:=by have:=(List.getElem?_eq_some_iff.1 hc).1;rwa[dx] at this
 obtain⟨k3,k4⟩:=k2 (i.toNat*aH t+off) c (by rw[sw (by omega) ho];exact hc) (by simp)
 exact⟨k1.cell k3,k4⟩
theorem wQ {ie:TypeId}{j q:Nat}{i:Int}{sz:Nat}:∀ {cs:List kX} {c:Nat} {out:List Sc},uL j q i sz c cs=some out->(∀d x,cs[d]?=some x->qH S w ie (A.f q (ix (i.toNat*sz+(c+d)))) x)->
  out.length=cs.length/\∀d u,out[d]?=some u->u.den A=A.f q (ix (i.toNat*sz+(c+d)))/\(F j->F q->u.all F)/\u.b9 A
 |[],c,out,h,_=>by cases h;exact⟨rfl,fun d u q=>by simp at q⟩
 |x::r,c,out,h,k=>by
  have k0:=k 0 x rfl
  have k1:∀d y,r[d]?=some y->qH S w ie (A.f q (ix (i.toNat*sz+(c+1+d)))) y:=fun d y hy=>by
   have:=k (d+1) y (by simpa using hy)
   rwa[show c+(d+1)=c+1+d by omega] at this
  have main:∀z:Sc,(uL j q i sz (c+1) r).map (z:: ·)=some out->(z.den A=A.f q (ix (i.toNat*sz+(c+0)))/\(F j->F q->z.all F)/\z.b9 A)->out.length=(x::r).length/\∀d u,out[d]?=some u->u.den A=A.f q (ix (i.toNat*sz+(c+d)))/\(F j->F q->u.all F)/\u.b9 A:=by
   intro z hz hzk
   obtain⟨o',h1,rfl⟩:=Option.map_eq_some_iff.1 hz
   obtain⟨h2,h3⟩:=wQ h1 k1
   refine⟨by simp[h2],fun d u hu=>?_⟩
   cases d with
   |zero=>
    have:z=u:=by simpa using hu
    subst this;exact hzk
   |succ d=>
    have:=h3 d u (by simpa using hu)
    rwa[show c+(d+1)=c+1+d by omega]
  cases x with
  |i n=>exact main _ h ⟨k0.1.symm,fun _ _=>trivial,tv⟩
  |b n=>exact main _ h ⟨k0.1.symm,fun _ _=>trivial,tv⟩
  |s n=>exact main _ h ⟨k0.1.symm,fun _ _=>trivial,tv⟩
  |l t n=>exact main _ h ⟨rfl,fun h1 h2=>⟨h1,h2⟩,tv⟩
  |m _ _ _=>cases h
  |p _ _=>cases h
theorem zQ (H:cz o n A S F s r a w)(hC:jd a C){t:Nat}{e:E2}(he:s t=some e)(hp:e.ch.isPrefixOf C=true):a.tmps[t]?=some (e.sy.den A):=(H.env t e he).1 (oI hp hC)
theorem aM {α:Type 1}(H:cz o n A S F s r a w)(hC:jd a C){x:Operand}{k:Sy->Tr α}{out:α}(h:(gG C x k).run s r=some out):∃y:Sy,a.eval x=y.den A/\y.all F/\y.b9 A/\(k y).run s r=some out:=by
 cases x with
 |tmp t=>
  simp only[gG,Tr.run] at h
  split at h
  .rename_i e he
   split at h
   .rename_i hp
    refine⟨e.sy,?_,(H.kZ t e he (oI hp hC)).1,(H.kZ t e he (oI hp hC)).2,h⟩
    simp only[Act.eval,Array.getD_eq_getD_getElem?,zQ H hC he hp,Option.getD_some]
   cases h
  cases h
 |const v=>exact⟨yX v,(Mf A v).symm,Mg F v,JN A v,h⟩
 |func f=>exact⟨.one (.nh f []),rfl,fun c hc=>(by cases hc),tv,h⟩
 |global g=>cases h
theorem an {α:Type 1}{b:Bool}{T:Tr α}{out:α}(h:(aZ b T).run s r=some out):b=true/\T.run s r=some out:=by
 cases b with
 |true=>exact⟨rfl,h⟩
 |false=>cases h
theorem aY {α:Type 1}{j:Nat}{k:R2->Tr α}{out:α}(h:(Tr.res j k).run s r=some out):∃x,r j=some x/\(k x).run s r=some out:=by
 simp only[Tr.run] at h
 split at h
 .rename_i e he;exact⟨e,he,h⟩
 cases h
def wR (P:Program)(o:bD)(A:bF)(S:aL)(F:Nat->Prop)(w:World)(b:Nat)(op:Op)(a:Act)(out:Out):Prop:=
 ∃A',cV F A A'/\(∀o:Oper,o.op=op->Oper.quietUpon P (· =w) w (out.sy.den A') ((execOp a.eval o).run P w))/\out.sy.all (FU F out.re)/\out.sy.b9 A'/\jv o S w A' b out.re
theorem bN {op:Op}{out:Out}{iq:Option Value}{p:Prop}(yY:out.re=[])(ec:out.sy.all F)(hg:out.sy.b9 A)(h:cT P (· =w) (fun x=>some (a.eval x)) op iq=some (out.sy.den A,p))(hp:p):wR P o A S F w b op a out:=by
 refine⟨A,cV.refl _ _,fun o ho=>?_,Sy.mono (fun j hj=>.inl hj) ec,hg,by rw[yY];trivial⟩
 subst ho
 exact Hs (ρ:=a.eval) (fun x u hx=>Option.some.inj hx) h hp w rfl
theorem bK {c:Sc}{out:Out}(h:(one c).run s r=some out):out=⟨[],[],.one c,[]⟩:=(Option.some.inj h).symm
theorem fu {p:Prop}{c:Sc}{out:Out}(h:(od p c).run s r=some out)(hc:∀q∈out.cs,q):out=⟨[p],[],.one c,[]⟩/\p:=by
 have e:=(Option.some.inj h).symm
 subst e
 exact⟨rfl,hc p (by simp)⟩
theorem HI (a b:ByteArray):(a.toList==b.toList)=decide (a=b):=by
 by_cases h:a=b
 .subst h;simp
 rw[decide_eq_false h]
 refine Bool.eq_false_iff.2 fun q=>h (Yr q)
theorem aaI (n:Nat):n ^^^ 1=if n%2=0 then n+1 else n-1:=by
 have h1:(n ^^^ 1)/2=n/2:=by rw[Nat.xor_div_two];simp
 have h2:(n ^^^ 1)%2=(n+1)%2:=by
  have h:(n ^^^ 1)%2 ^ 1=(n%2 ^ 1) ^^^ (1%2 ^ 1):=Nat.xor_mod_two_pow
  rw[Nat.pow_one] at h
  rw[h]
  rcases Nat.mod_two_eq_zero_or_one n with q|q
  .rw[q];show 1=_;omega
  rw[q];show 0=_;omega
 split<;>omega
theorem Mh {op:Oper}{t t':TypeId}{x y:Operand}{n:Int}(ho:op.op= .binOp .xor t x y t')(hx:a.eval x= .int .i64 n)(hy:a.eval y= .int .i64 1)(hn:0<=n/\n<=9223372036854775807):Oper.quietUpon P (· =w) w (.int .i64 (if n%2=0 then n+1 else n-1)) ((execOp a.eval op).run P w):=by
 obtain⟨m,rfl⟩:=Int.eq_ofNat_of_zero_le hn.1
 have hm:m<2 ^ 64:=by omega
 have h1:(Op.intBits .xor .i64 (m:Int) 1)=pure (.int .i64 (if(m:Int)%2=0 then(m:Int)+1 else(m:Int)-1)):=by
  show(pure (Value.int .i64 (IntKind.i64.wrap (((BitVec.ofInt 64 (m:Int)) ^^^ (BitVec.ofInt 64 1)).toNat:Int))):Sem Value)=_
  have e1:(BitVec.ofInt 64 (m:Int)).toNat=m:=by
   rw[BitVec.toNat_ofInt];omega
  have e2:(BitVec.ofInt 64 1).toNat=1:=by decide
  rw[BitVec.toNat_xor,e1,e2,aaI]
  congr 2
  have e3:(((if m%2=0 then m+1 else m-1:Nat)):Int)=if(m:Int)%2=0 then(m:Int)+1 else(m:Int)-1:=by split<;>split<;>omega
  rw[e3]
  exact aX.wrap (k:=.i64) ⟨by split<;>omega,by split<;>omega⟩
 have h2:(eqGuard .xor t x y (.int .i64 (m:Int)) (.int .i64 1)).run P w= .ok () w:=by simp[eqGuard,Sem.run_pure]
 simp only[execOp,ho,Sem.run_bind,hx,hy,h2,Result.andThen_ok]
 have h3:(binOp .xor t (.int .i64 (m:Int)) (.int .i64 1))=Op.intBits .xor .i64 (m:Int) 1:=rfl
 rw[h3,h1]
 exact⟨rfl,rfl⟩
theorem wS {op:Oper}{t t' e:TypeId}{x y:Operand}{p:Option Addr}(hu:P.underlying t=some (.pointer e))(ho:op.op= .binOp .eql t x y t')(hx:a.eval x= .pointer p)(hy:a.eval y= .pointer none):Oper.quietUpon P (· =w) w (.bool p.isNone) ((execOp a.eval op).run P w):=by
 have h1:(Op.equal t (.pointer p) (.pointer none)).run P w= .ok p.isNone w:=by
  unfold Op.equal
  rw[show Op.maxDepth=(Op.maxDepth-1)+1 from by decide]
  cases p<;>(unfold Op.equalIn;rw[Sem.run_bind,run_underlying hu];rfl)
 have h2:(eqGuard .eql t x y (.pointer p) (.pointer none)).run P w= .ok () w:=by simp[eqGuard,Sem.run_pure]
 simp only[execOp,ho,Sem.run_bind,hx,hy,h2,Result.andThen_ok,binOp,h1,Sem.run_pure]
 exact⟨rfl,rfl⟩
theorem wT {op:Oper}{t t' e:TypeId}{x y:Operand}{p:Option Addr}(hu:P.underlying t=some (.pointer e))(ho:op.op= .binOp .neq t x y t')(hx:a.eval x= .pointer p)(hy:a.eval y= .pointer none):Oper.quietUpon P (· =w) w (.bool p.isSome) ((execOp a.eval op).run P w):=by
 have h1:(Op.equal t (.pointer p) (.pointer none)).run P w= .ok p.isNone w:=by
  unfold Op.equal
  rw[show Op.maxDepth=(Op.maxDepth-1)+1 from by decide]
  cases p<;>(unfold Op.equalIn;rw[Sem.run_bind,run_underlying hu];rfl)
 have h2:(eqGuard .neq t x y (.pointer p) (.pointer none)).run P w= .ok () w:=by simp[eqGuard,Sem.run_pure]
 simp only[execOp,ho,Sem.run_bind,hx,hy,h2,Result.andThen_ok,binOp,h1,Sem.run_pure]
 exact⟨rfl,by cases p<;>rfl⟩
theorem FD {op:Oper}{t t':TypeId}{x y:Operand}{g:Fn}{p c:Array Value}{e1 e2:Array TypeId}{e3:Bool}(hu:P.underlying t=some (.func e1 e2 e3))(ho:op.op= .binOp .eql t x y t')(hx:a.eval x= .func g p c)(hy:a.eval y= .nilFunc):Oper.quietUpon P (· =w) w (.bool false) ((execOp a.eval op).run P w):=by
 have h1:(Op.equal t (.func g p c) .nilFunc).run P w= .ok false w:=by
  unfold Op.equal
  rw[show Op.maxDepth=(Op.maxDepth-1)+1 from by decide]
  unfold Op.equalIn;rw[Sem.run_bind,run_underlying hu];rfl
 have h2:(eqGuard .eql t x y (.func g p c) .nilFunc).run P w= .ok () w:=by simp[eqGuard,Sem.run_pure]
 simp only[execOp,ho,Sem.run_bind,hx,hy,h2,Result.andThen_ok,binOp,h1,Sem.run_pure]
 exact⟨rfl,rfl⟩
theorem FE {op:Oper}{t t':TypeId}{x y:Operand}{g:Fn}{p c:Array Value}{e1 e2:Array TypeId}{e3:Bool}(hu:P.underlying t=some (.func e1 e2 e3))(ho:op.op= .binOp .neq t x y t')(hx:a.eval x= .func g p c)(hy:a.eval y= .nilFunc):Oper.quietUpon P (· =w) w (.bool true) ((execOp a.eval op).run P w):=by
 have h1:(Op.equal t (.func g p c) .nilFunc).run P w= .ok false w:=by
  unfold Op.equal
  rw[show Op.maxDepth=(Op.maxDepth-1)+1 from by decide]
  unfold Op.equalIn;rw[Sem.run_bind,run_underlying hu];rfl
 have h2:(eqGuard .neq t x y (.func g p c) .nilFunc).run P w= .ok () w:=by simp[eqGuard,Sem.run_pure]
 simp only[execOp,ho,Sem.run_bind,hx,hy,h2,Result.andThen_ok,binOp,h1,Sem.run_pure]
 exact⟨rfl,rfl⟩
theorem Mi (H:cz o n A S F s r a w){op:BinOp}{t t':TypeId}{x y:Operand}{k:IntKind}{m q:Int}{out:Out}(hx:a.eval x= .int k m)(hy:a.eval y= .int k q)(h:(arith op k m q).run s r=some out)(hc:∀p∈out.cs,p):wR P o A S F w b (.binOp op t x y t') a out/\out.hs=[]:=by
 cases op
 case add=>obtain⟨rfl,hp⟩:=fu h hc;exact⟨bN (iq:=none) rfl tv tv (by simp only[cT,hx,hy,iD,if_true];rfl) hp,rfl⟩
 case sub=>obtain⟨rfl,hp⟩:=fu h hc;exact⟨bN (iq:=none) rfl tv tv (by simp only[cT,hx,hy,iD,if_true];rfl) hp,rfl⟩
 case mul=>obtain⟨rfl,hp⟩:=fu h hc;exact⟨bN (iq:=none) rfl tv tv (by simp only[cT,hx,hy,iD,if_true];rfl) hp,rfl⟩
 case quo=>obtain⟨rfl,hp⟩:=fu h hc;exact⟨bN (iq:=none) rfl tv tv (by simp only[cT,hx,hy,iD,if_true];rfl) hp,rfl⟩
 case rem=>obtain⟨rfl,hp⟩:=fu h hc;exact⟨bN (iq:=none) rfl tv tv (by simp only[cT,hx,hy,iD,if_true];rfl) hp,rfl⟩
 case shr=>
  obtain⟨hg,h2⟩:=an h
  rw[Bool.and_eq_true] at hg
  have hk:=of_decide_eq_true hg.1
  have hb:=of_decide_eq_true hg.2
  subst hk
  subst hb
  rw[bK h2]
  exact⟨bN (iq:=some (.int .u64 (m/2))) rfl tv tv (by simp only[cT,hx,hy,iD];rfl) (QU (by decide)),rfl⟩
 case xor=>
  obtain⟨hg,h2⟩:=an h
  rw[Bool.and_eq_true] at hg
  have hk:=of_decide_eq_true hg.1
  have hb:=of_decide_eq_true hg.2
  subst hk
  subst hb
  obtain⟨rfl,hp⟩:=fu h2 hc
  exact⟨⟨A,cV.refl _ _,fun op ho=>Mh ho hx hy hp,tv,tv,tv⟩,rfl⟩
 case eql=>rw[bK h];exact⟨bN (iq:=none) (p:=True) rfl tv tv (by simp only[cT,hx,hy,iD,if_true];rfl) tv,rfl⟩
 case neq=>rw[bK h];exact⟨bN (iq:=none) (p:=True) rfl tv tv (by simp only[cT,hx,hy,iD,if_true];rfl) tv,rfl⟩
 case lss=>rw[bK h];exact⟨bN (iq:=none) (p:=True) rfl tv tv (by simp only[cT,hx,hy,iD,if_true];rfl) tv,rfl⟩
 case leq=>rw[bK h];exact⟨bN (iq:=none) (p:=True) rfl tv tv (by simp only[cT,hx,hy,iD,if_true];rfl) tv,rfl⟩
 case gtr=>rw[bK h];exact⟨bN (iq:=none) (p:=True) rfl tv tv (by simp only[cT,hx,hy,iD,if_true];rfl) tv,rfl⟩
 case geq=>rw[bK h];exact⟨bN (iq:=none) (p:=True) rfl tv tv (by simp only[cT,hx,hy,iD,if_true];rfl) tv,rfl⟩
 all_goals cases h
theorem QZ (H:cz o n A S F s r a w){op:BinOp}{t t':TypeId}{x y:Operand}{p q:Sy}{out:Out}(hx:a.eval x=p.den A)(hy:a.eval y=q.den A)(h:(Vj P op t p q).run s r=some out)(hc:∀p∈out.cs,p):wR P o A S F w b (.binOp op t x y t') a out/\out.hs=[]:=by
 unfold Vj at h
 split at h
 .obtain⟨hk,h2⟩:=an h
  have hk:=of_decide_eq_true hk
  subst hk
  exact Mi H hx hy h2 hc
 .rename_i u v
  have hx:a.eval x= .string u:=hx
  have hy:a.eval y= .string v:=hy
  split at h
  .obtain⟨rfl,hp⟩:=fu h hc;exact⟨bN (iq:=none) rfl tv tv (by simp only[cT,hx,hy,iD];rfl) hp,rfl⟩
  .rw[bK h];exact⟨bN (iq:=none) (p:=True) rfl tv tv (by simp only[cT,hx,hy,iD,HI];rfl) tv,rfl⟩
  .rw[bK h];exact⟨bN (iq:=none) (p:=True) rfl tv tv (by simp only[cT,hx,hy,iD,HI];rfl) tv,rfl⟩
  cases h
 .rename_i j
  have hx:a.eval x= .pointer (A.p j):=hx
  have hy:a.eval y= .pointer none:=hy
  have key:∀ {z:R2} {t':Ty} {d:kW (El t')},r j=some z->Dh z=some ⟨t',d⟩->(A.p j).isNone=(show Option (El t') from d).isNone:=by
   intro z t' d hz hd
   have gz:∃T w',kf T w' (.pointer (A.p j)) d:=by
    cases z with
    |ext z=>
     cases z with
     |uK t x=>cases hd;exact⟨S,w,ny (H.bB.ok j _ (show bq A r j=some _ by simp[bq,hz];rfl))⟩
     |par t x=>cases hd;exact⟨o.old,o.w,ny (H.args j _ hz)⟩
     |_=>cases hd
    |_=>cases hd
   obtain⟨T,w',gz⟩:=gz
   cases d with
   |none=>have gz:Value.pointer (A.p j)= .pointer none:=gz;cases hq:A.p j with
    |none=>rfl
    |some _=>rw[hq] at gz;cases gz
   |some y=>obtain⟨b,_,_,_,_,e,_⟩:=gz;cases hq:A.p j with
    |none=>rw[hq] at e;cases e
    |some _=>rfl
  split at h
  .obtain⟨z,hz,h⟩:=aY h
   split at h
   .rename_i t' d hd
    rw[bK h]
    refine⟨⟨A,cV.refl _ _,fun op ho=>?_,tv,tv,tv⟩,rfl⟩
    rw[show(Sy.one (.b (.raw (show Option (El t') from d).isNone))).den A= .bool (A.p j).isNone by rw[key hz hd];rfl]
    exact wS (by assumption) ho hx hy
   cases h
  .obtain⟨z,hz,h⟩:=aY h
   split at h
   .rename_i t' d hd
    rw[bK h]
    refine⟨⟨A,cV.refl _ _,fun op ho=>?_,tv,tv,tv⟩,rfl⟩
    rw[show(Sy.one (.b (.raw (show Option (El t') from d).isSome))).den A= .bool (A.p j).isSome by
     have:=key hz hd
     rw[<-Option.not_isNone,<-Option.not_isNone,<-this];cases A.p j<;>cases d<;>rfl]
    exact wT (by assumption) ho hx hy
   cases h
  cases h
 .rename_i j off
  have hx:a.eval x= .pointer (some ⟨A.b j,off,none⟩):=hx
  have hy:a.eval y= .pointer none:=hy
  split at h
  .rw[bK h];exact⟨⟨A,cV.refl _ _,fun op ho=>wS (by assumption) ho hx hy,tv,tv,tv⟩,rfl⟩
  .rw[bK h];exact⟨⟨A,cV.refl _ _,fun op ho=>wT (by assumption) ho hx hy,tv,tv,tv⟩,rfl⟩
  cases h
 .split at h
  .rw[bK h];exact⟨⟨A,cV.refl _ _,fun op ho=>FD (by assumption) ho hx hy,tv,tv,tv⟩,rfl⟩
  .rw[bK h];exact⟨⟨A,cV.refl _ _,fun op ho=>FE (by assumption) ho hx hy,tv,tv,tv⟩,rfl⟩
  cases h
 .rename_i u v
  have hx:a.eval x= .bool u.den:=hx
  have hy:a.eval y= .bool v.den:=hy
  split at h
  .rw[bK h];exact⟨bN (iq:=none) (p:=P.underlying t=some .bool) rfl tv tv (by simp only[cT,hx,hy,iD];rfl) (by assumption),rfl⟩
  .rw[bK h];exact⟨bN (iq:=none) (p:=P.underlying t=some .bool) rfl tv tv (by simp only[cT,hx,hy,iD];rfl) (by assumption),rfl⟩
  cases h
 cases h
end
theorem bU.drop {S:aL}{w:World}:∀(k:Nat) {vs:List Value} {a:List kX},bU S w vs a->bU S w (vs.drop k) (a.drop k)
 |0,_,_,h=>h
 |k+1,[],[],_=>trivial
 |k+1,_::_,_::_,h=>bU.drop k h.2
 |_+1,[],_::_,h=>h.elim
 |_+1,_::_,[],h=>h.elim
theorem bU.take {S:aL}{w:World}:∀(k:Nat) {vs:List Value} {a:List kX},bU S w vs a->bU S w (vs.take k) (a.take k)
 |0,_,_,_=>trivial
 |k+1,[],[],_=>trivial
 |k+1,_::_,_::_,h=>⟨h.1,bU.take k h.2⟩
 |_+1,[],_::_,h=>h.elim
 |_+1,_::_,[],h=>h.elim
theorem vG.drop {o:bD}{S:aL}{w:World}{k:Bool}(j:Nat){vs:List Value}{cs:List kX}(h:vG o S w k vs cs):vG o S w k (vs.drop j) (cs.drop j):=by
 cases k
 .exact bU.drop j h
 exact bU.drop j h
theorem vG.take {o:bD}{S:aL}{w:World}{k:Bool}(j:Nat){vs:List Value}{cs:List kX}(h:vG o S w k vs cs):vG o S w k (vs.take j) (cs.take j):=by
 cases k
 .exact bU.take j h
 exact bU.take j h
theorem vG.get {o:bD}{S:aL}{w:World}{k:Bool}{vs:List Value}{cs:List kX}(h:vG o S w k vs cs){j:Nat}{c:kX}(hc:cs[j]?=some c):∃v,vs[j]?=some v/\vG o S w k [v] [c]:=by
 cases k
 .obtain⟨v,h1,h2⟩:=bU.get h hc;exact⟨v,h1,h2,tv⟩
 obtain⟨v,h1,h2⟩:=bU.get h hc;exact⟨v,h1,h2,tv⟩
theorem JQ {w w':World}{b q:Nat}(h:w'.heap[b]?=w.heap[b]?):w'.cell? ⟨b,q,none⟩=w.cell? ⟨b,q,none⟩:=by
 unfold World.cell?
 simp only[h]
section
variable {P:Program}{o:bD}{n:Nat}{A:bF}{S:aL}{F:Nat->Prop}{s:Nat->Option E2}{r:Nat->Option R2}{a:Act}{w:World}{C:List (Nat×Bool)}{b:Nat}
theorem l8 {op:Op}{out:Out}{iq:Option Value}{p:Prop}{A':bF}(hA:cV F A A')(ec:out.sy.all (FU F out.re))(hg:out.sy.b9 A')(JR:jv o S w A' b out.re)(h:cT P (· =w) (fun x=>some (a.eval x)) op iq=some (out.sy.den A',p))(hp:p):wR P o A S F w b op a out:=by
 refine⟨A',hA,fun o ho=>?_,ec,hg,JR⟩
 subst ho
 exact Hs (ρ:=a.eval) (fun x u hx=>Option.some.inj hx) h hp w rfl
theorem aW {out FF:Out}(h:(Tr.ret FF).run s r=some out):out=FF:=(Option.some.inj h).symm
theorem wU {j:Nat}(h:F j):FU F [] j:=.inl h
theorem wV {B:Nat}{k:Bool}(hF:∀j,b<=j->j<B->¬F j){t:TypeId}{x:Operand}{off dM base:Nat}{cs:List kX}{vs:List Value}{out:Out}(hx:a.eval x= .pointer (some ⟨dM,base+off,none⟩))(wW:vG o S w k vs cs)(jP:∀q,q<vs.length->w.cell? ⟨dM,base+q,none⟩=vs[q]?)
  (h:(Di P k b t cs off).run s r=some out) (hB:∀p∈out.re,p.1<B):wR P o A S F w b (.load t x) a out/\out.hs=[]/\∀p∈out.cs,p:=by
 unfold Di at h
 split at h
 .rename_i fs hu
  obtain⟨CP,h⟩:=an h
  rw[Bool.and_eq_true] at CP
  have fS:=Nat.eq_of_beq_eq_true CP.2
  have e:=aW h
  subst e
  obtain⟨A',k1,k2,k3,k4⟩:=fq _ _ b A F (vG.take (P.cellsOf t) (vG.drop off wW)) hF hB
  have Bp:((vs.drop off).take (P.cellsOf t)).length=P.cellsOf t:=by rw[<-k2,List.length_map];exact fS
  refine⟨l8 (A':=A') (iq:=some (.agg (((vs.drop off).take (P.cellsOf t))).toArray)) (p:=(P.info? t).isSome=true/\CX (· =w) dM (base+off) (P.cellsOf t) ((vs.drop off).take (P.cellsOf t)).toArray) k1 (fun c tJ=>(k4 c tJ).1) (fun c tJ=>(k4 c tJ).2) k3 ?_ ⟨CP.1,?_,?_⟩,rfl,fun _ q=>by cases q⟩
  .simp only[cT,hu,hx,Sy.den]
   rw[k2]
  .simp only[List.size_toArray];exact Bp
  intro w' Bj q hq
  subst Bj
  have hq2:off+q<vs.length:=by
   rw[List.length_take,List.length_drop] at Bp;omega
  rw[Nat.add_assoc,jP (off+q) hq2,List.getElem?_toArray,List.getElem?_take,if_pos hq,List.getElem?_drop]
 .cases h
 .rename_i d zB CQ hu
  split at h
  .rename_i c cH
   obtain⟨v,FG,Ue⟩:=vG.get wW cH
   split at h
   .rename_i sc re QA
    have e:=aW h
    subst e
    obtain⟨A',k1,k2,k3,k4⟩:=fq [c] [v] b A F Ue hF (by rw[QA];exact hB)
    rw[QA] at k2 k3 k4
    have k2:sc.den A'=v:=by simpa using k2
    refine⟨l8 (A':=A') (iq:=some v) (p:=Bi (· =w) dM (base+off) v) k1 (k4 sc (by simp)).1 (k4 sc (by simp)).2 k3 ?_ ?_,rfl,fun _ q=>by cases q⟩
    .simp only[cT,hx,Sy.den]
     rw[hu,k2]
     cases d<;>first|exact(zB _ rfl).elim|exact(CQ _ _ rfl).elim|rfl
    intro w' Bj
    subst Bj
    rw[jP off (List.getElem?_eq_some_iff.1 FG).1,FG]
   cases h
  cases h
 cases h
theorem uN {T:aL}{w':World}{t:Ty}{dM:Nat}{y:El t}(h:gA T w' dM y):∃vs,Data.rd T w' vs y/\vs.length=aH t/\T dM/\∀q,q<vs.length->w'.cell? ⟨dM,0+q,none⟩=vs[q]?:=by
 obtain⟨cur,t',fz,cs,h1,h2,h3,h4⟩:=h
 refine⟨cs,h3,by rw[Data.len h3,b7],h1,fun q hq=>?_⟩
 rw[Nat.zero_add,cell_of_row w' dM q cur t' fz h2]
 exact h4 q (by rw[<-Data.len h3];exact hq)
theorem Mj {B:Nat}(H:cz o n A S F s r a w)(hF:∀j,b<=j->j<B->¬F j){t:TypeId}{x:Operand}{p:Sy}{out:Out}(hx:a.eval x=p.den A)(ec:p.all F)(hg:p.b9 A)(h:(Mb P b t p).run s r=some out)(hB:∀p∈out.re,p.1<B):wR P o A S F w b (.load t x) a out/\out.hs=[]:=by
 unfold Mb at h
 split at h
 ·
  rename_i j off
  obtain⟨y,hy,h⟩:=aY h
  have hx:a.eval x= .pointer (some ⟨A.b j,off,none⟩):=hx
  have hr:=H.dD j y hy
  have Fe:bq A r j=some (y.den A j):=by simp[bq,hy]
  split at h
  .rename_i bt cs
   have hm:bq A r j=some (Rs.of (.box (A.b j) bt (cs.map (Sc.den A)))):=Fe
   have hb:w.heap[A.b j]?=some (.cells (cs.map (Sc.den A)).toArray bt (0,0)):=H.bB.ok j _ hm
   have jP:∀q,w.cell? ⟨A.b j,q,none⟩=(cs.map (Sc.den A))[q]?:=fun q=>by rw[cell_of_row w _ q _ _ _ hb];simp
   split at h
   .rename_i fs hu
    obtain⟨CP,h⟩:=an h
    rw[Bool.and_eq_true] at CP
    have hlen:=Nat.eq_of_beq_eq_true CP.2
    have e:=aW h
    subst e
    refine⟨l8 (A':=A) (iq:=some (.agg (((cs.drop off).take (P.cellsOf t)).map (Sc.den A)).toArray)) (p:=(P.info? t).isSome=true/\CX (· =w) (A.b j) off (P.cellsOf t) (((cs.drop off).take (P.cellsOf t)).map (Sc.den A)).toArray) (cV.refl _ _) ?_ ?_ tv ?_ ⟨CP.1,?_,?_⟩,rfl⟩
    .intro c tJ;exact Sc.mono (fun _=>wU) (hr.2.1 c (List.mem_of_mem_drop (List.mem_of_mem_take tJ)))
    .intro c tJ;exact hr.2.2 c (List.mem_of_mem_drop (List.mem_of_mem_take tJ))
    .simp only[cT,hu,hx];rfl
    .rw[List.length_take,List.length_drop] at hlen;simp;exact hlen
    intro w' Bj q hq
    subst Bj
    rw[jP,List.getElem?_toArray,List.map_take,List.map_drop,List.getElem?_take,if_pos hq,List.getElem?_drop]
   .cases h
   .rename_i d zB CQ hu
    split at h
    .rename_i c cH
     have e:=bK h
     subst e
     have dX:=List.mem_of_getElem? cH
     refine⟨l8 (A':=A) (iq:=some (c.den A)) (p:=Bi (· =w) (A.b j) off (c.den A)) (cV.refl _ _) (Sc.mono (fun _=>wU) (hr.2.1 c dX)) (hr.2.2 c dX) tv ?_ ?_,rfl⟩
     .simp only[cT,hx]
      rw[hu]
      cases d<;>first|exact(zB _ rfl).elim|exact(CQ _ _ rfl).elim|rfl
     intro w' Bj
     subst Bj
     rw[jP,List.getElem?_map,cH];rfl
    cases h
   cases h
  .rename_i t' y
   have hp:gA S w (A.b j) y:=H.bB.ok j _ Fe
   obtain⟨vs,h1,h2,_,h3⟩:=uN hp
   obtain⟨k1,k2,_⟩:=wV (P:=P) (k:=true) (base:=0) hF (by rw[Nat.zero_add];exact hx) (gK t' h1) h3 h hB
   exact⟨k1,k2⟩
  .rename_i t' y
   have hp:gA o.old o.w (A.b j) y:=H.args j _ hy
   obtain⟨vs,h1,h2,h4,h3⟩:=uN hp
   obtain⟨k1,k2,_⟩:=wV (P:=P) (k:=false) (w:=w) (base:=0) hF (by rw[Nat.zero_add];exact hx) (gK t' h1) (fun q hq=>by rw[<-h3 q hq];exact JQ (H.bB.old _ h4)) h hB
   exact⟨k1,k2⟩
  cases h
 ·
  rename_i j i sz off
  obtain⟨y,hy,h⟩:=aY h
  obtain⟨g,f,m,cp,hv,h0,h1⟩:CW (A.v j) i:=hg
  split at h
  .rename_i q e t' ie l
   obtain⟨cw,h⟩:=an h
   have cw:=Nat.eq_of_beq_eq_true cw
   subst cw
   have hm:iy S w (A.v j) (A.f q) none e t' ie l:=H.bB.ok j _ (show bq A r j=some _ by simp[bq,hy];rfl)
   obtain⟨Bq,Q0,_⟩:=H.dD j _ hy
   have Q0:F q:=Q0
   have hlen:m=l.length:=by
    obtain⟨p',c',e,_⟩:=wP H hy (t:=t') (l:=l) rfl
    rw[hv] at e
    cases e;rfl
   subst hlen
   have hx:a.eval x= .pointer (some ⟨zz (A.v j),zA (A.v j)+i.toNat*aH t'+off,none⟩):=hx
   split at h
   .rename_i fs hu
    split at h
    .rename_i c hc
     obtain⟨CP,h⟩:=an h
     rw[Bool.and_eq_true] at CP
     have fS:=Nat.eq_of_beq_eq_true CP.2
     have e:=aW h
     subst e
     have wD:∀d x,(((bg t' (l.getD i.toNat (rC t'))).drop off).take (P.cellsOf t))[d]?=some x->(bg t' (l.getD i.toNat (rC t')))[off+d]?=some x:=fun d x hd=>by
      rw[List.getElem?_take] at hd
      split at hd
      .rwa[List.getElem?_drop] at hd
      cases hd
     obtain⟨k1,k2⟩:=wQ (F:=F) (S:=S) (w:=w) (A:=A) (ie:=ie) hc fun d x hd=>by
      exact(tP hm h0 h1 (wD d x hd)).2
     refine⟨l8 (A':=A) (iq:=some (.agg (c.map (Sc.den A)).toArray)) (p:=(P.info? t).isSome=true/\CX (· =w) (zz (A.v j)) (zA (A.v j)+i.toNat*aH t'+off) (P.cellsOf t) (c.map (Sc.den A)).toArray) (cV.refl _ _) (fun u hu=>?_) (fun u hu=>?_) tv ?_ ⟨CP.1,?_,?_⟩,rfl⟩
     .obtain⟨d,hd⟩:=List.mem_iff_getElem?.1 hu
      exact Sc.mono (fun _=>wU) ((k2 d u hd).2.1 Bq Q0)
     .obtain⟨d,hd⟩:=List.mem_iff_getElem?.1 hu
      exact(k2 d u hd).2.2
     .simp only[cT,hu,hx,Sy.den]
     .simp;exact fS
     intro w' Bj d hd
     subst Bj
     have vj:d<c.length:=by omega
     have hcd:c[d]?=some c[d]:=List.getElem?_eq_getElem vj
     have Q1:(((bg t' (l.getD i.toNat (rC t'))).drop off).take (P.cellsOf t))[d]?=some (((bg t' (l.getD i.toNat (rC t'))).drop off).take (P.cellsOf t))[d]:=List.getElem?_eq_getElem (by rw[<-k1];exact vj)
     have:=(tP hm h0 h1 (wD d _ Q1)).1
     rw[List.getElem?_toArray,List.getElem?_map,hcd,Option.map_some,(k2 d _ hcd).1,<-this]
     congr 2;omega
    cases h
   .cases h
   .rename_i d zB CQ hu
    split at h
    .rename_i c cH
     split at h
     .rename_i sc hsc
      have e:=bK h
      subst e
      obtain⟨n1,n2⟩:=tP hm h0 h1 cH
      obtain⟨k1,k2⟩:=wQ (F:=F) (S:=S) (w:=w) (A:=A) (ie:=ie) hsc fun d x hd=>by
       cases d with
       |zero=>
        have:c=x:=by simpa using hd
        subst this;exact n2
       |succ d=>simp at hd
      obtain⟨z1,z2,z3⟩:=k2 0 sc rfl
      refine⟨l8 (A':=A) (iq:=some (sc.den A)) (p:=Bi (· =w) (zz (A.v j)) (zA (A.v j)+i.toNat*aH t'+off) (sc.den A)) (cV.refl _ _) (Sc.mono (fun _=>wU) (z2 Bq Q0)) z3 tv ?_ ?_,rfl⟩
      .simp only[cT,hx,Sy.den]
       rw[hu]
       cases d<;>first|exact(zB _ rfl).elim|exact(CQ _ _ rfl).elim|rfl
      intro w' Bj
      subst Bj
      rw[z1,Nat.add_zero,<-n1,Nat.add_assoc]
     cases h
    cases h
   cases h
  split at h
  .rename_i t' l hl
   obtain⟨cw,h⟩:=an h
   have cw:=Nat.eq_of_beq_eq_true cw
   rw[L7] at cw
   have gz:=pT H hy hl
   have hlen:m=l.length:=by
    obtain⟨p',c',e,_⟩:=cn gz
    rw[hv] at e
    cases e;rfl
   subst hlen
   obtain⟨vs,wW,YB,jP⟩:=Bo H hy hl h0 h1
   have hx:a.eval x= .pointer (some ⟨zz (A.v j),zA (A.v j)+i.toNat*Data.size (El t')+off,none⟩):=by rw[cw];exact hx
   obtain⟨k1,k2,_⟩:=wV (P:=P) hF hx wW (fun q hq=>jP q (by rw[<-YB];exact hq)) h hB
   exact⟨k1,k2⟩
  cases h
 cases h
theorem Mk (H:cz o n A S F s r a w)(hC:jd a C){c x y:Operand}{out:Out}(h:(Mc C c x y).run s r=some out):wR P o A S F w b (.pick c x y) a out/\out.hs=[]:=by
 have key:∀(e:BE) (v:Sy),a.eval c= .bool e.den->(e.den=true->a.eval x=v.den A)->(e.den=false->a.eval y=v.den A)->v.all F->v.b9 A->wR P o A S F w b (.pick c x y) a ⟨[],[],v,[]⟩:=by
  intro e v hc h1 h2 h3 h4
  refine⟨A,cV.refl _ _,fun o ho=>?_,Sy.mono (fun _=>wU) h3,h4,tv⟩
  simp only[execOp,ho,hc,asBool,Sem.run_bind,Sem.run_pure,Result.andThen_ok]
  cases hd:e.den with
  |true=>simp only[if_true,h1 hd];exact⟨rfl,rfl⟩
  |false=>simp only[Bool.false_eq_true,if_false,h2 hd];exact⟨rfl,rfl⟩
 unfold Mc at h
 split at h
 .rename_i t
  simp only[gG,Tr.run] at h
  split at h
  .rename_i en QB
   split at h
   .rename_i hp
    have htm:=zQ H hC QB hp
    have JS:a.eval (.tmp t)=en.sy.den A:=by simp only[Act.eval,Array.getD_eq_getD_getElem?,htm,Option.getD_some]
    split at h
    .rename_i Ff
     obtain⟨v,e1,e2,e3,h⟩:=aM H hC h
     have e:=aW h
     subst e
     rw[Ff] at JS
     exact⟨key (.lit true) v JS (fun _=>e1) (fun q=>by cases q) e2 e3,rfl⟩
    .rename_i Ff
     obtain⟨v,e1,e2,e3,h⟩:=aM H hC h
     have e:=aW h
     subst e
     rw[Ff] at JS
     exact⟨key (.lit false) v JS (fun q=>by cases q) (fun _=>e1) e2 e3,rfl⟩
    .rename_i e _ _ Ff
     rw[Ff] at JS htm
     have JS:a.eval (.tmp t)= .bool e.den:=JS
     have YC:∀b',e.den=b'->jd a (C++[(t,b')]):=by
      intro b' ng l hl
      rcases List.mem_append.1 hl with hl|hl
      .exact hC l hl
      rw[List.mem_singleton] at hl;subst hl;subst ng;exact htm
     split at h
     .have hx:∀q,a.eval (.const (.bool q))= .bool q:=fun _=>rfl
      by_cases hd:e.den=false
      .obtain⟨v,e1,e2,e3,h⟩:=aM H (YC false hd) h
       split at h
       .rename_i q
        have e':=bK h
        subst e'
        refine⟨key e (.one (.b (.or e q))) JS (fun k=>by rw[hd] at k;cases k) (fun _=>?_) tv tv,rfl⟩
        rw[e1]
        show Value.bool q.den= .bool (e.den||q.den)
        rw[hd];rfl
       cases h
      have hd:e.den=true:=by simpa using hd
      have:∃q,out=⟨[],[],.one (.b (.or e q)),[]⟩:=by
       generalize hk:(fun r:Sy=>match r with| .one (.b q)=>one (.b (.or e q))|_=>Tr.fail)=k at h
       have JT:∀(u:Sy),(k u).run s r=some out->∃q,out=⟨[],[],.one (.b (.or e q)),[]⟩:=by
        intro u hu
        subst hk
        simp only at hu
        split at hu
        .exact⟨_,bK hu⟩
        cases hu
       cases y with
       |tmp t2=>
        simp only[gG,Tr.run] at h
        split at h
        .split at h
         .exact JT _ h
         cases h
        cases h
       |const v=>exact JT _ h
       |func f=>exact JT _ h
       |global g=>cases h
      obtain⟨q,rfl⟩:=this
      refine⟨key e (.one (.b (.or e q))) JS (fun _=>?_) (fun k=>by rw[hd] at k;cases k) tv tv,rfl⟩
      rw[hx]
      show Value.bool true= .bool (e.den||q.den)
      rw[hd];rfl
     .have hx:∀q,a.eval (.const (.bool q))= .bool q:=fun _=>rfl
      by_cases hd:e.den=true
      .obtain⟨v,e1,e2,e3,h⟩:=aM H (YC true hd) h
       split at h
       .rename_i q
        have e':=bK h
        subst e'
        refine⟨key e (.one (.b (.and e q))) JS (fun _=>?_) (fun k=>by rw[hd] at k;cases k) tv tv,rfl⟩
        rw[e1]
        show Value.bool q.den= .bool (e.den && q.den)
        rw[hd];rfl
       cases h
      have hd:e.den=false:=by simpa using hd
      have:∃q,out=⟨[],[],.one (.b (.and e q)),[]⟩:=by
       generalize hk:(fun r:Sy=>match r with| .one (.b q)=>one (.b (.and e q))|_=>Tr.fail)=k at h
       have JT:∀(u:Sy),(k u).run s r=some out->∃q,out=⟨[],[],.one (.b (.and e q)),[]⟩:=by
        intro u hu
        subst hk
        simp only at hu
        split at hu
        .exact⟨_,bK hu⟩
        cases hu
       cases x with
       |tmp t2=>
        simp only[gG,Tr.run] at h
        split at h
        .split at h
         .exact JT _ h
         cases h
        cases h
       |const v=>exact JT _ h
       |func f=>exact JT _ h
       |global g=>cases h
      obtain⟨q,rfl⟩:=this
      refine⟨key e (.one (.b (.and e q))) JS (fun k=>by rw[hd] at k;cases k) (fun _=>?_) tv tv,rfl⟩
      rw[hx]
      show Value.bool false= .bool (e.den && q.den)
      rw[hd];rfl
     cases h
    cases h
   cases h
  cases h
 cases h
end
section
variable {P:Program}{o:bD}{n:Nat}{A:bF}{S:aL}{F:Nat->Prop}{s:Nat->Option E2}{r:Nat->Option R2}{a:Act}{w:World}{C:List (Nat×Bool)}{b:Nat}
theorem Ml (H:cz o n A S F s r a w)(hC:jd a C){c:Call}{out:Out}(h:(jh P C b (.call c)).run s r=some out)(hc:∀p∈out.cs,p):wR P o A S F w b (.call c) a out/\out.hs=[]:=by
 simp only[jh] at h
 split at h
 .rename_i x iW dB
  split at h
  .rename_i hu
   obtain⟨p,e1,e2,e3,h⟩:=aM H hC h
   split at h
   .rename_i u
    rw[bK h]
    have e1:a.eval x= .string u:=e1
    refine⟨bN (iq:=none) (p:=True) rfl tv tv ?_ tv,rfl⟩
    simp only[cT,iW,dB,List.map_cons,List.map_nil,e1,hu];rfl
   cases h
  .rename_i e hu
   obtain⟨p,e1,e2,e3,h⟩:=aM H hC h
   split at h
   .rename_i j
    obtain⟨y,hy,h⟩:=aY h
    split at h
    .rename_i t l hl
     rw[bK h]
     have e1:a.eval x=A.v j:=e1
     refine⟨bN (iq:=some (.int .i64 (l.length:Int))) (p:=LL (A.v j) (l.length:Int)) rfl tv tv ?_ (let⟨p,c,e,_⟩:=wP H hy hl;⟨p,_,c,e,rfl⟩),rfl⟩
     simp only[cT,iW,dB,List.map_cons,List.map_nil,e1,hu];rfl
    cases h
   .rw[bK h]
    have e1:a.eval x= .slice none 0 0:=e1
    refine⟨bN (iq:=some (.int .i64 0)) (p:=LL (.slice none 0 0) 0) rfl tv tv ?_ ⟨_,_,_,rfl,rfl⟩,rfl⟩
    simp only[cT,iW,dB,List.map_cons,List.map_nil,e1,hu];rfl
   cases h
  cases h
 .rename_i x y iW dB
  obtain⟨p,e1,e2,e3,h⟩:=aM H hC h
  obtain⟨q,f1,f2,f3,h⟩:=aM H hC h
  split at h
  .rename_i u v _
   rw[bK h]
   have e1:a.eval x= .int .i64 u:=e1
   have f1:a.eval y= .int .i64 v:=f1
   refine⟨bN (iq:=some (.int .i64 (max u v))) (p:=∀ty w,(Builtin.max_ c.argTypes ty [.int .i64 u,.int .i64 v].toArray).run P w= .ok (.int .i64 (max u v)) w) rfl tv tv ?_ (fun ty w=>Va ty w),rfl⟩
   simp only[cT,iW,dB,List.map_cons,List.map_nil,e1,f1];rfl
  cases h
 .rename_i x y iW dB
  obtain⟨p,e1,e2,e3,h⟩:=aM H hC h
  obtain⟨q,f1,f2,f3,h⟩:=aM H hC h
  split at h
  .rename_i u v _
   rw[bK h]
   have e1:a.eval x= .int .i64 u:=e1
   have f1:a.eval y= .int .i64 v:=f1
   refine⟨bN (iq:=some (.int .i64 (min u v))) (p:=∀ty w,(Builtin.min_ c.argTypes ty [.int .i64 u,.int .i64 v].toArray).run P w= .ok (.int .i64 (min u v)) w) rfl tv tv ?_ (fun ty w=>Vb ty w),rfl⟩
   simp only[cT,iW,dB,List.map_cons,List.map_nil,e1,f1];rfl
  cases h
 cases h
theorem JU {B:Nat}(H:cz o n A S F s r a w)(hC:jd a C)(hF:∀j,b<=j->j<B->¬F j){op:Op}{out:Out}(h:(jh P C b op).run s r=some out)(hc:∀p∈out.cs,p)(hB:∀p∈out.re,p.1<B):wR P o A S F w b op a out/\out.hs=[]:=by
 cases op
 case move x=>
  obtain⟨p,e1,e2,e3,h⟩:=aM H hC h
  rw[aW h]
  exact⟨bN (iq:=none) (p:=True) rfl e2 e3 (by simp only[cT,e1];rfl) tv,rfl⟩
 case assign x=>
  obtain⟨p,e1,e2,e3,h⟩:=aM H hC h
  rw[aW h]
  exact⟨bN (iq:=none) (p:=True) rfl e2 e3 (by simp only[cT,e1];rfl) tv,rfl⟩
 case unOp uo t x=>
  cases uo
  case not=>
   obtain⟨p,e1,e2,e3,h⟩:=aM H hC h
   split at h
   .rename_i e
    rw[bK h]
    have e1:a.eval x= .bool e.den:=e1
    exact⟨bN (iq:=none) (p:=True) rfl tv tv (by simp only[cT,e1];rfl) tv,rfl⟩
   cases h
  all_goals cases h
 case extract x i=>
  obtain⟨p,e1,e2,e3,h⟩:=aM H hC h
  split at h
  .rename_i ps
   have e1:a.eval x= .tuple (ps.map (eX A)).toArray:=e1
   split at h
   .rename_i cs JF
    rw[aW h]
    have hm:=List.mem_of_getElem? JF
    refine⟨bN (iq:=none) (p:=True) rfl (fun c hc=>e2 _ hm c hc) (fun c hc=>e3 _ hm c hc) ?_ tv,rfl⟩
    simp only[cT,e1,List.getElem?_toArray,List.getElem?_map,JF];rfl
   .rename_i c JF
    rw[bK h]
    have hm:=List.mem_of_getElem? JF
    refine⟨bN (iq:=none) (p:=True) rfl (e2 _ hm c (by simp)) (e3 _ hm c (by simp)) ?_ tv,rfl⟩
    simp only[cT,e1,List.getElem?_toArray,List.getElem?_map,JF];rfl
   cases h
  cases h
 case nilCheck x=>
  obtain⟨p,e1,e2,e3,h⟩:=aM H hC h
  split at h
  .rename_i j off
   rw[bK h]
   exact⟨bN (iq:=none) (p:=True) rfl e2 e3 (by simp only[cT,e1,Sy.den,Sc.den]) tv,rfl⟩
  .rename_i j i sz off
   rw[bK h]
   exact⟨bN (iq:=none) (p:=True) rfl e2 e3 (by simp only[cT,e1,Sy.den,Sc.den]) tv,rfl⟩
  .rename_i j
   have e1:a.eval x= .pointer (A.p j):=e1
   obtain⟨z,hz,h⟩:=aY h
   have fin:∀ {t:Ty} {y:kW (El t)} {k:Bool} {T:aL} {w':World},kf T w' (.pointer (A.p j)) y->(∀dM,A.p j=some ⟨dM,0,none⟩->∀d:El t,gA T w' dM d->Ud o S w (A.set b (A.p j) 0 0 dM) b (.ext (if k then .Dd t d else .yQ t d)))->
     out=⟨[(show Option (El t) from y).isSome=true],[],.one (.ptr b 0),[(b,some (.ext (if k then .Dd t ((show Option (El t) from y).getD (rC t)) else .yQ t ((show Option (El t) from y).getD (rC t)))))]⟩->wR P o A S F w b (.nilCheck x) a out/\out.hs=[]:=by
    intro t y k T w' hp JR e
    subst e
    have hs:(show Option (El t) from y).isSome=true:=hc _ (by simp)
    cases y with
    |none=>cases hs
    |some d=>
     obtain⟨dM,cur,t0,fz,cs,p1,p2,p3,p4,p5⟩:=hp
     have p1:A.p j=some ⟨dM,0,none⟩:=by injection p1
     have nB:¬F b:=hF b (Nat.le_refl _) (hB _ (List.mem_singleton.2 rfl))
     refine⟨⟨A.set b (A.p j) 0 0 dM,cV.set nB _ _ _ _,fun op ho=>?_,.inr ⟨_,List.mem_singleton.2 rfl⟩,tv,⟨Nat.le_refl _,⟨_,rfl,JR dM p1 d ⟨cur,t0,fz,cs,p2,p3,p4,p5⟩⟩,tv⟩⟩,rfl⟩
     have Q2:(Sy.one (.ptr b 0)).den (A.set b (A.p j) 0 0 dM)= .pointer (some ⟨dM,0,none⟩):=by
      show Value.pointer (some ⟨(A.set b (A.p j) 0 0 dM).b b,0,none⟩)=_
      rw[bF.wL]
     rw[Q2]
     simp only[execOp,ho,e1,p1]
     exact⟨rfl,rfl⟩
   split at h
   .rename_i t y
    refine fin (k:=true) (T:=S) (w':=w) (ny (H.bB.ok j _ (show bq A r j=some _ by simp[bq,hz];rfl))) (fun dM hb d hd=>?_) (aW h)
    show gA S w ((A.set b (A.p j) 0 0 dM).b b) d
    rw[bF.wL];exact hd
   .rename_i t y
    refine fin (k:=false) (T:=o.old) (w':=o.w) (ny (H.args j _ hz)) (fun dM hb d hd=>?_) (aW h)
    show gA o.old o.w ((A.set b (A.p j) 0 0 dM).b b) d
    rw[bF.wL];exact hd
   cases h
  cases h
 case binOp bo t x y t'=>
  obtain⟨p,e1,e2,e3,h⟩:=aM H hC h
  obtain⟨q,f1,f2,f3,h⟩:=aM H hC h
  exact QZ H e1 f1 h hc
 case convert sT dT x=>
  simp only[jh] at h
  split at h
  .rename_i k1 k h1 h2
   obtain⟨p,e1,e2,e3,h⟩:=aM H hC h
   split at h
   .rename_i k2 m
    obtain⟨rfl,hp⟩:=fu h hc
    have e1:a.eval x= .int k2 m:=e1
    exact⟨bN (iq:=none) rfl tv tv (by simp only[cT,h1,h2,e1];rfl) hp,rfl⟩
   cases h
  cases h
 case index t x i=>
  simp only[jh] at h
  split at h
  .rename_i hu
   obtain⟨p,e1,e2,e3,h⟩:=aM H hC h
   obtain⟨q,f1,f2,f3,h⟩:=aM H hC h
   split at h
   .rename_i u k m _
    obtain⟨rfl,hp⟩:=fu h hc
    have e1:a.eval x= .string u:=e1
    have f1:a.eval i= .int k m:=f1
    exact⟨bN (iq:=none) rfl tv tv (by simp only[cT,hu,e1,f1];rfl) (show aV m u.size from hp),rfl⟩
   cases h
  cases h
 case indexAddr t x i=>
  simp only[jh] at h
  split at h
  .rename_i e hu
   obtain⟨p,e1,e2,e3,h⟩:=aM H hC h
   obtain⟨q,f1,f2,f3,h⟩:=aM H hC h
   split at h
   .rename_i j k m _
    obtain⟨y,hy,h⟩:=aY h
    split at h
    .rename_i t' l hl
     obtain⟨hi,h⟩:=an h
     obtain⟨rfl,hp⟩:=fu h hc
     have e1:a.eval x=A.v j:=e1
     have f1:a.eval i= .int k m:=f1
     have JV:=JP H hy hl hp.1 hp.2
     exact⟨bN (iq:=none) (p:=(P.info? e).isSome=true/\CW (A.v j) m) rfl e2 JV (by simp only[cT,hu,e1,f1];rfl) ⟨hi,JV⟩,rfl⟩
    cases h
   cases h
  cases h
 case fieldAddr t x f=>
  simp only[jh] at h
  split at h
  .rename_i fs hu
   split at h
   .rename_i fd Qz
    obtain⟨hi,h⟩:=an h
    have hi:0<P.cellsOf fd.type:=by simpa using Nat.blt_eq▸hi
    obtain⟨p,e1,e2,e3,h⟩:=aM H hC h
    split at h
    .rename_i j off
     rw[bK h]
     have e1:a.eval x= .pointer (some ⟨A.b j,off,none⟩):=e1
     exact⟨bN (iq:=none) (p:=0<P.cellsOf fd.type) rfl e2 tv (by simp only[cT,hu,e1,Qz];rfl) hi,rfl⟩
    .rename_i j i sz off
     rw[bK h]
     have e1:a.eval x= .pointer (some ⟨zz (A.v j),zA (A.v j)+i.toNat*sz+off,none⟩):=e1
     exact⟨bN (iq:=none) (p:=0<P.cellsOf fd.type) rfl e2 e3 (by simp only[cT,hu,e1,Qz,Sy.den,Sc.den,Nat.add_assoc]) hi,rfl⟩
    cases h
   cases h
  cases h
 case load t x=>
  obtain⟨p,e1,e2,e3,h⟩:=aM H hC h
  exact Mj H hF e1 e2 e3 h hB
 case field t x f=>
  simp only[jh] at h
  split at h
  .rename_i fs hu
   split at h
   .rename_i fd Qz
    obtain⟨p,e1,e2,e3,h⟩:=aM H hC h
    split at h
    .rename_i cs
     have e1:a.eval x= .agg (cs.map (Sc.den A)).toArray:=e1
     split at h
     .rename_i fs' h3
      obtain⟨hi,h⟩:=an h
      rw[aW h]
      refine⟨bN (iq:=none) (p:=(P.info? fd.type).isSome=true) rfl (fun c hc=>e2 c (List.mem_of_mem_drop (List.mem_of_mem_take hc))) (fun c hc=>e3 c (List.mem_of_mem_drop (List.mem_of_mem_take hc))) ?_ hi,rfl⟩
      simp only[cT,hu,e1,Qz,h3,Sy.den,List.map_take,List.map_drop]
      congr 3
      apply Array.ext'
      rw[Array.toList_extract,List.extract_eq_take_drop]
      simp
     .cases h
     .rename_i d zB CQ h3
      split at h
      .rename_i c cH
       rw[bK h]
       have hm:=List.mem_of_getElem? cH
       refine⟨bN (iq:=none) (p:=True) rfl (e2 c hm) (e3 c hm) ?_ tv,rfl⟩
       have hg:((cs.map (Sc.den A)).toArray[fd.offset]?).map (fun v=>(v,True))=some (c.den A,True):=by
        rw[List.getElem?_toArray,List.getElem?_map,cH];rfl
       simp only[cT,hu,e1,Qz,h3]
       cases d<;>first|exact(zB _ rfl).elim|exact(CQ _ _ rfl).elim|exact hg
      cases h
     cases h
    cases h
   cases h
  cases h
 case pick c x y=>exact Mk H hC h
 case call c=>exact Ml H hC h hc
 all_goals cases h
end
end Go.Proofs.YtnfdimfepbbbpaaGreat
