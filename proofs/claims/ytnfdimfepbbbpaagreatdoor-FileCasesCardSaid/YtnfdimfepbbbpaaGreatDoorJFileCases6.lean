/-
  Texts joined by program: WkR, WkN, WkT, WkU, WkB, WkF, WkP, WkG, WkQ, FlA, FlS, FlH, Shelf, FlK, FlW, VBd, FlP, WkC1, WkC2.
-/
import Derived.Test.YtnfdimfepbbbpaaGreatDoorJFileCases5
import Derived.Shelf.Strings.Builder1
import Derived.Shelf.Strings.OnBuilder
import Derived.Ground.NamesProg
import Derived.Ground.Names2Prog
import Derived.Shelf.Slices.Clone
import Derived.Shelf.Sort.Plain
import Derived.Shelf.Slices.In.SortNone
import Derived.Shelf.SlIterI.Nil
import Derived.Ground.GgzProg
import Derived.Test.YtnfdimfepbbbpaaGreatDoorProg
import Derived.WalkKit
set_option linter.unusedSimpArgs false
set_option linter.unusedVariables false
set_option maxRecDepth 100000
set_option maxHeartbeats 8000000
namespace Go.Proofs.YtnfdimfepbbbpaaGreatDoor
open Go.RowKit
def turnL (l:List Int)(i:Int):List Int:=l.drop i.toNat++l.take i.toNat
def leastF (l:List Int):Nat->Int
 |0=>0
 |k+1=>if l.getD k 0<l.getD (leastF l k).toNat 0 then(k:Int) else leastF l k
def firstL (l:List Int):List Int:=turnL l (leastF l l.length)
theorem leastF_b (l:List Int):∀k:Nat,0<=leastF l k/\(leastF l k=0\/leastF l k<(k:Int))
 |0=>⟨Int.le_refl _,.inl rfl⟩
 |k+1=>by
  obtain⟨h1,h2⟩:=leastF_b l k
  unfold leastF
  split
  .exact⟨by omega,.inr (by omega)⟩
  exact⟨h1,h2.imp id fun h=>by omega⟩
theorem leastF_snoc (l:List Int){i:Int}(h:0<=i):leastF l (i+1).toNat=if l.getD i.toNat 0<l.getD (leastF l i.toNat).toNat 0 then i else leastF l i.toNat:=by
 rw[show(i+1).toNat=i.toNat+1 by omega]
 show(if _ then((i.toNat:Nat):Int) else _)=_
 rw[Int.toNat_of_nonneg h]
theorem firstL_len (l:List Int):(firstL l).length=l.length:=by
 unfold firstL turnL
 rw[List.length_append,List.length_drop,List.length_take]
 have:=leastF_b l l.length
 omega
theorem firstL_mem {l:List Int}{x:Int}(h:x∈firstL l):x∈l:=by
 unfold firstL turnL at h
 rcases List.mem_append.1 h with h|h
 .exact List.mem_of_mem_drop h
 exact List.mem_of_mem_take h
def plc1 (P:List (Int×Int))(t:List Int):Nat->List (Int×Int)
 |0=>P
 |k+1=>ptI (plc1 P t k) (t.getD k 0) (k:Int)
def plcF (T:List (List Int)):Nat->List (Int×Int)
 |0=>[]
 |v+1=>plc1 (plcF T v) (firstL (T.getD v [])) (firstL (T.getD v [])).length
theorem plc1_snoc {P:List (Int×Int)}{t:List Int}{i:Int}(h:0<=i):plc1 P t (i+1).toNat=ptI (plc1 P t i.toNat) (t.getD i.toNat 0) i:=by
 rw[show(i+1).toNat=i.toNat+1 by omega]
 show ptI _ _ ((i.toNat:Nat):Int)=_
 rw[Int.toNat_of_nonneg h]
theorem plcF_snoc {T:List (List Int)}{i:Int}(h:0<=i):plcF T (i+1).toNat=plc1 (plcF T i.toNat) (firstL (T.getD i.toNat [])) (firstL (T.getD i.toNat [])).length:=by
 rw[show(i+1).toNat=i.toNat+1 by omega];rfl
theorem plc1_len (P:List (Int×Int))(t:List Int):∀k,(plc1 P t k).length<=P.length+k
 |0=>Nat.le_refl _
 |k+1=>by
  have:=plc1_len P t k
  have:=ptI_len (plc1 P t k) (t.getD k 0) (k:Int)
  show(ptI _ _ _).length<=_
  omega
theorem map_snocI {α β:Type}{f:α->β}{T:List α}{i:Int}(d:α)(h0:0<=i)(h1:i<(T.length:Int)):(T.take (i+1).toNat).map f=(T.take i.toNat).map f++[f (T.getD i.toNat d)]:=by
 rw[show(i+1).toNat=i.toNat+1 by omega,List.take_add_one,List.map_append,List.getElem?_eq_getElem (by omega)]
 congr 1
 rw[List.getD_eq_getElem?_getD,List.getElem?_eq_getElem (by omega)]
 rfl
theorem getD_mem' {α:Type}{l:List α}{i:Nat}{d:α}(h:i<l.length):l.getD i d∈l:=by
 rw[List.getD_eq_getElem?_getD,List.getElem?_eq_getElem h];exact List.getElem_mem _
def inLL (T:List (List Int)):Prop:=∀l∈T,∀d∈l,-9223372036854775808<=d/\d<=9223372036854775807
def szLL (T:List (List Int)):Prop:=T.length<=10000/\∀l∈T,l.length<=10000
theorem plcF_len {T:List (List Int)}(h:szLL T):∀v,(plcF T v).length<=v*10000
 |0=>by simp[plcF]
 |v+1=>by
  have h1:=plcF_len h v
  have h2:=plc1_len (plcF T v) (firstL (T.getD v [])) (firstL (T.getD v [])).length
  have h3:(T.getD v []).length<=10000:=by
   by_cases q:v<T.length
   .exact h.2 _ (getD_mem' q)
   rw[List.getD_eq_getElem?_getD,List.getElem?_eq_none (by omega)];simp
  rw[firstL_len] at h2
  show(plc1 _ _ _).length<=_
  rw[Nat.succ_mul,firstL_len]
  omega
abbrev RotT:Type:=List (List Int)×(List (Int×Int)×(List (Int×Int)×List Int))
def besideF (r:Option RotT)(d s:Int):Int×Bool:=match r with
 |none=>(0,false)
 |some (T,lv,pl,ds)=>match lkI lv d with
  |none=>(0,false)
  |some v=>((T.getD v.toNat []).getD (((lkI pl d).getD 0+s+((T.getD v.toNat []).length:Int))%((T.getD v.toNat []).length:Int)).toNat 0,true)
def RotD (r:Option RotT)(d:Int):Prop:=match r with
 |none=>False
 |some (T,lv,pl,ds)=> ∀v,lkI lv d=some v->0<=v/\v<(T.length:Int)/\(T.getD v.toNat []).length<=10000/\0<=(lkI pl d).getD 0/\(lkI pl d).getD 0<((T.getD v.toNat []).length:Int)
theorem RotD.some {r:Option RotT}{d:Int}(h:RotD r d):∃x,r=Option.some x:=by
 cases r with
 |none=>exact h.elim
 |some x=>exact⟨x,rfl⟩
def entE (M:List (Int×Int))(k v:Int):List (Int×Int):=ptI (ptI M k ((lkI M k).getD 0)) k v
theorem entE_len (M:List (Int×Int))(k v:Int):(entE M k v).length<=M.length+2:=by
 have h1:=ptI_len M k ((lkI M k).getD 0)
 have h2:=ptI_len (ptI M k ((lkI M k).getD 0)) k v
 unfold entE;omega
def lv1 (E:List (Int×Int))(M:List (Int×Int))(e:Int):List (Int×Int):=entE (entE M (2*e) (E.getD e.toNat (0,0)).1) (2*e+1) (E.getD e.toNat (0,0)).2
def lvF (E:List (Int×Int))(L:List Int):Nat->List (Int×Int)
 |0=>[]
 |k+1=>lv1 E (lvF E L k) (L.getD k 0)
def dsF (L:List Int):Nat->List Int
 |0=>[]
 |k+1=>dsF L k++[2*L.getD k 0,2*L.getD k 0+1]
theorem lvF_snoc {E:List (Int×Int)}{L:List Int}{i:Int}(h:0<=i):lvF E L (i+1).toNat=lv1 E (lvF E L i.toNat) (L.getD i.toNat 0):=by
 rw[show(i+1).toNat=i.toNat+1 by omega];rfl
theorem dsF_snoc {L:List Int}{i:Int}(h:0<=i):dsF L (i+1).toNat=dsF L i.toNat++[2*L.getD i.toNat 0,2*L.getD i.toNat 0+1]:=by
 rw[show(i+1).toNat=i.toNat+1 by omega];rfl
theorem lvF_len (E:List (Int×Int))(L:List Int):∀k,(lvF E L k).length<=4*k
 |0=>Nat.le_refl _
 |k+1=>by
  have h:=lvF_len E L k
  have h1:=entE_len (lvF E L k) (2*L.getD k 0) (E.getD (L.getD k 0).toNat (0,0)).1
  have h2:=entE_len (entE (lvF E L k) (2*L.getD k 0) (E.getD (L.getD k 0).toNat (0,0)).1) (2*L.getD k 0+1) (E.getD (L.getD k 0).toNat (0,0)).2
  show(entE _ _ _).length<=_
  omega
theorem dsF_len (L:List Int):∀k,(dsF L k).length=2*k
 |0=>rfl
 |k+1=>by
  have:=dsF_len L k
  show(dsF L k++[2*L.getD k 0,2*L.getD k 0+1]).length=_
  rw[List.length_append]
  simp;omega
def ck1 (lv:List (Int×Int))(v:Int)(t:List Int)(P:List (Int×Int)):Nat->Option (List (Int×Int))
 |0=>some P
 |k+1=>match ck1 lv v t P k with
  |none=>none
  |some Q=>if(lkI lv (t.getD k 0)).isSome=true/\(lkI lv (t.getD k 0)).getD 0=v/\(lkI Q (t.getD k 0)).isSome=false then some (ptI Q (t.getD k 0) (k:Int)) else none
def ckF (lv:List (Int×Int))(T:List (List Int)):Nat->Option (List (Int×Int))
 |0=>some []
 |v+1=>match ckF lv T v with
  |none=>none
  |some P=>ck1 lv (v:Int) (T.getD v []) P (T.getD v []).length
theorem ck1_none {lv:List (Int×Int)}{v:Int}{t:List Int}{P:List (Int×Int)}{k:Nat}(h:ck1 lv v t P k=none):∀ {m:Nat},k<=m->ck1 lv v t P m=none
 |0,hm=>by rw[show k=0 by omega] at h;exact h
 |m+1,hm=>by
  by_cases q:k=m+1
  .rw[<-q];exact h
  have:=ck1_none h (m:=m) (by omega)
  unfold ck1;rw[this]
theorem ckF_none {lv:List (Int×Int)}{T:List (List Int)}{k:Nat}(h:ckF lv T k=none):∀ {m:Nat},k<=m->ckF lv T m=none
 |0,hm=>by rw[show k=0 by omega] at h;exact h
 |m+1,hm=>by
  by_cases q:k=m+1
  .rw[<-q];exact h
  have:=ckF_none h (m:=m) (by omega)
  unfold ckF;rw[this]
theorem ck1_step {lv:List (Int×Int)}{v:Int}{t:List Int}{P Q:List (Int×Int)}{i:Int}(h:0<=i)(hQ:ck1 lv v t P i.toNat=some Q):
  ck1 lv v t P (i+1).toNat=if(lkI lv (t.getD i.toNat 0)).isSome=true/\(lkI lv (t.getD i.toNat 0)).getD 0=v/\(lkI Q (t.getD i.toNat 0)).isSome=false then some (ptI Q (t.getD i.toNat 0) i) else none:=by
 rw[show(i+1).toNat=i.toNat+1 by omega]
 conv=>lhs;unfold ck1
 rw[hQ]
 show(if _ then some (ptI Q _ ((i.toNat:Nat):Int)) else none)=_
 rw[Int.toNat_of_nonneg h]
theorem ckF_step {lv:List (Int×Int)}{T:List (List Int)}{P:List (Int×Int)}{v:Int}(h:0<=v)(hP:ckF lv T v.toNat=some P):ckF lv T (v+1).toNat=ck1 lv v (T.getD v.toNat []) P (T.getD v.toNat []).length:=by
 rw[show(v+1).toNat=v.toNat+1 by omega]
 conv=>lhs;unfold ckF
 rw[hP]
 show ck1 lv ((v.toNat:Nat):Int) _ _ _=_
 rw[Int.toNat_of_nonneg h]
theorem ck1_len {lv:List (Int×Int)}{v:Int}{t:List Int}{P:List (Int×Int)}:∀ {k:Nat} {Q:List (Int×Int)},ck1 lv v t P k=some Q->Q.length<=P.length+k
 |0,Q,h=>by cases h;omega
 |k+1,Q,h=>by
  unfold ck1 at h
  split at h
  .cases h
  rename_i R hR
  have:=ck1_len hR
  split at h
  .cases h
   have:=ptI_len R (t.getD k 0) (k:Int)
   omega
  cases h
theorem ckF_len {lv:List (Int×Int)}{T:List (List Int)}(hs:szLL T):∀ {v:Nat} {Q:List (Int×Int)},ckF lv T v=some Q->Q.length<=v*10000
 |0,Q,h=>by cases h;simp
 |v+1,Q,h=>by
  unfold ckF at h
  split at h
  .cases h
  rename_i R hR
  have h1:=ckF_len hs hR
  have h2:=ck1_len h
  have h3:(T.getD v []).length<=10000:=by
   by_cases q:v<T.length
   .exact hs.2 _ (getD_mem' q)
   rw[List.getD_eq_getElem?_getD,List.getElem?_eq_none (by omega)];simp
  rw[Nat.succ_mul];omega
def newF (n:Int)(E:List (Int×Int))(V L:List Int)(T:List (List Int)):Option RotT×Int:=
 if partE n E V L≠0 then(none,partE n E V L) else if(T.length:Int)≠n then(none,5) else match ckF (lvF E L L.length) T T.length with
  |none=>(none,5)
  |some P=>if(P.length:Int)≠((lvF E L L.length).length:Int) then(none,5) else(some (T.map firstL,lvF E L L.length,plcF T T.length,dsF L L.length),0)
theorem newF_bad {n:Int}{E:List (Int×Int)}{V L:List Int}{T:List (List Int)}(h1:partE n E V L=0)(h2:(T.length:Int)=n)(h3:ckF (lvF E L L.length) T T.length=none):newF n E V L T=(none,5):=by
 unfold newF;rw[if_neg (by omega),if_neg (by omega),h3]
theorem newF_len {n:Int}{E:List (Int×Int)}{V L:List Int}{T:List (List Int)}(h1:partE n E V L=0)(h2:¬(T.length:Int)=n):newF n E V L T=(none,5):=by
 unfold newF;rw[if_neg (by omega),if_pos h2]
theorem newF_cnt {n:Int}{E:List (Int×Int)}{V L:List Int}{T:List (List Int)}{P:List (Int×Int)}(h1:partE n E V L=0)(h2:(T.length:Int)=n)(h3:ckF (lvF E L L.length) T T.length=some P)(h4:¬(P.length:Int)=((lvF E L L.length).length:Int)):newF n E V L T=(none,5):=by
 unfold newF;rw[if_neg (by omega),if_neg (by omega),h3];exact if_pos h4
theorem newF_ok {n:Int}{E:List (Int×Int)}{V L:List Int}{T:List (List Int)}{P:List (Int×Int)}(h1:partE n E V L=0)(h2:(T.length:Int)=n)(h3:ckF (lvF E L L.length) T T.length=some P)(h4:(P.length:Int)=((lvF E L L.length).length:Int)):newF n E V L T=(some (T.map firstL,lvF E L L.length,plcF T T.length,dsF L L.length),0):=by
 unfold newF;rw[if_neg (by omega),if_neg (by omega),h3];exact if_neg (by omega)
theorem cover {α:Type}[DecidableEq α]{l m:List α}(hl:l.Nodup)(hs:∀x∈l,x∈m)(h:m.length<=l.length):∀x∈m,x∈l:=fun x hx=>Classical.byContradiction fun q=>by
 have h1:(x::l).Nodup:=List.nodup_cons.2 ⟨q,hl⟩
 have:=h1.length_le_of_subset (l₂:=m) fun y hy=>(List.mem_cons.1 hy).elim (fun e=>e▸hx) (hs y)
 simp at this;omega
theorem getD_injA {α:Type}{l:List α}{z:α}(h:l.Nodup){i j:Nat}(hi:i<l.length)(hj:j<l.length)(e:l.getD i z=l.getD j z):i=j:=by
 rw[List.getD_eq_getElem?_getD,List.getD_eq_getElem?_getD,List.getElem?_eq_getElem hi,List.getElem?_eq_getElem hj] at e
 exact(List.getElem_inj h).1 e
theorem mem_getDA {α:Type}{l:List α}{z x:α}:x∈l↔∃j,j<l.length/\l.getD j z=x:=by
 constructor
 .intro h
  obtain⟨j,hj,e⟩:=List.getElem_of_mem h
  exact⟨j,hj,by rw[List.getD_eq_getElem?_getD,List.getElem?_eq_getElem hj];exact e⟩
 rintro⟨j,hj,e⟩
 rw[List.getD_eq_getElem?_getD,List.getElem?_eq_getElem hj] at e
 exact e▸List.getElem_mem hj
def isDart (L:List Int)(d:Int):Prop:=d/2∈L
theorem isDart_iff {L:List Int}{d:Int}:isDart L d↔∃e∈L,d=2*e\/d=2*e+1:=by
 constructor
 .exact fun h=>⟨d/2,h,by omega⟩
 rintro⟨e,he,q⟩
 have:d/2=e:=by omega
 unfold isDart;rw[this];exact he
theorem dsF_mem {L:List Int}:∀ {k:Nat},k<=L.length->∀d,d∈dsF L k↔isDart (L.take k) d
 |0,_,d=>by simp[dsF,isDart]
 |k+1,h,d=>by
  have ih:=dsF_mem (L:=L) (k:=k) (by omega) d
  have e:L.take (k+1)=L.take k++[L.getD k 0]:=by
   rw[List.take_add_one,List.getD_eq_getElem?_getD,List.getElem?_eq_getElem (by omega)];rfl
  unfold isDart at ih ⊢
  rw[e,dsF,List.mem_append,ih,List.mem_append]
  simp only[List.mem_cons,List.not_mem_nil,or_false]
  constructor
  .rintro(q|q|q)
   .exact .inl q
   .exact .inr (by omega)
   exact .inr (by omega)
  rintro(q|q)
  .exact .inl q
  exact .inr (by omega)
theorem dsF_all {L:List Int}(d:Int):d∈dsF L L.length↔isDart L d:=by rw[dsF_mem (Nat.le_refl _),List.take_length]
theorem dsF_nodup {L:List Int}(h:L.Nodup):∀ {k:Nat},k<=L.length->(dsF L k).Nodup
 |0,_=>List.nodup_nil
 |k+1,hk=>by
  have hn:L.getD k 0∉L.take k:=fun q=>by
   obtain⟨j,hj,e⟩:=mem_getDA (z:=0).1 q
   rw[List.length_take] at hj
   rw[List.getD_eq_getElem?_getD,List.getElem?_take,if_pos (by omega),<-List.getD_eq_getElem?_getD] at e
   have:=getD_injA h (by omega) (by omega) e
   omega
  have hnd:∀d,d/2=L.getD k 0->d∉dsF L k:=fun d hd q=>hn (by have:=(dsF_mem (by omega) d).1 q;unfold isDart at this;rwa[hd] at this)
  rw[dsF,List.nodup_append]
  refine⟨dsF_nodup h (by omega),?_,?_⟩
  .simp only[List.nodup_cons,List.mem_singleton,List.not_mem_nil,not_false_eq_true,List.nodup_nil,and_true];omega
  intro a ha b hb e
  subst e
  simp only[List.mem_cons,List.not_mem_nil,or_false] at hb
  exact hnd a (by omega) ha
theorem ent_look {M:List (Int×Int)}{k v x:Int}:lkI (entE M k v) x=if k=x then some v else lkI M x:=by
 unfold entE;rw[lkI_pt,lkI_pt];split<;>rfl
theorem lvF_look {E:List (Int×Int)}{L:List Int}:∀ {k:Nat},k<=L.length->∀d,lkI (lvF E L k) d=if d∈dsF L k then some (tailE E d) else none
 |0,_,d=>by simp[dsF,lvF];rfl
 |k+1,h,d=>by
  have ih:=lvF_look (E:=E) (L:=L) (k:=k) (by omega) d
  show lkI (lv1 E (lvF E L k) (L.getD k 0)) d=_
  unfold lv1
  rw[ent_look,ent_look,ih,dsF]
  by_cases h1:2*L.getD k 0+1=d
  .rw[if_pos h1,if_pos (List.mem_append_right _ (by simp[<-h1]))]
   rw[<-h1];congr 1;unfold tailE
   rw[if_neg (by omega),show(2*L.getD k 0+1)/2=L.getD k 0 by omega]
  rw[if_neg h1]
  by_cases h2:2*L.getD k 0=d
  .rw[if_pos h2,if_pos (List.mem_append_right _ (by simp[<-h2]))]
   rw[<-h2];congr 1;unfold tailE
   rw[if_pos (by omega),show(2*L.getD k 0)/2=L.getD k 0 by omega]
  rw[if_neg h2]
  have e:(d∈dsF L k++[2*L.getD k 0,2*L.getD k 0+1])↔d∈dsF L k:=by
   rw[List.mem_append]
   constructor
   .rintro(q|q)
    .exact q
    simp only[List.mem_cons,List.not_mem_nil,or_false] at q;omega
   exact .inl
  by_cases h3:d∈dsF L k
  .rw[if_pos h3,if_pos (e.2 h3)]
  rw[if_neg h3,if_neg fun q=>h3 (e.1 q)]
def KN {α:Type}(m:List (Int×α)):Prop:=(m.map (·.1)).Nodup
theorem kn_dl {α:Type}{m:List (Int×α)}(h:KN m)(x:Int):KN (dlI m x):=h.sublist (List.Sublist.map _ List.filter_sublist)
theorem kn_pt {α:Type}{m:List (Int×α)}(h:KN m)(x:Int)(v:α):KN (ptI m x v):=by
 have hp:(ptI m x v).Perm ((x,v)::dlI m x):=insK_perm (k:=.int) (x,v) (delK (k:=.int) m x)
 unfold KN
 rw[(hp.map (·.1)).nodup_iff,List.map_cons,List.nodup_cons]
 refine⟨fun q=>?_,kn_dl h x⟩
 obtain⟨p,hp,e⟩:=List.mem_map.1 q
 have:lkI (dlI m x) x=none:=by rw[lkI_dl,if_pos rfl]
 have e:p.1=x:=e
 exact lkI_none.1 this p.2 (by obtain⟨p1,p2⟩:=p;subst e;exact hp)
theorem kn_nil {α:Type}:KN ([]:List (Int×α)):=List.nodup_nil
theorem mem_keys {α:Type}{m:List (Int×α)}{x:Int}:x∈m.map (·.1)↔(lkI m x).isSome=true:=by
 constructor
 .intro h
  obtain⟨p,hp,e⟩:=List.mem_map.1 h
  cases hq:lkI m x with
  |some _=>rfl
  |none=>exact(lkI_none.1 hq p.2 (by obtain⟨p1,p2⟩:=p;have e:p1=x:=e;subst e;exact hp)).elim
 intro h
 obtain⟨v,hv⟩:=Option.isSome_iff_exists.1 h
 exact List.mem_map.2 ⟨_,lkI_mem hv,rfl⟩
theorem kn_len {α:Type}{m:List (Int×α)}(h:KN m){l:List Int}(hl:l.Nodup)(he:∀x,x∈l↔(lkI m x).isSome=true):m.length=l.length:=by
 have h1:=hl.length_le_of_subset (l₂:=m.map (·.1)) fun x hx=>mem_keys.2 ((he x).1 hx)
 have h2:=h.length_le_of_subset (l₂:=l) fun x hx=>(he x).2 (mem_keys.1 hx)
 rw[List.length_map] at h1 h2;omega
theorem kn_dl_len {α:Type}{m:List (Int×α)}(h:KN m){x:Int}(hx:(lkI m x).isSome=true):(dlI m x).length+1=m.length:=by
 have hn:x∉(dlI m x).map (·.1):=fun q=>by
  have:=mem_keys.1 q
  rw[lkI_dl,if_pos rfl] at this;cases this
 have hc:(x::(dlI m x).map (·.1)).Nodup:=List.nodup_cons.2 ⟨hn,kn_dl h x⟩
 have:=kn_len h hc fun y=>by
  rw[List.mem_cons,mem_keys,lkI_dl]
  constructor
  .rintro(rfl|q)
   .exact hx
   split at q
   .cases q
   exact q
  intro q
  by_cases e:x=y
  .exact .inl e.symm
  exact .inr (by rw[if_neg e];exact q)
 simp at this;omega
theorem kn_ent {M:List (Int×Int)}(h:KN M)(k v:Int):KN (entE M k v):=kn_pt (kn_pt h _ _) _ _
theorem kn_lv (E:List (Int×Int))(L:List Int):∀k,KN (lvF E L k)
 |0=>kn_nil
 |k+1=>kn_ent (kn_ent (kn_lv E L k) _ _) _ _
theorem lvF_length {E:List (Int×Int)}{L:List Int}(h:L.Nodup):(lvF E L L.length).length=(dsF L L.length).length:=
 kn_len (kn_lv E L _) (dsF_nodup h (Nat.le_refl _)) fun d=>by
  rw[lvF_look (Nat.le_refl _)]
  by_cases q:d∈dsF L L.length
  .rw[if_pos q];exact⟨fun _=>rfl,fun _=>q⟩
  rw[if_neg q];exact⟨fun z=>(q z).elim,fun z=>by cases z⟩
theorem take_snoc {α:Type}{l:List α}{k:Nat}(h:k<l.length)(z:α):l.take (k+1)=l.take k++[l.getD k z]:=by
 rw[List.take_add_one,List.getD_eq_getElem?_getD,List.getElem?_eq_getElem h];rfl
structure Gd (lv:List (Int×Int))(v:Int)(l:List Int)(P:List (Int×Int))(Q:List (Int×Int)):Prop where
 nd:l.Nodup
 fr:∀d∈l,lkI P d=none
 lk:∀d∈l,lkI lv d=some v
 ks:∀d,(lkI Q d).isSome=true↔(lkI P d).isSome=true\/d∈l
 kn:KN Q
theorem ck1_some {lv:List (Int×Int)}{v:Int}{t:List Int}{P:List (Int×Int)}(hP:KN P):∀ {k:Nat} {Q:List (Int×Int)},k<=t.length->ck1 lv v t P k=some Q->Gd lv v (t.take k) P Q
 |0,Q,_,h=>by
  have h:some P=some Q:=h
  cases h
  exact⟨by rw[List.take_zero];exact List.nodup_nil,fun d hd=>by simp at hd,fun d hd=>by simp at hd,fun d=>by simp,hP⟩
 |k+1,Q,hk,h=>by
  unfold ck1 at h
  split at h
  .cases h
  rename_i R hR
  obtain⟨g1,g2,g3,g4,g5⟩:=ck1_some hP (k:=k) (by omega) hR
  split at h
  .rename_i hc
   cases h
   obtain⟨c1,c2,c3⟩:=hc
   have hn:¬(lkI R (t.getD k 0)).isSome=true:=by rw[c3];simp
   have hx:¬((lkI P (t.getD k 0)).isSome=true\/t.getD k 0∈t.take k):=fun q=>hn ((g4 _).2 q)
   rw[take_snoc (by omega) 0]
   refine⟨?_,fun d hd=>?_,fun d hd=>?_,fun d=>?_,kn_pt g5 _ _⟩
   .rw[List.nodup_append]
    exact⟨g1,by simp,fun a ha b hb e=>by subst e;have:=List.mem_singleton.1 hb;subst this;exact hx (.inr ha)⟩
   .rcases List.mem_append.1 hd with hd|hd
    .exact g2 d hd
    have:=List.mem_singleton.1 hd
    subst this
    cases hq:lkI P (t.getD k 0) with
    |none=>rfl
    |some _=>exact(hx (.inl (by rw[hq];rfl))).elim
   .rcases List.mem_append.1 hd with hd|hd
    .exact g3 d hd
    have:=List.mem_singleton.1 hd
    subst this
    obtain⟨u,hu⟩:=Option.isSome_iff_exists.1 c1
    rw[hu] at c2 ⊢
    exact congrArg some c2
   rw[lkI_pt,List.mem_append,List.mem_singleton]
   by_cases e:t.getD k 0=d
   .rw[if_pos e];exact⟨fun _=>.inr (.inr e.symm),fun _=>rfl⟩
   rw[if_neg e,g4]
   exact⟨fun q=>q.elim .inl fun q=>.inr (.inl q),fun q=>q.elim .inl fun q=>q.elim .inr fun q=>(e q.symm).elim⟩
  cases h
structure GdF (lv:List (Int×Int))(T:List (List Int))(v:Nat)(Q:List (Int×Int)):Prop where
 nd:(T.take v).flatten.Nodup
 lk:∀u,u<v->∀d∈T.getD u [],lkI lv d=some (u:Int)
 ks:∀d,(lkI Q d).isSome=true↔d∈(T.take v).flatten
 kn:KN Q
theorem flat_take {T:List (List Int)}{v:Nat}(h:v<=T.length){d:Int}:d∈(T.take v).flatten↔∃u,u<v/\d∈T.getD u []:=by
 rw[List.mem_flatten]
 constructor
 .rintro⟨l,hl,hd⟩
  obtain⟨j,hj,e⟩:=mem_getDA (z:=[]).1 hl
  rw[List.length_take] at hj
  rw[List.getD_eq_getElem?_getD,List.getElem?_take,if_pos (by omega),<-List.getD_eq_getElem?_getD] at e
  exact⟨j,by omega,by rw[e];exact hd⟩
 rintro⟨u,hu,hd⟩
 refine⟨T.getD u [],mem_getDA (z:=[]).2 ⟨u,by rw[List.length_take];omega,?_⟩,hd⟩
 rw[List.getD_eq_getElem?_getD,List.getElem?_take,if_pos hu,<-List.getD_eq_getElem?_getD]
theorem ckF_some {lv:List (Int×Int)}{T:List (List Int)}:∀ {v:Nat} {Q:List (Int×Int)},v<=T.length->ckF lv T v=some Q->GdF lv T v Q
 |0,Q,_,h=>by
  have h:some []=some Q:=h
  cases h
  exact⟨by simp,fun u hu=>by omega,fun d=>by simp;rfl,kn_nil⟩
 |v+1,Q,hv,h=>by
  unfold ckF at h
  split at h
  .cases h
  rename_i P hP
  obtain⟨f1,f2,f3,f4⟩:=ckF_some (v:=v) (by omega) hP
  obtain⟨g1,g2,g3,g4,g5⟩:=ck1_some f4 (Nat.le_refl _) h
  rw[List.take_length] at g1 g2 g3 g4
  refine⟨?_,fun u hu d hd=>?_,fun d=>?_,g5⟩
  .rw[take_snoc (by omega) [],List.flatten_append,List.flatten_cons,List.flatten_nil,List.append_nil,List.nodup_append]
   exact⟨f1,g1,fun a ha b hb e=>by subst e;have:=(f3 a).2 ha;rw[g2 a hb] at this;cases this⟩
  .by_cases q:u=v
   .subst q;exact g3 d hd
   exact f2 u (by omega) d hd
  rw[g4,f3,take_snoc (by omega) [],List.flatten_append,List.flatten_cons,List.flatten_nil,List.append_nil,List.mem_append]
structure TurnsR (n:Int)(E:List (Int×Int))(L:List Int)(T:List (List Int)):Prop where
 len:(T.length:Int)=n
 nd:∀v,v<T.length->(T.getD v []).Nodup
 mem:∀v,v<T.length->∀d,d∈T.getD v []↔isDart L d/\tailE E d=(v:Int)
theorem rises_nd {L:List Int}{n:Int}(h:risesP L n):L.Nodup:=asc_nodup (rises_iff.1 h).1
theorem newF_0 {n:Int}{E:List (Int×Int)}{V L:List Int}{T:List (List Int)}(h:(newF n E V L T).2=0):
  partE n E V L=0/\TurnsR n E L T/\(newF n E V L T).1=some (T.map firstL,lvF E L L.length,plcF T T.length,dsF L L.length):=by
 unfold newF at h ⊢
 split at h
 .rename_i q;exact(q h).elim
 rename_i hp
 rw[if_neg hp]
 split at h
 .cases h
 rename_i hlen
 rw[if_neg hlen]
 split at h
 .cases h
 rename_i P hP
 split at h
 .cases h
 rename_i hcnt
 have hp0:partE n E V L=0:=by omega
 obtain⟨_,_,hL,_⟩:=partE_0 hp0
 have hLn:=rises_nd hL
 obtain⟨f1,f2,f3,f4⟩:=ckF_some (Nat.le_refl _) hP
 rw[List.take_length] at f1 f3
 have e1:P.length=T.flatten.length:=kn_len f4 f1 fun d=>(f3 d).symm
 have e2:=lvF_length (E:=E) hLn
 have hsub:∀d∈T.flatten,d∈dsF L L.length:=fun d hd=>by
  obtain⟨u,hu,hdu⟩:=(flat_take (Nat.le_refl T.length)).1 (by rw[List.take_length];exact hd)
  have:=f2 u hu d hdu
  rw[lvF_look (Nat.le_refl _)] at this
  split at this
  .rename_i q;exact q
  cases this
 have hcov:=cover f1 hsub (by omega)
 refine⟨hp0,⟨by omega,fun v hv=>?_,fun v hv d=>⟨fun hd=>?_,fun⟨hd,ht⟩=>?_⟩⟩,by rw[if_neg hcnt]⟩
 .have hm:T.getD v []∈T:=mem_getDA.2 ⟨v,hv,rfl⟩
  exact f1.sublist (List.sublist_flatten_of_mem hm)
 .have:=f2 v hv d hd
  rw[lvF_look (Nat.le_refl _)] at this
  split at this
  .rename_i q
   exact⟨(dsF_all d).1 q,by injection this⟩
  cases this
 have hdf:=hcov d ((dsF_all d).2 hd)
 obtain⟨u,hu,hdu⟩:=(flat_take (Nat.le_refl T.length)).1 (by rw[List.take_length];exact hdf)
 have:=f2 u hu d hdu
 rw[lvF_look (Nat.le_refl _),if_pos ((dsF_all d).2 hd),ht] at this
 injection this with this
 have:u=v:=by omega
 subst this;exact hdu
abbrev S4:Type:=MII×(List Int×(List Int×Int))
def cntR (U:List Int):Nat:=(List.range U.length).countP fun i:Nat=>decide (rootL U (i:Int)=(i:Int))
structure SOk (s:S4):Prop where
 rep:RepS s.1 s.2.1 s.2.2.1
 cnt:s.2.2.2=(cntR s.2.2.1:Int)
def Rl (s:S4)(x y:Int):Prop:=∃i j,lkI s.1 x=some i/\lkI s.1 y=some j/\rootL s.2.2.1 i=rootL s.2.2.1 j
def addS (s:S4)(x:Int):S4:=(putM s.1 s.2.1 x,putL s.1 s.2.1 x,putU s.1 s.2.1 s.2.2.1 x,putG s.1 s.2.2.2 x)
def jnS (s:S4)(x y:Int):S4:=(jnM s.1 s.2.1 x y,jnL s.1 s.2.1 x y,jnU s.1 s.2.1 s.2.2.1 x y,jnG s.1 s.2.1 s.2.2.1 s.2.2.2 x y)
def jnT (s:S4)(x y:Int):Bool:=jnB s.1 s.2.1 s.2.2.1 x y
def smU (s:S4)(x y:Int):List Int:=match lkI s.1 x,lkI s.1 y with
 |some i,some j=>hvU (hvU s.2.2.1 i) j
 |_,_=>s.2.2.1
def smS (s:S4)(x y:Int):S4:=(s.1,s.2.1,smU s x y,s.2.2.2)
def smB (s:S4)(x y:Int):Bool:=match lkI s.1 x,lkI s.1 y with
 |some i,some j=>decide (hvI s.2.2.1 i=hvI (hvU s.2.2.1 i) j)
 |_,_=>false
section
variable {s:S4}{x y a b:Int}
theorem cntR_le (U:List Int):cntR U<=U.length:=by
 unfold cntR
 have:=List.countP_le_length (p:=fun i:Nat=>decide (rootL U (i:Int)=(i:Int))) (l:=List.range U.length)
 rwa[List.length_range] at this
theorem SOk.nil:SOk ([],[],[],0):=⟨RepS.nil,rfl⟩
theorem SOk.bd (h:SOk s):0<=s.2.2.2/\s.2.2.2<=(s.2.1.length:Int):=by
 have:=cntR_le s.2.2.1
 have:=h.rep.len
 have:=h.cnt
 omega
theorem Rl.refl (h:(lkI s.1 x).isSome=true):Rl s x x:=by
 obtain⟨i,hi⟩:=Option.isSome_iff_exists.1 h
 exact⟨i,i,hi,hi,rfl⟩
theorem Rl.symm (h:Rl s a b):Rl s b a:=let⟨i,j,h1,h2,h3⟩:=h;⟨j,i,h2,h1,h3.symm⟩
theorem Rl.trans {c:Int}(h:Rl s a b)(k:Rl s b c):Rl s a c:=by
 obtain⟨i,j,h1,h2,h3⟩:=h
 obtain⟨j',l,k1,k2,k3⟩:=k
 rw[h2] at k1
 cases k1
 exact⟨i,l,h1,k2,h3.trans k3⟩
theorem Rl.left (h:Rl s a b):(lkI s.1 a).isSome=true:=let⟨i,_,h1,_⟩:=h;by rw[h1];rfl
theorem Rl.right (h:Rl s a b):(lkI s.1 b).isSome=true:=h.symm.left
theorem countP_eqOn {p q:Nat->Bool}{l:List Nat}(h:∀x∈l,p x=q x):l.countP p=l.countP q:=by
 induction l with
 |nil=>rfl
 |cons x l ih=>
  rw[List.countP_cons,List.countP_cons,ih fun z hz=>h z (List.mem_cons_of_mem _ hz),h x List.mem_cons_self]
theorem countP_one {p q:Nat->Bool}{n m:Nat}(hm:m<n)(hp:p m=true)(hq:q m=false)(h:∀x,x<n->x≠m->p x=q x):(List.range n).countP q+1=(List.range n).countP p:=by
 induction n with
 |zero=>omega
 |succ n ih=>
  rw[List.range_succ,List.countP_append,List.countP_append]
  by_cases e:m=n
  .subst e
   have:=countP_eqOn (p:=p) (q:=q) (l:=List.range m) fun x hx=>h x (by have:=List.mem_range.1 hx;omega) (by have:=List.mem_range.1 hx;omega)
   rw[this]
   simp[List.countP_cons,hp,hq]
  have:=ih (by omega) fun x hx=>h x (by omega)
  have e2:[n].countP q=[n].countP p:=by rw[List.countP_cons,List.countP_cons,h n (by omega) (fun z=>e z.symm)];rfl
  rw[e2];omega
theorem SOk.add (h:SOk s)(x:Int):SOk (addS s x)/\∀a b,Rl (addS s x) a b↔Rl s a b\/(a=x/\b=x):=by
 obtain⟨M,L,U,g⟩:=s
 obtain⟨hr,hc⟩:=h
 change RepS M L U at hr
 change g=(cntR U:Int) at hc
 refine⟨⟨(hr.put x).1,?_⟩,fun a b=>?_⟩
 .show putG M g x=(cntR (putU M L U x):Int)
  unfold putG putU
  split
  .exact hc
  have hlen:=hr.len
  obtain⟨a1,a2,a3⟩:=add_ok hr.ok
  rw[hlen] at a1 a2 a3
  have e:cntR (U++[(L.length:Int)])=cntR U+1:=by
   unfold cntR
   rw[List.length_append,List.length_singleton,List.range_succ,List.countP_append]
   have h1:=countP_eqOn (p:=fun i:Nat=>decide (rootL (U++[(L.length:Int)]) (i:Int)=(i:Int))) (q:=fun i:Nat=>decide (rootL U (i:Int)=(i:Int))) (l:=List.range U.length) fun z hz=>by
    have hz:=List.mem_range.1 hz
    rw[a2 z (by omega) (by omega)]
   rw[h1,hlen]
   have h2:[L.length].countP (fun i:Nat=>decide (rootL (U++[(L.length:Int)]) (i:Int)=(i:Int)))=1:=by
    rw[List.countP_cons]
    simp[a3]
   rw[h2]
  rw[e];omega
 show(∃i j,lkI (putM M L x) a=some i/\lkI (putM M L x) b=some j/\rootL (putU M L U x) i=rootL (putU M L U x) j)↔(∃i j,lkI M a=some i/\lkI M b=some j/\rootL U i=rootL U j)\/_
 cases hx:lkI M x with
 |some k=>
  have e1:putM M L x=M:=by unfold putM;rw[hx];rfl
  have e3:putU M L U x=U:=by unfold putU;rw[hx];rfl
  rw[e1,e3]
  exact⟨.inl,fun q=>q.elim id fun⟨q1,q2⟩=>by subst q1;subst q2;exact⟨k,k,hx,hx,rfl⟩⟩
 |none=>
  have e1:putM M L x=ptI M x (L.length:Int):=by unfold putM;rw[hx];rfl
  have e3:putU M L U x=U++[(L.length:Int)]:=by unfold putU;rw[hx];rfl
  rw[e1,e3]
  have hlen:=hr.len
  obtain⟨a1,a2,a3⟩:=add_ok hr.ok
  rw[hlen] at a1 a2 a3
  have key:∀z i,lkI M z=some i->0<=i/\i<(L.length:Int)/\rootL U i<=i:=fun z i hz=>by
   obtain⟨q1,q2,_⟩:=hr.at_ z i hz
   exact⟨q1,q2,(rootL_of hr.ok q1 (by omega)).2.1⟩
  constructor
  .rintro⟨i,j,h1,h2,h3⟩
   rw[lkI_pt] at h1 h2
   by_cases qa:x=a<;>by_cases qb:x=b
   .exact .inr ⟨qa.symm,qb.symm⟩
   .rw[if_pos qa] at h1
    rw[if_neg qb] at h2
    cases h1
    obtain⟨k1,k2,k3⟩:=key b j h2
    rw[a3,a2 j k1 k2] at h3
    omega
   .rw[if_neg qa] at h1
    rw[if_pos qb] at h2
    cases h2
    obtain⟨k1,k2,k3⟩:=key a i h1
    rw[a3,a2 i k1 k2] at h3
    omega
   rw[if_neg qa] at h1
   rw[if_neg qb] at h2
   obtain⟨k1,k2,_⟩:=key a i h1
   obtain⟨l1,l2,_⟩:=key b j h2
   rw[a2 i k1 k2,a2 j l1 l2] at h3
   exact .inl ⟨i,j,h1,h2,h3⟩
  rintro(⟨i,j,h1,h2,h3⟩|⟨rfl,rfl⟩)
  .obtain⟨k1,k2,_⟩:=key a i h1
   obtain⟨l1,l2,_⟩:=key b j h2
   have qa:x≠a:=fun e=>by rw[e,h1] at hx;cases hx
   have qb:x≠b:=fun e=>by rw[e,h2] at hx;cases hx
   exact⟨i,j,by rw[lkI_pt,if_neg qa];exact h1,by rw[lkI_pt,if_neg qb];exact h2,by rw[a2 i k1 k2,a2 j l1 l2];exact h3⟩
  exact⟨_,_,by rw[lkI_pt,if_pos rfl],by rw[lkI_pt,if_pos rfl],rfl⟩
theorem SOk.up (h:SOk s){U':List Int}(h1:OkUp U')(h2:U'.length=s.2.2.1.length)(h3:∀j,0<=j->j<(s.2.2.1.length:Int)->rootL U' j=rootL s.2.2.1 j):SOk (s.1,s.2.1,U',s.2.2.2)/\∀a b,Rl (s.1,s.2.1,U',s.2.2.2) a b↔Rl s a b:=by
 have hlen:=h.rep.len
 refine⟨⟨⟨h1,h2.trans h.rep.len,h.rep.at_,h.rep.mlen,h.rep.ex⟩,?_⟩,fun a b=>?_⟩
 .show s.2.2.2=(cntR U':Int)
  rw[h.cnt]
  congr 1
  unfold cntR
  rw[h2]
  exact countP_eqOn fun z hz=>by
   have hz:=List.mem_range.1 hz
   rw[h3 z (by omega) (by omega)]
 have key:∀z i,lkI s.1 z=some i->rootL U' i=rootL s.2.2.1 i:=fun z i hz=>by
  obtain⟨q1,q2,_⟩:=h.rep.at_ z i hz
  exact h3 i q1 (by omega)
 constructor
 .rintro⟨i,j,k1,k2,k3⟩
  have k3:rootL U' i=rootL U' j:=k3
  exact⟨i,j,k1,k2,by rw[<-key a i k1,<-key b j k2];exact k3⟩
 rintro⟨i,j,k1,k2,k3⟩
 exact⟨i,j,k1,k2,by show rootL U' i=rootL U' j;rw[key a i k1,key b j k2];exact k3⟩
theorem hv2 (h:SOk s){i j:Int}(hi:lkI s.1 x=some i)(hj:lkI s.1 y=some j):OkUp (hvU (hvU s.2.2.1 i) j)/\(hvU (hvU s.2.2.1 i) j).length=s.2.2.1.length/\(∀k,0<=k->k<(s.2.2.1.length:Int)->rootL (hvU (hvU s.2.2.1 i) j) k=rootL s.2.2.1 k)/\hvI s.2.2.1 i=rootL s.2.2.1 i/\hvI (hvU s.2.2.1 i) j=rootL s.2.2.1 j:=by
 have hlen:=h.rep.len
 obtain⟨i0,i1,_⟩:=h.rep.at_ x i hi
 obtain⟨j0,j1,_⟩:=h.rep.at_ y j hj
 obtain⟨a1,a2,a3,a4⟩:=hvF_ok (i.toNat+1) s.2.2.1 i h.rep.ok i0 (by omega) (Nat.lt_succ_self _)
 have a3:(hvU s.2.2.1 i).length=s.2.2.1.length:=a3
 have a2:OkUp (hvU s.2.2.1 i):=a2
 have a4:∀k,0<=k->k<(s.2.2.1.length:Int)->rootL (hvU s.2.2.1 i) k=rootL s.2.2.1 k:=a4
 obtain⟨b1,b2,b3,b4⟩:=hvF_ok (j.toNat+1) (hvU s.2.2.1 i) j a2 j0 (by omega) (Nat.lt_succ_self _)
 have b1:hvI (hvU s.2.2.1 i) j=rootL (hvU s.2.2.1 i) j:=b1
 exact⟨b2,b3.trans a3,fun k k0 k1=>(b4 k k0 (by omega)).trans (a4 k k0 k1),a1,by rw[b1,a4 j j0 (by omega)]⟩
theorem putM_of {M:MII}{L U:List Int}(h:RepS M L U){z i:Int}(hz:lkI M z=some i)(x:Int):lkI (putM M L x) z=some i:=by
 unfold putM
 split
 .exact hz
 rename_i q
 rw[lkI_pt,if_neg]
 .exact hz
 intro e;rw[e,hz] at q;exact q rfl
theorem SOk.jn (h:SOk s)(x y:Int):SOk (jnS s x y)/\(jnT s x y=true↔¬(Rl s x y\/x=y))/\∀a b,Rl (jnS s x y) a b↔(Rl (addS (addS s x) y) a b\/(Rl (addS (addS s x) y) a x/\Rl (addS (addS s x) y) y b)\/(Rl (addS (addS s x) y) a y/\Rl (addS (addS s x) y) x b)):=by
 obtain⟨h1,r1⟩:=h.add x
 obtain⟨h2,r2⟩:=h1.add y
 obtain⟨_,p0,p1,px⟩:=h.rep.put x
 obtain⟨_,p2,p3,py⟩:=h1.rep.put y
 have px:lkI (addS (addS s x) y).1 x=some (putI s.1 s.2.1 x):=putM_of h1.rep px y
 have py:lkI (addS (addS s x) y).1 y=some (putI (addS s x).1 (addS s x).2.1 y):=py
 obtain⟨a1,a2,a3,a4,a5⟩:=hv2 h2 px py
 have hri:jnRi s.1 s.2.1 s.2.2.1 x y=rootL (addS (addS s x) y).2.2.1 (putI s.1 s.2.1 x):=a4
 have hrj:jnRj s.1 s.2.1 s.2.2.1 x y=rootL (addS (addS s x) y).2.2.1 (putI (addS s x).1 (addS s x).2.1 y):=a5
 have hT:Rl (addS (addS s x) y) x y↔jnRi s.1 s.2.1 s.2.2.1 x y=jnRj s.1 s.2.1 s.2.2.1 x y:=by
  rw[hri,hrj]
  constructor
  .rintro⟨i,j,k1,k2,k3⟩
   rw[px] at k1
   rw[py] at k2
   cases k1;cases k2
   exact k3
  exact fun q=>⟨_,_,px,py,q⟩
 have hT2:Rl (addS (addS s x) y) x y↔Rl s x y\/x=y:=by
  rw[r2,r1]
  constructor
  .rintro((q|q)|q)
   .exact .inl q
   .exact .inr q.2.symm
   exact .inr q.1
  rintro(q|q)
  .exact .inl (.inl q)
  exact .inl (.inr ⟨rfl,q.symm⟩)
 have hS:∀U',jnU s.1 s.2.1 s.2.2.1 x y=U'->jnS s x y=((addS (addS s x) y).1,(addS (addS s x) y).2.1,U',jnG s.1 s.2.1 s.2.2.1 s.2.2.2 x y):=fun U' e=>by rw[<-e];rfl
 have hU2:jnU2 s.1 s.2.1 s.2.2.1 x y=hvU (hvU (addS (addS s x) y).2.2.1 (putI s.1 s.2.1 x)) (putI (addS s x).1 (addS s x).2.1 y):=rfl
 have hb:jnT s x y=true↔¬jnRi s.1 s.2.1 s.2.2.1 x y=jnRj s.1 s.2.1 s.2.2.1 x y:=by
  unfold jnT jnB
  split
  .rename_i q;exact⟨(fun z=>by cases z),fun z=>(z q).elim⟩
  rename_i q;exact⟨fun _=>q,fun _=>rfl⟩
 rw[hb,<-hT,hT2]
 generalize hs2:addS (addS s x) y=s2 at*
 have hlen2:=h2.rep.len
 obtain⟨i0,i1,_⟩:=h2.rep.at_ _ _ px
 obtain⟨j0,j1,_⟩:=h2.rep.at_ _ _ py
 by_cases q:jnRi s.1 s.2.1 s.2.2.1 x y=jnRj s.1 s.2.1 s.2.2.1 x y
 .have eU:jnU s.1 s.2.1 s.2.2.1 x y=jnU2 s.1 s.2.1 s.2.2.1 x y:=if_pos q
  have eG:jnG s.1 s.2.1 s.2.2.1 s.2.2.2 x y=s2.2.2.2:=by
   unfold jnG;rw[if_pos q,<-hs2];rfl
  rw[hS _ (eU.trans hU2),eG]
  obtain⟨b1,b2⟩:=h2.up a1 a2 a3
  refine⟨b1,Iff.rfl,fun a b=>?_⟩
  rw[b2]
  have hxy:=hT.2 q
  exact⟨.inl,fun z=>z.elim id fun z=>z.elim (fun⟨z1,z2⟩=>z1.trans (hxy.trans z2)) fun⟨z1,z2⟩=>z1.trans (hxy.symm.trans z2)⟩
 obtain⟨b1,b2⟩:=h2.up a1 a2 a3
 generalize hv:hvU (hvU s2.2.2.1 (putI s.1 s.2.1 x)) (putI (addS s x).1 (addS s x).2.1 y)=V at*
 have eU:jnU s.1 s.2.1 s.2.2.1 x y=V.set (max (jnRi s.1 s.2.1 s.2.2.1 x y) (jnRj s.1 s.2.1 s.2.2.1 x y)).toNat (min (jnRi s.1 s.2.1 s.2.2.1 x y) (jnRj s.1 s.2.1 s.2.2.1 x y)):=by
  have:jnU s.1 s.2.1 s.2.2.1 x y=(jnU2 s.1 s.2.1 s.2.2.1 x y).set (max (jnRi s.1 s.2.1 s.2.2.1 x y) (jnRj s.1 s.2.1 s.2.2.1 x y)).toNat (min (jnRi s.1 s.2.1 s.2.2.1 x y) (jnRj s.1 s.2.1 s.2.2.1 x y)):=if_neg q
  rw[this,hU2]
 have eG:jnG s.1 s.2.1 s.2.2.1 s.2.2.2 x y=s2.2.2.2-1:=by
  unfold jnG;rw[if_neg q,<-hs2];rfl
 rw[hS _ eU,eG,hri,hrj]
 rw[hri,hrj] at q
 generalize hpi:putI s.1 s.2.1 x=pi at*
 generalize hpj:putI (addS s x).1 (addS s x).2.1 y=pj at*
 obtain⟨u1,u2,u3⟩:=rootL_of h2.rep.ok i0 (show pi<(s2.2.2.1.length:Int) by omega)
 obtain⟨v1,v2,v3⟩:=rootL_of h2.rep.ok j0 (show pj<(s2.2.2.1.length:Int) by omega)
 have uidem:=rootL_idem h2.rep.ok i0 (show pi<(s2.2.2.1.length:Int) by omega)
 have videm:=rootL_idem h2.rep.ok j0 (show pj<(s2.2.2.1.length:Int) by omega)
 generalize hr:rootL s2.2.2.1 pi=r at*
 generalize ht:rootL s2.2.2.1 pj=t at*
 have hrV:V.getD r.toNat 0=r:=by
  have e:=a3 r u1 (by omega)
  have:=(rootL_of a1 u1 (show r<(V.length:Int) by omega)).2.2
  rw[e,uidem] at this;exact this
 have htV:V.getD t.toNat 0=t:=by
  have e:=a3 t v1 (by omega)
  have:=(rootL_of a1 v1 (show t<(V.length:Int) by omega)).2.2
  rw[e,videm] at this;exact this
 obtain⟨c1,c2⟩:=join_ok a1 u1 v1 (by omega) (by omega) hrV htV q
 generalize hW:V.set (max r t).toNat (min r t)=Wn at*
 have hWl:Wn.length=s2.2.2.1.length:=by rw[<-hW,List.length_set];exact a2
 have c3:∀k,0<=k->k<(s2.2.2.1.length:Int)->rootL Wn k=if rootL s2.2.2.1 k=max r t then min r t else rootL s2.2.2.1 k:=fun k k0 k1=>by rw[c2 k k0 (by omega),a3 k k0 k1]
 have hmx:0<=max r t/\max r t<(s2.2.2.1.length:Int)/\rootL s2.2.2.1 (max r t)=max r t/\max r t≠min r t/\rootL s2.2.2.1 (min r t)=min r t:=by
  rcases Int.le_total r t with z|z
  .rw[Int.max_eq_right z,Int.min_eq_left z];exact⟨v1,by omega,videm,fun e=>q e.symm,uidem⟩
  rw[Int.max_eq_left z,Int.min_eq_right z];exact⟨u1,by omega,uidem,q,videm⟩
 obtain⟨m1,m2,m3,m4,m5⟩:=hmx
 refine⟨⟨⟨c1,hWl.trans h2.rep.len,h2.rep.at_,h2.rep.mlen,h2.rep.ex⟩,?_⟩,Iff.rfl,fun a b=>?_⟩
 .show s2.2.2.2-1=(cntR Wn:Int)
  have hcount:cntR Wn+1=cntR s2.2.2.1:=by
   unfold cntR
   rw[hWl]
   refine countP_one (m:=(max r t).toNat) (by omega) ?_ ?_ fun k hk hne=>?_
   .rw[decide_eq_true_iff,Int.toNat_of_nonneg m1];exact m3
   .rw[decide_eq_false_iff_not,Int.toNat_of_nonneg m1,c3 _ m1 m2,if_pos m3];exact fun e=>m4 e.symm
   rw[decide_eq_decide,c3 k (by omega) (by omega)]
   by_cases z:rootL s2.2.2.1 (k:Int)=max r t
   .rw[if_pos z,z]
    constructor
    .intro e;omega
    intro e
    have:rootL s2.2.2.1 (k:Int)=min r t:=by rw[<-e];exact m5
    omega
   rw[if_neg z]
  have:=h2.cnt
  omega
 have key:∀z i,lkI s2.1 z=some i->0<=i/\i<(s2.2.2.1.length:Int):=fun z i hz=>by
  obtain⟨q1,q2,_⟩:=h2.rep.at_ z i hz
  exact⟨q1,by omega⟩
 constructor
 .rintro⟨i,j,k1,k2,k3⟩
  have k3:rootL Wn i=rootL Wn j:=k3
  obtain⟨e0,e1⟩:=key a i k1
  obtain⟨f0,f1⟩:=key b j k2
  rw[c3 i e0 e1,c3 j f0 f1] at k3
  have hmm:(max r t=r/\min r t=t)\/(max r t=t/\min r t=r):=by
   rcases Int.le_total r t with z|z
   .exact .inr ⟨Int.max_eq_right z,Int.min_eq_left z⟩
   exact .inl ⟨Int.max_eq_left z,Int.min_eq_right z⟩
  have hx':∀z i,lkI s2.1 z=some i->rootL s2.2.2.1 i=r->Rl s2 z x:=fun z i hz e=>⟨i,pi,hz,px,by rw[e,hr]⟩
  have hy':∀z i,lkI s2.1 z=some i->rootL s2.2.2.1 i=t->Rl s2 z y:=fun z i hz e=>⟨i,pj,hz,py,by rw[e,ht]⟩
  split at k3<;>split at k3
  .rename_i z1 z2;exact .inl ⟨i,j,k1,k2,z1.trans z2.symm⟩
  .rename_i z1 z2
   rcases hmm with⟨n1,n2⟩|⟨n1,n2⟩
   .exact .inr (.inl ⟨hx' a i k1 (z1.trans n1),(hy' b j k2 (k3.symm.trans n2)).symm⟩)
   exact .inr (.inr ⟨hy' a i k1 (z1.trans n1),(hx' b j k2 (k3.symm.trans n2)).symm⟩)
  .rename_i z1 z2
   rcases hmm with⟨n1,n2⟩|⟨n1,n2⟩
   .exact .inr (.inr ⟨hy' a i k1 (k3.trans n2),(hx' b j k2 (z2.trans n1)).symm⟩)
   exact .inr (.inl ⟨hx' a i k1 (k3.trans n2),(hy' b j k2 (z2.trans n1)).symm⟩)
  exact .inl ⟨i,j,k1,k2,k3⟩
 have hroot:∀z i,lkI s2.1 z=some i->lkI (s2.1,s2.2.1,Wn,s2.2.2.2-1).1 z=some i:=fun z i hz=>hz
 have eqx:∀z,Rl s2 z x->∃i,lkI s2.1 z=some i/\rootL s2.2.2.1 i=r:=fun z ⟨i,j,k1,k2,k3⟩=>by
  rw[px] at k2;cases k2
  exact⟨i,k1,by rw[k3,hr]⟩
 have eqy:∀z,Rl s2 z y->∃i,lkI s2.1 z=some i/\rootL s2.2.2.1 i=t:=fun z ⟨i,j,k1,k2,k3⟩=>by
  rw[py] at k2;cases k2
  exact⟨i,k1,by rw[k3,ht]⟩
 have both:∀e,(e=r\/e=t)->(if e=max r t then min r t else e)=min r t:=fun e he=>by
  rcases Int.le_total r t with z|z
  .rw[Int.max_eq_right z,Int.min_eq_left z]
   rcases he with rfl|rfl
   .split<;>rfl
   rw[if_pos rfl]
  rw[Int.max_eq_left z,Int.min_eq_right z]
  rcases he with rfl|rfl
  .rw[if_pos rfl]
  split<;>rfl
 rintro(⟨i,j,k1,k2,k3⟩|⟨z1,z2⟩|⟨z1,z2⟩)
 .obtain⟨e0,e1⟩:=key a i k1
  obtain⟨f0,f1⟩:=key b j k2
  exact⟨i,j,k1,k2,by show rootL Wn i=rootL Wn j;rw[c3 i e0 e1,c3 j f0 f1,k3]⟩
 .obtain⟨i,k1,k2⟩:=eqx a z1
  obtain⟨j,l1,l2⟩:=eqy b z2.symm
  obtain⟨e0,e1⟩:=key a i k1
  obtain⟨f0,f1⟩:=key b j l1
  exact⟨i,j,k1,l1,by show rootL Wn i=rootL Wn j;rw[c3 i e0 e1,c3 j f0 f1,both _ (.inl k2),both _ (.inr l2)]⟩
 obtain⟨i,k1,k2⟩:=eqy a z1
 obtain⟨j,l1,l2⟩:=eqx b z2.symm
 obtain⟨e0,e1⟩:=key a i k1
 obtain⟨f0,f1⟩:=key b j l1
 exact⟨i,j,k1,l1,by show rootL Wn i=rootL Wn j;rw[c3 i e0 e1,c3 j f0 f1,both _ (.inr k2),both _ (.inl l2)]⟩
theorem SOk.one (h:SOk s):s.2.2.2<=1↔∀a b,(lkI s.1 a).isSome=true->(lkI s.1 b).isSome=true->Rl s a b:=by
 obtain⟨hr,hc⟩:=h
 have hlen:=hr.len
 constructor
 .intro h1 a b ha hb
  obtain⟨i,hi⟩:=Option.isSome_iff_exists.1 ha
  obtain⟨j,hj⟩:=Option.isSome_iff_exists.1 hb
  obtain⟨i0,i1,_⟩:=hr.at_ a i hi
  obtain⟨j0,j1,_⟩:=hr.at_ b j hj
  refine⟨i,j,hi,hj,Classical.byContradiction fun q=>?_⟩
  obtain⟨u1,u2,_⟩:=rootL_of hr.ok i0 (by omega)
  obtain⟨v1,v2,_⟩:=rootL_of hr.ok j0 (by omega)
  have ui:=rootL_idem hr.ok i0 (by omega)
  have vi:=rootL_idem hr.ok j0 (by omega)
  have hge:2<=cntR s.2.2.1:=by
   unfold cntR
   have e1:=countP_one (n:=s.2.2.1.length) (p:=fun i:Nat=>decide (rootL s.2.2.1 (i:Int)=(i:Int))) (q:=fun k:Nat=>decide (rootL s.2.2.1 (k:Int)=(k:Int)) && !decide (k=(rootL s.2.2.1 i).toNat)) (m:=(rootL s.2.2.1 i).toNat) (by omega) (by rw[decide_eq_true_iff,Int.toNat_of_nonneg u1];exact ui) (by simp) fun k hk hne=>by simp[hne]
   have e2:=countP_one (n:=s.2.2.1.length) (p:=fun k:Nat=>decide (rootL s.2.2.1 (k:Int)=(k:Int)) && !decide (k=(rootL s.2.2.1 i).toNat)) (q:=fun k:Nat=>(decide (rootL s.2.2.1 (k:Int)=(k:Int)) && !decide (k=(rootL s.2.2.1 i).toNat)) && !decide (k=(rootL s.2.2.1 j).toNat)) (m:=(rootL s.2.2.1 j).toNat) (by omega) (by
    rw[Int.toNat_of_nonneg v1,decide_eq_true vi]
    simp only[Bool.true_and,Bool.not_eq_true',decide_eq_false_iff_not]
    omega) (by simp) fun k hk hne=>by simp[hne]
   omega
  omega
 intro h1
 refine Classical.byContradiction fun q=>?_
 have hge:2<=cntR s.2.2.1:=by omega
 have hex:∃i,i<s.2.2.1.length/\rootL s.2.2.1 (i:Int)=(i:Int):=by
  refine Classical.byContradiction fun z=>?_
  have:cntR s.2.2.1=0:=by
   unfold cntR
   rw[List.countP_eq_zero]
   intro k hk e
   exact z ⟨k,List.mem_range.1 hk,of_decide_eq_true e⟩
  omega
 obtain⟨i,hi,ei⟩:=hex
 have hex2:∃j,j<s.2.2.1.length/\rootL s.2.2.1 (j:Int)=(j:Int)/\j≠i:=by
  refine Classical.byContradiction fun z=>?_
  have e1:=countP_one (n:=s.2.2.1.length) (p:=fun i:Nat=>decide (rootL s.2.2.1 (i:Int)=(i:Int))) (q:=fun _=>false) (m:=i) hi (decide_eq_true ei) rfl fun k hk hne=>decide_eq_false fun e=>z ⟨k,hk,e,hne⟩
  have e2:(List.range s.2.2.1.length).countP (fun _=>false)=0:=by rw[List.countP_eq_zero];intro k _ e;cases e
  unfold cntR at hge
  omega
 obtain⟨j,hj,ej,hne⟩:=hex2
 have ai:=hr.ex i (by omega)
 have aj:=hr.ex j (by omega)
 obtain⟨i',j',k1,k2,k3⟩:=h1 _ _ (by rw[ai];rfl) (by rw[aj];rfl)
 rw[ai] at k1
 rw[aj] at k2
 cases k1;cases k2
 rw[ei,ej] at k3
 omega
end
end Go.Proofs.YtnfdimfepbbbpaaGreatDoor
namespace Go.Proofs.YtnfdimfepbbbpaaGreatDoor
open Go.RowKit
open Go.Proofs.YtnfdimfepbbbpaaGreatDoor.Deep
section
variable {E:List (Int×Int)}{M:List (Int×List Int)}{a shut v d:Int}{k f:Nat}{m:List (Int×Int)}{q:List Int}{n:Int}
theorem mid_dart1 (h:Mid E a v k m q)(hd:headE E d∈univ E a):Mid E a v k (rdart E v shut (m,q) d).1 (rdart E v shut (m,q) d).2:=by
 by_cases hn:(lkI m (headE E d)).isSome=true\/headE E d=shut
 .have e:rdart E v shut (m,q) d=(m,q):=by unfold rdart;rw[if_pos hn]
  rw[e];exact h
 have e:rdart E v shut (m,q) d=(ptI m (headE E d) ((lkI m v).getD 0+1),q++[headE E d]):=by unfold rdart;rw[if_neg hn]
 rw[e];exact h.dart hd hn
theorem mid_darts:∀ {l:List Int} {m:List (Int×Int)} {q:List Int},Mid E a v k m q->(∀d∈l,headE E d∈univ E a)->Mid E a v k (l.foldl (rdart E v shut) (m,q)).1 (l.foldl (rdart E v shut) (m,q)).2
 |[],m,q,h,_=>h
 |d::l,m,q,h,hd=>by
  rw[List.foldl_cons]
  exact mid_darts (mid_dart1 h (hd d List.mem_cons_self)) fun x hx=>hd x (List.mem_cons_of_mem _ hx)
theorem rdart_mono {s:List (Int×Int)×List Int}{x:Int}(h:(lkI s.1 x).isSome=true):(lkI (rdart E v shut s d).1 x).isSome=true:=by
 unfold rdart
 split
 .exact h
 show(lkI (ptI s.1 _ _) x).isSome=true
 rw[lkI_pt];split
 .rfl
 exact h
theorem rdarts_mono:∀ {l:List Int} {s:List (Int×Int)×List Int} {x:Int},(lkI s.1 x).isSome=true->(lkI (l.foldl (rdart E v shut) s).1 x).isSome=true
 |[],_,_,h=>h
 |d::l,s,x,h=>by rw[List.foldl_cons];exact rdarts_mono (rdart_mono h)
theorem rdarts_head:∀ {l:List Int} {s:List (Int×Int)×List Int},∀d∈l,headE E d≠shut->(lkI (l.foldl (rdart E v shut) s).1 (headE E d)).isSome=true
 |e::l,s,d,hd,hs=>by
  rw[List.foldl_cons]
  rcases List.mem_cons.1 hd with rfl|hd
  .refine rdarts_mono ?_
   unfold rdart
   split
   .rename_i h;exact h.resolve_right hs
   show(lkI (ptI s.1 _ _) _).isSome=true
   rw[lkI_pt,if_pos rfl];rfl
  exact rdarts_head d hd hs
theorem rdarts_queue:∀ {l:List Int} {s:List (Int×Int)×List Int} {x:Int},(lkI (l.foldl (rdart E v shut) s).1 x).isSome=true->(lkI s.1 x).isSome=true\/x∈(l.foldl (rdart E v shut) s).2
 |[],_,_,h=>.inl h
 |d::l,s,x,h=>by
  rw[List.foldl_cons] at h ⊢
  rcases rdarts_queue h with h1|h1
  .unfold rdart at h1
   split at h1
   .exact .inl h1
   rename_i hn
   have h1:(lkI (ptI s.1 (headE E d) _) x).isSome=true:=h1
   rw[lkI_pt] at h1
   split at h1
   .rename_i e
    refine .inr ?_
    have mono:∀ {l:List Int} {s:List (Int×Int)×List Int} {y:Int},y∈s.2->y∈(l.foldl (rdart E v shut) s).2:=by
     intro l
     induction l with
     |nil=>intro s y h;exact h
     |cons e l ih=>
      intro s y h
      rw[List.foldl_cons]
      refine ih ?_
      unfold rdart
      split
      .exact h
      exact List.mem_append_left _ h
    refine mono ?_
    unfold rdart
    rw[if_neg hn]
    exact List.mem_append_right _ (by rw[e];exact List.mem_singleton.2 rfl)
   exact .inl h1
  exact .inr h1
theorem rdarts_keep:∀ {l:List Int} {s:List (Int×Int)×List Int} {y:Int},y∈s.2->y∈(l.foldl (rdart E v shut) s).2
 |[],_,_,h=>h
 |d::l,s,y,h=>by
  rw[List.foldl_cons]
  refine rdarts_keep ?_
  unfold rdart
  split
  .exact h
  exact List.mem_append_left _ h
theorem run_ok (hD:∀v,∀d∈(lkI M v).getD [],headE E d∈univ E a):∀(f:Nat) (k:Nat) (v:Int) (m:List (Int×Int)) (q:List Int),Mid E a v k m q->(∀p∈m,p.2<=(k:Int))->f+k=2*E.length+2->
  (∀x,(lkI m x).isSome=true->x=v\/x∈q\/∀d∈(lkI M x).getD [],headE E d≠shut->(lkI m (headE E d)).isSome=true)->
  Srch (univ E a) (runR E M shut f v (m,q),[])/\(∀x,(lkI m x).isSome=true->(lkI (runR E M shut f v (m,q)) x).isSome=true)/\
   ∀x,(lkI (runR E M shut f v (m,q)) x).isSome=true->∀d∈(lkI M x).getD [],headE E d≠shut->(lkI (runR E M shut f v (m,q)) (headE E d)).isSome=true
 |0,k,v,m,q,h,_,hf,_=>by have:=h.bd;omega
 |f+1,k,v,m,q,h,hval,hf,hc=>by
  have h1:Mid E a v k (rdarts E M v shut (m,q)).1 (rdarts E M v shut (m,q)).2:=mid_darts h (hD v)
  have hmono:∀x,(lkI m x).isSome=true->(lkI (rdarts E M v shut (m,q)).1 x).isSome=true:=fun x hx=>rdarts_mono (s:=(m,q)) hx
  have hclo:∀x,(lkI (rdarts E M v shut (m,q)).1 x).isSome=true->x∈(rdarts E M v shut (m,q)).2\/∀d∈(lkI M x).getD [],headE E d≠shut->(lkI (rdarts E M v shut (m,q)).1 (headE E d)).isSome=true:=fun x hx=>by
   rcases rdarts_queue (s:=(m,q)) hx with h2|h2
   .rcases hc x h2 with rfl|h3|h3
    .exact .inr fun d hd hs=>rdarts_head d hd hs
    .exact .inl (rdarts_keep (s:=(m,q)) h3)
    exact .inr fun d hd hs=>hmono _ (h3 d hd hs)
   exact .inl h2
  have hrun:runR E M shut (f+1) v (m,q)=(match(rdarts E M v shut (m,q)).2 with
   |[]=>(rdarts E M v shut (m,q)).1
   |x::t=>runR E M shut f x ((rdarts E M v shut (m,q)).1,t)):=rfl
  rw[hrun]
  generalize hs:rdarts E M v shut (m,q)=s at*
  obtain⟨m',q'⟩:=s
  cases q' with
  |nil=>
   refine⟨⟨h1.s.nd,h1.s.sub⟩,hmono,fun x hx d hd hs=>?_⟩
   rcases hclo x hx with h2|h2
   .cases h2
   exact h2 d hd hs
  |cons x t=>
   have hM:Mid E a x (k+1) m' t:=by
    refine⟨⟨h1.s.nd,h1.s.sub⟩,h1.qU x List.mem_cons_self,fun y hy=>h1.qU y (List.mem_cons_of_mem _ hy),?_,fun p hp=>?_,h1.qM x List.mem_cons_self,fun y hy=>h1.qM y (List.mem_cons_of_mem _ hy),?_⟩
    .have:=h1.n;simp only[List.length_cons] at this;omega
    .have:=h1.b p hp;exact⟨this.1,by omega⟩
    exact lkI_getD_mem (P:=fun y=>0<=y/\y<=((k+1:Nat):Int)) ⟨by omega,by omega⟩ (fun p hp=>by have:=h1.b p hp;exact⟨this.1,by omega⟩) x
   obtain⟨r1,r2,r3⟩:=run_ok hD f (k+1) x m' t hM (fun p hp=>by have:=h1.b p hp;omega) (by omega) (fun y hy=>by
    rcases hclo y hy with h2|h2
    .rcases List.mem_cons.1 h2 with rfl|h2
     .exact .inl rfl
     exact .inr (.inl h2)
    exact .inr (.inr h2))
   exact⟨r1,fun y hy=>r2 y (hmono y hy),r3⟩
theorem reach_ok (hD:∀v,∀d∈(lkI M v).getD [],headE E d∈univ E a):(reachF E M a shut).length<=2*E.length+1/\(∀p∈reachF E M a shut,p.1∈univ E a)/\(lkI (reachF E M a shut) a).isSome=true/\
  ∀x,(lkI (reachF E M a shut) x).isSome=true->∀d∈(lkI M x).getD [],headE E d≠shut->(lkI (reachF E M a shut) (headE E d)).isSome=true:=by
 obtain⟨h1,h2,_⟩:=(RInv.init E M a shut).go rfl
 obtain⟨r1,r2,r3⟩:=run_ok (shut:=shut) hD (2*E.length+2) 0 a [(a,0)] [] h1 (fun p hp=>by have:=h2 p hp;simpa using this) (by omega) (fun x hx=>by
  left
  cases hl:lkI [(a,(0:Int))] x with
  |none=>rw[hl] at hx;cases hx
  |some z=>have:=List.mem_singleton.1 (lkI_mem hl);cases this;rfl)
 have hlen:=r1.len
 rw[univ_len] at hlen
 exact⟨hlen,r1.sub,r2 a (by rw[lkI_one];rfl),r3⟩
theorem leav_DOk {V L:List Int}(hp:partE n E V L=0):DOk E (leavF E L):=fun v d hd=>by
 rw[leav_look] at hd
 obtain⟨h1,h2⟩:=mem_dartsL.1 hd
 have:=(rises_iff.1 (partE_0 hp).2.2.1).2 _ h1
 constructor
 .omega
 exact this.2
theorem dok_head (hr:rightE n E=0)(hD:DOk E M)(a:Int):∀v,∀d∈(lkI M v).getD [],headE E d∈univ E a:=fun v d hd=>by
 obtain⟨h1,h2⟩:=hD v d hd
 exact List.mem_cons_of_mem _ (headE_in hr h1 h2).2.2
theorem reach_rch {V L:List Int}(hp:partE n E V L=0){x:Int}(h:(grE E L).Rch (· ≠-1) a x):(lkI (reachF E (leavF E L) a (-1)) x).isSome=true:=by
 have hr:=(partE_0 hp).1
 obtain⟨_,_,h1,h2⟩:=reach_ok (shut:= -1) (dok_head hr (leav_DOk hp) a)
 have hdk:=darts_ok (E:=E) (partE_0 hp).2.2.1
 refine h.closed (Q:=fun x=>(lkI (reachF E (leavF E L) a (-1)) x).isSome=true) (fun x y hx ha hy=>?_) h1
 obtain⟨f,hf,hj⟩:=ha
 obtain⟨d,hd,hdf⟩:=hdk.all f x hf hj.left
 obtain⟨_,hj2⟩:=hdk.mem x d hd
 rw[hdf] at hj2
 have hd2:d∈(lkI (leavF E L) x).getD []:=by rw[leav_look];exact hd
 by_cases e:headE E d=y
 .subst e;exact h2 x hx d hd2 hy
 have h3:=hj2.of (z:=y) hj.right
 rcases h3 with rfl|h3
 .exact hx
 exact(e h3.symm).elim
end
def keysPut (pm m:List (Int×Int))(c:Int):List (Int×Int):=m.foldl (fun p q=>ptI p q.1 c) pm
open Classical in
theorem keysPut_look {c:Int}:∀ {m pm:List (Int×Int)} {x:Int},lkI (keysPut pm m c) x=if(lkI m x).isSome=true then some c else lkI pm x:=by
 have key:∀(m pm:List (Int×Int)) (x:Int),lkI (keysPut pm m c) x=if ∃v,(x,v)∈m then some c else lkI pm x:=by
  intro m
  induction m with
  |nil=>intro pm x;show lkI pm x=_;rw[if_neg (by rintro⟨v,h⟩;cases h)]
  |cons p m ih=>
   intro pm x
   show lkI (keysPut (ptI pm p.1 c) m c) x=_
   rw[ih,lkI_pt]
   by_cases h1:∃v,(x,v)∈m
   .obtain⟨v,hv⟩:=h1
    rw[if_pos ⟨v,hv⟩,if_pos ⟨v,List.mem_cons_of_mem _ hv⟩]
   rw[if_neg h1]
   by_cases h2:p.1=x
   .rw[if_pos h2,if_pos ⟨p.2,by rw[<-h2];exact List.mem_cons_self⟩]
   rw[if_neg h2,if_neg]
   rintro⟨v,hv⟩
   rcases List.mem_cons.1 hv with e|hv
   .rw[<-e] at h2;exact h2 rfl
   exact h1 ⟨v,hv⟩
 intro m pm x
 rw[key]
 by_cases h:∃v,(x,v)∈m
 .rw[if_pos h,if_pos]
  cases hl:lkI m x with
  |none=>obtain⟨v,hv⟩:=h;exact(lkI_none.1 hl v hv).elim
  |some z=>rfl
 rw[if_neg h,if_neg]
 intro q
 obtain⟨z,hz⟩:=Option.isSome_iff_exists.1 q
 exact h ⟨z,lkI_mem hz⟩
abbrev PLs:=List (List Int×List Int)
def pieV (out:PLs)(i v:Int):PLs:=out.set i.toNat ((out.getD i.toNat ([],[])).1++[v],(out.getD i.toNat ([],[])).2)
def pieE (out:PLs)(i e:Int):PLs:=out.set i.toNat ((out.getD i.toNat ([],[])).1,(out.getD i.toNat ([],[])).2++[e])
def pstep (E:List (Int×Int))(M:List (Int×List Int))(s:List (Int×Int)×PLs)(v:Int):List (Int×Int)×PLs:=
 if(lkI s.1 v).isSome=true then(s.1,pieV s.2 ((lkI s.1 v).getD 0) v)
 else(keysPut s.1 (reachF E M v (-1)) (s.2.length:Int),pieV (s.2++[([],[])]) (s.2.length:Int) v)
def estep (E:List (Int×Int))(pm:List (Int×Int))(out:PLs)(e:Int):PLs:=pieE out ((lkI pm (E.getD e.toNat (0,0)).1).getD 0) e
def piecesF (E:List (Int×Int))(V L:List Int):PLs:=L.foldl (estep E (V.foldl (pstep E (leavF E L)) ([],[])).1) (V.foldl (pstep E (leavF E L)) ([],[])).2
structure ItI (R pm:List (Int×Int))(c:Int)(lf:Int->Bool)(cnt:Nat)(pm2:List (Int×Int)):Prop where
 a:∀z,lf z=true->(lkI R z).isSome=true
 b:∀z,lkI pm2 z=if(lkI R z).isSome=true/\lf z=false then some c else lkI pm z
 n:pm2.length+cnt<=pm.length+R.length
theorem ItI.start (R pm:List (Int×Int))(c:Int):ItI R pm c (fun z=>(lkI R z).isSome) R.length pm:=
 ⟨fun z h=>h,fun z=>by rw[if_neg (by rintro⟨h1,h2⟩;rw[h1] at h2;cases h2)],Nat.le_refl _⟩
theorem ItI.step {R pm pm2:List (Int×Int)}{c:Int}{lf:Int->Bool}{cnt cnt':Nat}(h:ItI R pm c lf cnt pm2){k v:Int}(hl:lf k=true)(hk:lkI R k=some v)(hc:cnt'<cnt):
  ItI R pm c (fun z=>lf z && !decide (z=k)) cnt' (ptI pm2 k c):=by
 refine⟨fun z hz=>?_,fun z=>?_,?_⟩
 .rw[Bool.and_eq_true] at hz;exact h.a z hz.1
 .rw[lkI_pt,h.b]
  by_cases e:k=z
  .subst e
   rw[if_pos rfl,if_pos ⟨by rw[hk];rfl,by simp⟩]
  rw[if_neg e]
  have hne:¬z=k:=fun q=>e q.symm
  have:(lf z && !decide (z=k))=lf z:=by simp[hne]
  rw[this]
 have:=h.n
 have:=ptI_len pm2 k c
 omega
theorem ItI.fin {R pm pm2:List (Int×Int)}{c:Int}{lf:Int->Bool}{cnt:Nat}(h:ItI R pm c lf cnt pm2)(hl:∀z,lf z=false):(∀z,lkI pm2 z=if(lkI R z).isSome=true then some c else lkI pm z)/\pm2.length<=pm.length+R.length:=by
 refine⟨fun z=>?_,by have:=h.n;omega⟩
 rw[h.b]
 by_cases e:(lkI R z).isSome=true
 .rw[if_pos ⟨e,hl z⟩,if_pos e]
 rw[if_neg (fun q=>e q.1),if_neg e]
structure PInv (E:List (Int×Int))(V L:List Int)(i:Int)(pm:List (Int×Int))(out:PLs):Prop where
 f:∃p',(V.take i.toNat).foldl (pstep E (leavF E L)) ([],[])=(p',out)/\∀x,lkI pm x=lkI p' x
 b:∀x c,lkI pm x=some c->0<=c/\c<(out.length:Int)
 n:pm.length<=i.toNat*3000
 o:out.length<=i.toNat
 r:∀x∈out,x.1.length<=i.toNat/\x.2=[]
 d:∀j:Nat,(j:Int)<i->(lkI pm (V.getD j 0)).isSome=true
theorem PInv.zero (E:List (Int×Int))(V L:List Int):PInv E V L 0 [] []:=⟨⟨[],rfl,fun _=>rfl⟩,(fun x c h=>by cases h),Nat.zero_le _,Nat.zero_le _,(fun x h=>by cases h),fun j h=>by omega⟩
theorem pieV_len (out:PLs)(i v:Int):(pieV out i v).length=out.length:=List.length_set
theorem pieE_len (out:PLs)(i v:Int):(pieE out i v).length=out.length:=List.length_set
theorem pieV_mem {out:PLs}{i v:Int}{k:Nat}(h:∀x∈out,x.1.length<=k/\x.2=[]):∀x∈pieV out i v,x.1.length<=k+1/\x.2=[]:=fun x hx=>by
 rcases List.mem_or_eq_of_mem_set hx with q|rfl
 .exact⟨Nat.le_succ_of_le (h x q).1,(h x q).2⟩
 have:∀j,(out.getD j ([],[])).1.length<=k/\(out.getD j ([],[])).2=[]:=fun j=>by
  rw[List.getD_eq_getElem?_getD]
  cases hj:out[j]? with
  |none=>exact⟨by simp,rfl⟩
  |some y=>exact h y (List.mem_of_getElem? hj)
 obtain⟨q1,q2⟩:=this i.toNat
 exact⟨by show(_++[v]).length<=_;rw[List.length_append];simp;exact q1,q2⟩
section
variable {E:List (Int×Int)}{V L:List Int}{i:Int}{pm pm2:List (Int×Int)}{out:PLs}
theorem PInv.met (h:PInv E V L i pm out)(h0:0<=i)(h1:i<(V.length:Int))(hm:(lkI pm (V.getD i.toNat 0)).isSome=true):PInv E V L (i+1) pm (pieV out ((lkI pm (V.getD i.toNat 0)).getD 0) (V.getD i.toNat 0)):=by
 obtain⟨p',f1,f2⟩:=h.f
 have hi:(i+1).toNat=i.toNat+1:=by omega
 refine⟨⟨p',?_,f2⟩,fun x c hx=>by rw[pieV_len];exact h.b x c hx,Nat.le_trans h.n (Nat.mul_le_mul_right _ (by omega)),by rw[pieV_len];have:=h.o;omega,by rw[hi];exact pieV_mem h.r,fun j hj=>?_⟩
 .rw[foldl_snoc _ _ h0 h1,f1]
  unfold pstep
  simp only
  rw[<-f2,if_pos hm]
 by_cases e:(j:Int)<i
 .exact h.d j e
 rw[show j=i.toNat by omega];exact hm
theorem PInv.new (h:PInv E V L i pm out)(h0:0<=i)(h1:i<(V.length:Int))(hm:(lkI pm (V.getD i.toNat 0)).isSome=false)(hR:(lkI (reachF E (leavF E L) (V.getD i.toNat 0) (-1)) (V.getD i.toNat 0)).isSome=true)(hlen:(reachF E (leavF E L) (V.getD i.toNat 0) (-1)).length<=3000)
  (hp:(∀z,lkI pm2 z=if(lkI (reachF E (leavF E L) (V.getD i.toNat 0) (-1)) z).isSome=true then some (out.length:Int) else lkI pm z)/\pm2.length<=pm.length+(reachF E (leavF E L) (V.getD i.toNat 0) (-1)).length):
  PInv E V L (i+1) pm2 (pieV (out++[([],[])]) ((lkI pm2 (V.getD i.toNat 0)).getD 0) (V.getD i.toNat 0))/\lkI pm2 (V.getD i.toNat 0)=some (out.length:Int):=by
 obtain⟨p',f1,f2⟩:=h.f
 obtain⟨p1,p2⟩:=hp
 have hi:(i+1).toNat=i.toNat+1:=by omega
 have hv:lkI pm2 (V.getD i.toNat 0)=some (out.length:Int):=by rw[p1,if_pos hR]
 refine⟨⟨⟨keysPut p' (reachF E (leavF E L) (V.getD i.toNat 0) (-1)) (out.length:Int),?_,fun x=>?_⟩,fun x c hx=>?_,?_,?_,?_,fun j hj=>?_⟩,hv⟩
 .rw[foldl_snoc _ _ h0 h1,f1,hv]
  unfold pstep
  simp only
  rw[<-f2,if_neg (by rw[hm];decide)];rfl
 .rw[p1,keysPut_look,f2]
 .rw[pieV_len,List.length_append]
  rw[p1] at hx
  split at hx
  .cases hx
   simp only[List.length_singleton];omega
  have:=h.b x c hx
  simp only[List.length_singleton];omega
 .have:=h.n;rw[hi,Nat.succ_mul];omega
 .rw[pieV_len,List.length_append];have:=h.o;simp only[List.length_singleton];omega
 .rw[hi]
  refine pieV_mem fun x hx=>?_
  rcases List.mem_append.1 hx with hx|hx
  .exact h.r x hx
  rw[List.mem_singleton.1 hx];exact⟨by simp,rfl⟩
 rw[p1]
 split
 .rfl
 by_cases e:(j:Int)<i
 .exact h.d j e
 rename_i q
 rw[show j=i.toNat by omega] at q;exact(q hR).elim
theorem PInv.at_ (h:PInv E V L i pm out)(h0:0<=i)(h1:i<=(V.length:Int)){x:Int}(hm:(lkI pm x).isSome=true):(0<=(lkI pm x).getD 0/\(lkI pm x).getD 0<(out.length:Int))/\(out.getD ((lkI pm x).getD 0).toNat ([],[])).1.length<=V.length:=by
 obtain⟨c,hc⟩:=Option.isSome_iff_exists.1 hm
 rw[hc]
 refine⟨h.b x c hc,?_⟩
 rw[List.getD_eq_getElem?_getD]
 cases hj:out[c.toNat]? with
 |none=>simp[hj]
 |some y=>
  have:=(h.r y (List.mem_of_getElem? hj)).1
  simp[hj];omega
structure EInv (E:List (Int×Int))(V L:List Int)(j:Int)(m:Nat)(o2:PLs):Prop where
 f:(L.take j.toNat).foldl (estep E (V.foldl (pstep E (leavF E L)) ([],[])).1) (V.foldl (pstep E (leavF E L)) ([],[])).2=o2
 n:o2.length=m
 r:∀x∈o2,x.2.length<=j.toNat
theorem PInv.fin (h:PInv E V L i pm out)(h1:¬i<(V.length:Int)):(∀x,lkI pm x=lkI (V.foldl (pstep E (leavF E L)) ([],[])).1 x)/\(V.foldl (pstep E (leavF E L)) ([],[])).2=out/\EInv E V L 0 out.length out:=by
 obtain⟨p',f1,f2⟩:=h.f
 rw[List.take_of_length_le (by omega)] at f1
 refine⟨fun x=>by rw[f1];exact f2 x,by rw[f1],by rw[f1];rfl,rfl,fun x hx=>by rw[(h.r x hx).2];simp⟩
theorem EInv.step {j:Int}{m:Nat}{o2:PLs}(h:EInv E V L j m o2)(hp:∀x,lkI pm x=lkI (V.foldl (pstep E (leavF E L)) ([],[])).1 x)(h0:0<=j)(h1:j<(L.length:Int)):
  EInv E V L (j+1) m (pieE o2 ((lkI pm (E.getD (L.getD j.toNat 0).toNat (0,0)).1).getD 0) (L.getD j.toNat 0)):=by
 have hi:(j+1).toNat=j.toNat+1:=by omega
 refine⟨?_,by rw[pieE_len];exact h.n,fun x hx=>?_⟩
 .rw[foldl_snoc _ _ h0 h1,h.f,hp];rfl
 rw[hi]
 rcases List.mem_or_eq_of_mem_set hx with q|rfl
 .exact Nat.le_succ_of_le (h.r x q)
 show(_++[_]).length<=_
 rw[List.length_append]
 have:∀k,(o2.getD k ([],[])).2.length<=j.toNat:=fun k=>by
  rw[List.getD_eq_getElem?_getD]
  cases hk:o2[k]? with
  |none=>simp
  |some y=>exact h.r y (List.mem_of_getElem? hk)
 simp only[List.length_singleton]
 exact Nat.succ_le_succ (this _)
theorem EInv.at_ {j:Int}{m:Nat}{o2:PLs}(h:EInv E V L j m o2)(k:Nat):(o2.getD k ([],[])).2.length<=j.toNat:=by
 rw[List.getD_eq_getElem?_getD]
 cases hk:o2[k]? with
 |none=>simp
 |some y=>exact h.r y (List.mem_of_getElem? hk)
theorem PInv.at2 {x:Int}(h:lkI pm2 x=some (out.length:Int)):(0<=(lkI pm2 x).getD 0/\(lkI pm2 x).getD 0<((out++[([],[])]).length:Int))/\((out++[([],[])]).getD ((lkI pm2 x).getD 0).toNat ([],[])).1.length<=0:=by
 rw[h]
 refine⟨by simp only[Option.getD_some,List.length_append,List.length_singleton];omega,?_⟩
 simp
theorem PInv.all (h:PInv E V L i pm out)(h1:¬i<(V.length:Int)){x:Int}(hx:x∈V):(lkI pm x).isSome=true:=by
 obtain⟨j,hj,rfl⟩:=mem_getD.1 hx
 exact h.d j (by omega)
theorem pieces_ret {n:Int}{o2:PLs}(hp:partE n E V L=0)(e:L.foldl (estep E (V.foldl (pstep E (leavF E L)) ([],[])).1) (V.foldl (pstep E (leavF E L)) ([],[])).2=o2):((o2,(0:Int),()):PLs×Int×Unit)=(if partE n E V L≠0 then[] else piecesF E V L,partE n E V L,()):=by
 rw[if_neg (fun q=>q hp),hp,<-e];rfl
theorem part_ends {n j:Int}(hp:partE n E V L=0)(h0:0<=j)(h1:j<(L.length:Int)):(E.getD (L.getD j.toNat 0).toNat (0,0)).1∈V/\(E.getD (L.getD j.toNat 0).toNat (0,0)).2∈V:=by
 obtain⟨hr,hV,hL,hok⟩:=partE_0 hp
 obtain⟨a,b⟩:=hok j.toNat (by omega)
 rw[hasB_mem hV] at a b
 exact⟨of_decide_eq_true a,of_decide_eq_true b⟩
end
def subV (V l:List Int):List Int:=V.filter fun v=>decide (v∈l)
def subL (E:List (Int×Int))(L l:List Int):List Int:=L.filter fun e=>decide ((E.getD e.toNat (0,0)).1∈l) && decide ((E.getD e.toNat (0,0)).2∈l)
def joinedB (n:Int)(E:List (Int×Int))(V L:List Int):Bool:=decide (partE n E V L=0) && decide (((if partE n E V L≠0 then[] else piecesF E V L).length:Int)<=1)
theorem turnL_len {l:List Int}{i:Int}(h0:0<=i)(h1:i<=(l.length:Int)):(turnL l i).length=l.length:=by
 unfold turnL;rw[List.length_append,List.length_drop,List.length_take];omega
theorem turnL_at {l:List Int}{i:Int}(h0:0<=i)(h1:i<=(l.length:Int)){j:Nat}(hj:j<l.length):(turnL l i).getD j 0=l.getD ((j+i.toNat)%l.length) 0:=by
 unfold turnL
 have hi:i.toNat<=l.length:=by omega
 rw[List.getD_eq_getElem?_getD,List.getD_eq_getElem?_getD,List.getElem?_append]
 rw[List.length_drop]
 split
 .rename_i q
  rw[List.getElem?_drop,Nat.mod_eq_of_lt (by omega),Nat.add_comm]
 rename_i q
 rw[List.getElem?_take,if_pos (by omega)]
 have e:(j+i.toNat)%l.length=j-(l.length-i.toNat):=by
  rw[show j+i.toNat=(j-(l.length-i.toNat))+l.length by omega,Nat.add_mod_right,Nat.mod_eq_of_lt (by omega)]
 rw[e]
def PredL (l:List Int)(x y:Int):Prop:=∃j,j<l.length/\l.getD j 0=x/\y=l.getD ((j+l.length-1)%l.length) 0
theorem pred_turn {l:List Int}{i:Int}(h0:0<=i)(h1:i<=(l.length:Int)){x y:Int}(h:PredL (turnL l i) x y):PredL l x y:=by
 obtain⟨j,hj,e1,e2⟩:=h
 rw[turnL_len h0 h1] at hj e2
 have hl:0<l.length:=by omega
 have hm:(j+l.length-1)%l.length<l.length:=Nat.mod_lt _ hl
 rw[turnL_at h0 h1 hj] at e1
 rw[turnL_at h0 h1 hm] at e2
 refine⟨(j+i.toNat)%l.length,Nat.mod_lt _ hl,e1,?_⟩
 rw[e2]
 congr 1
 rw[Nat.mod_add_mod,show(j+i.toNat)%l.length+l.length-1=(j+i.toNat)%l.length+(l.length-1) by omega,Nat.mod_add_mod]
 congr 1
 omega
theorem pred_mem {l:List Int}{x y:Int}(h:PredL l x y):y∈l:=by
 obtain⟨i,hi,_,rfl⟩:=h
 exact mem_getDA.2 ⟨_,Nat.mod_lt _ (by omega),rfl⟩
theorem plc1_look {t:List Int}(hn:t.Nodup){P:List (Int×Int)}:∀ {k:Nat},k<=t.length->(∀j,j<k->lkI (plc1 P t k) (t.getD j 0)=some (j:Int))/\∀x,(∀j,j<k->t.getD j 0≠x)->lkI (plc1 P t k) x=lkI P x
 |0,_=>⟨fun j hj=>by omega,fun x _=>rfl⟩
 |k+1,hk=>by
  obtain⟨h1,h2⟩:=plc1_look hn (P:=P) (k:=k) (by omega)
  refine⟨fun j hj=>?_,fun x hx=>?_⟩
  .show lkI (ptI (plc1 P t k) (t.getD k 0) (k:Int)) _=_
   rw[lkI_pt]
   by_cases q:j=k
   .rw[q,if_pos rfl]
   rw[if_neg fun e=>q (getD_injA hn (by omega) (by omega) e.symm),h1 j (by omega)]
  show lkI (ptI (plc1 P t k) (t.getD k 0) (k:Int)) _=_
  rw[lkI_pt,if_neg (hx k (by omega)),h2 x fun j hj=>hx j (by omega)]
theorem first_turn (l:List Int):∃i:Int,0<=i/\i<=(l.length:Int)/\firstL l=turnL l i:=by
 have:=leastF_b l l.length
 exact⟨leastF l l.length,this.1,by omega,rfl⟩
theorem first_mem {l:List Int}{x:Int}:x∈firstL l↔x∈l:=by
 constructor
 .exact firstL_mem
 intro h
 unfold firstL turnL
 rw[List.mem_append]
 rw[<-List.take_append_drop (leastF l l.length).toNat l,List.mem_append] at h
 exact h.symm
theorem first_nodup {l:List Int}(h:l.Nodup):(firstL l).Nodup:=by
 unfold firstL turnL
 rw[<-List.take_append_drop (leastF l l.length).toNat l] at h
 exact(List.perm_append_comm.nodup_iff).1 h
theorem plcF_look {T:List (List Int)}(hn:∀v,v<T.length->(T.getD v []).Nodup)(hd:∀u v,u<T.length->v<T.length->∀d,d∈T.getD u []->d∈T.getD v []->u=v):∀ {k:Nat},k<=T.length->∀v,v<k->∀j,j<(T.getD v []).length->lkI (plcF T k) ((firstL (T.getD v [])).getD j 0)=some (j:Int)
 |0,_,v,hv,_,_=>by omega
 |k+1,hk,v,hv,j,hj=>by
  have hnk:=first_nodup (hn k (by omega))
  obtain⟨h1,h2⟩:=plc1_look hnk (P:=plcF T k) (Nat.le_refl _)
  show lkI (plc1 (plcF T k) (firstL (T.getD k [])) (firstL (T.getD k [])).length) _=_
  by_cases q:v=k
  .subst q
   exact h1 j (by rw[firstL_len];exact hj)
  rw[h2 _ fun i hi e=>?_]
  .exact plcF_look hn hd (k:=k) (by omega) v (by omega) j hj
  have m1:(firstL (T.getD v [])).getD j 0∈T.getD v []:=first_mem.1 (mem_getDA.2 ⟨j,by rw[firstL_len];exact hj,rfl⟩)
  have m2:(firstL (T.getD k [])).getD i 0∈T.getD k []:=first_mem.1 (mem_getDA.2 ⟨i,hi,rfl⟩)
  rw[e] at m2
  exact q (hd v k (by omega) (by omega) _ m1 m2)
theorem twin_half (d:Int):twinE d/2=d/2:=by unfold twinE;split<;>omega
theorem twin_isDart {L:List Int}{d:Int}:isDart L (twinE d)↔isDart L d:=by unfold isDart;rw[twin_half]
theorem turns_disj {n:Int}{E:List (Int×Int)}{L:List Int}{T:List (List Int)}(h:TurnsR n E L T):∀u v,u<T.length->v<T.length->∀d,d∈T.getD u []->d∈T.getD v []->u=v:=fun u v hu hv d h1 h2=>by
 have e1:=((h.mem u hu d).1 h1).2
 have e2:=((h.mem v hv d).1 h2).2
 omega
theorem turn_in {n:Int}{E:List (Int×Int)}{V L:List Int}{T:List (List Int)}(hp:partE n E V L=0)(h:TurnsR n E L T){d:Int}(hd:isDart L d):0<=tailE E d/\(tailE E d).toNat<T.length/\d∈T.getD (tailE E d).toNat []:=by
 obtain⟨hr,_,hL,_⟩:=partE_0 hp
 obtain⟨r1,r2,r3,r4⟩:=rightE_0 hr
 obtain⟨e,he,q⟩:=isDart_iff.1 hd
 have hb:=(rises_iff.1 hL).2 e he
 have hok:=r4 e.toNat (by omega)
 unfold okE at hok
 have hlen:=h.len
 have key:0<=tailE E d/\(tailE E d).toNat<T.length:=by
  rcases q with rfl|rfl
  .have e0:tailE E (2*e)=(E.getD e.toNat (0,0)).1:=by unfold tailE;rw[if_pos (by omega),show 2*e/2=e by omega]
   rw[e0];omega
  have e0:tailE E (2*e+1)=(E.getD e.toNat (0,0)).2:=by unfold tailE;rw[if_neg (by omega),show(2*e+1)/2=e by omega]
  rw[e0];omega
 exact⟨key.1,key.2,(h.mem _ key.2 d).2 ⟨hd,by omega⟩⟩
def rotOf (E:List (Int×Int))(L:List Int)(T:List (List Int)):Option RotT:=some (T.map firstL,lvF E L L.length,plcF T T.length,dsF L L.length)
def nextF (E:List (Int×Int))(L:List Int)(T:List (List Int))(d:Int):Int:=(besideF (rotOf E L T) (twinE d) (-1)).1
theorem map_getD {α β:Type}{f:α->β}{l:List α}{k:Nat}(h:k<l.length)(z:α)(y:β):(l.map f).getD k y=f (l.getD k z):=by
 rw[List.getD_eq_getElem?_getD,List.getElem?_map,List.getD_eq_getElem?_getD,List.getElem?_eq_getElem h];rfl
theorem rot_place {n:Int}{E:List (Int×Int)}{V L:List Int}{T:List (List Int)}(hp:partE n E V L=0)(h:TurnsR n E L T){t:Int}(ht:isDart L t):
  ∃j:Nat,j<(T.getD (tailE E t).toNat []).length/\lkI (lvF E L L.length) t=some (tailE E t)/\lkI (plcF T T.length) t=some (j:Int)/\(firstL (T.getD (tailE E t).toNat [])).getD j 0=t:=by
 obtain⟨h0,h1,h2⟩:=turn_in hp h ht
 obtain⟨j,hj,e⟩:=mem_getDA (z:=0).1 (first_mem.2 h2)
 rw[firstL_len] at hj
 refine⟨j,hj,?_,?_,e⟩
 .rw[lvF_look (Nat.le_refl _),if_pos ((dsF_all t).2 ht)]
 have:=plcF_look h.nd (turns_disj h) (Nat.le_refl _) _ h1 j hj
 rwa[e] at this
theorem next_pred {n:Int}{E:List (Int×Int)}{V L:List Int}{T:List (List Int)}(hp:partE n E V L=0)(h:TurnsR n E L T){d:Int}(hd:isDart L d):PredL (T.getD (tailE E (twinE d)).toNat []) (twinE d) (nextF E L T d):=by
 have ht:=twin_isDart.2 hd
 obtain⟨h0,h1,h2⟩:=turn_in hp h ht
 obtain⟨j,hj,e1,e2,e3⟩:=rot_place hp h ht
 obtain⟨i,i0,i1,ei⟩:=first_turn (T.getD (tailE E (twinE d)).toNat [])
 refine pred_turn i0 i1 ?_
 rw[<-ei]
 refine⟨j,by rw[firstL_len];exact hj,e3,?_⟩
 have eT:(T.map firstL).getD (tailE E (twinE d)).toNat []=firstL (T.getD (tailE E (twinE d)).toNat []):=map_getD h1 _ _
 unfold nextF besideF rotOf
 simp only[e1,e2,eT,firstL_len,Option.getD_some]
 congr 1
 have:((j:Int)+ -1+((T.getD (tailE E (twinE d)).toNat []).length:Int))=((j+(T.getD (tailE E (twinE d)).toNat []).length-1:Nat):Int):=by omega
 rw[this,<-Int.natCast_emod]
 rfl
theorem next_rot {n:Int}{E:List (Int×Int)}{V L:List Int}{T:List (List Int)}(hp:partE n E V L=0)(h:TurnsR n E L T)(hs:szLL T){d:Int}(hd:isDart L d):RotD (rotOf E L T) (twinE d)/\0<=d/\d<=1000000:=by
 have ht:=twin_isDart.2 hd
 obtain⟨h0,h1,h2⟩:=turn_in hp h ht
 obtain⟨j,hj,e1,e2,e3⟩:=rot_place hp h ht
 obtain⟨hr,_,hL,_⟩:=partE_0 hp
 obtain⟨r1,r2,r3,r4⟩:=rightE_0 hr
 obtain⟨e,he,q⟩:=isDart_iff.1 hd
 have hb:=(rises_iff.1 hL).2 e he
 refine⟨fun v hv=>?_,by omega,by omega⟩
 have hv:lkI (lvF E L L.length) (twinE d)=some v:=hv
 rw[e1] at hv
 injection hv with hv
 subst hv
 have eT:(T.map firstL).getD (tailE E (twinE d)).toNat []=firstL (T.getD (tailE E (twinE d)).toNat []):=map_getD h1 _ _
 have hz:=hs.2 _ (mem_getDA (z:=[]).2 ⟨_,h1,rfl⟩)
 refine⟨h0,by rw[List.length_map];omega,?_,?_,?_⟩
 .rw[eT,firstL_len];exact hz
 .show 0<=(lkI (plcF T T.length) (twinE d)).getD 0
  rw[e2];exact Int.natCast_nonneg _
 show(lkI (plcF T T.length) (twinE d)).getD 0<_
 rw[e2,eT,firstL_len]
 show(j:Int)<_
 omega
theorem next_dart {n:Int}{E:List (Int×Int)}{V L:List Int}{T:List (List Int)}(hp:partE n E V L=0)(h:TurnsR n E L T){d:Int}(hd:isDart L d):isDart L (nextF E L T d)/\tailE E (nextF E L T d)=tailE E (twinE d):=by
 obtain⟨h0,h1,h2⟩:=turn_in hp h (twin_isDart.2 hd)
 have:=(h.mem _ h1 _).1 (pred_mem (next_pred hp h hd))
 exact⟨this.1,by omega⟩
def lnF (V:List Int)(T:List (List Int)):Nat->List (Int×List Int)
 |0=>[]
 |k+1=>if(T.getD (V.getD (V.length-1-k) 0).toNat []).length=0 then lnF V T k++[(-1-V.getD (V.length-1-k) 0,[])] else lnF V T k
theorem lnF_len (V:List Int)(T:List (List Int)):∀k,(lnF V T k).length<=k
 |0=>Nat.le_refl _
 |k+1=>by
  have:=lnF_len V T k
  unfold lnF
  split
  .rw[List.length_append];simp;omega
  omega
def orbF (r:Option RotT):Nat->List (Int×Int)->Int->List Int->List (Int×Int)×List Int
 |0,m,_,acc=>(m,acc)
 |k+1,m,x,acc=>if(lkI (dlI m x) (besideF r (twinE x) (-1)).1).isSome=true then orbF r k (dlI m x) (besideF r (twinE x) (-1)).1 (acc++[x]) else(dlI m x,acc++[x])
def stepW (r:Option RotT)(s:List (Int×Int)×List (Int×List Int))(d:Int):List (Int×Int)×List (Int×List Int):=
 if(lkI s.1 d).isSome=true then((orbF r s.1.length s.1 d []).1,s.2++[(d,(orbF r s.1.length s.1 d []).2)]) else s
def idM (ds:List Int):Nat->List (Int×Int)
 |0=>[]
 |k+1=>ptI (idM ds k) (ds.getD k 0) (ds.getD k 0)
def runW (r:Option RotT)(ds:List Int)(out:List (Int×List Int)):Nat->List (Int×Int)×List (Int×List Int)
 |0=>(idM ds ds.length,out)
 |k+1=>stepW r (runW r ds out k) (ds.getD k 0)
def walksF (n:Int)(E:List (Int×Int))(V L:List Int)(T:List (List Int)):List (Int×List Int)×Int:=
 if(newF n E V L T).2≠0 then([],(newF n E V L T).2) else((runW (newF n E V L T).1 (dsF L L.length) (lnF V T V.length) (dsF L L.length).length).2,0)
theorem kn_id (ds:List Int):∀k,KN (idM ds k)
 |0=>kn_nil
 |k+1=>kn_pt (kn_id ds k) _ _
theorem id_look {ds:List Int}:∀ {k:Nat},k<=ds.length->∀x,(lkI (idM ds k) x).isSome=true↔x∈ds.take k
 |0,_,x=>by simp[idM];rfl
 |k+1,h,x=>by
  show(lkI (ptI (idM ds k) (ds.getD k 0) (ds.getD k 0)) x).isSome=true↔_
  rw[lkI_pt,take_snoc (by omega) 0,List.mem_append,List.mem_singleton]
  split
  .rename_i e;exact⟨fun _=>.inr e.symm,fun _=>rfl⟩
  rename_i e
  rw[id_look (k:=k) (by omega)]
  exact⟨.inl,fun q=>q.elim id fun q=>(e q.symm).elim⟩
theorem id_len (ds:List Int):∀k,(idM ds k).length<=k
 |0=>Nat.le_refl _
 |k+1=>by
  have:=id_len ds k
  have:=ptI_len (idM ds k) (ds.getD k 0) (ds.getD k 0)
  show(ptI _ _ _).length<=_
  omega
theorem lnF_step {V:List Int}{T:List (List Int)}{i:Int}(h0:0<=i)(h1:i<(V.length:Int)):lnF V T (V.length-(i-1+1).toNat)=if(T.getD (V.getD i.toNat 0).toNat []).length=0 then lnF V T (V.length-(i+1).toNat)++[(-1-V.getD i.toNat 0,[])] else lnF V T (V.length-(i+1).toNat):=by
 rw[show V.length-(i-1+1).toNat=(V.length-(i+1).toNat)+1 by omega]
 show(if(T.getD (V.getD (V.length-1-(V.length-(i+1).toNat)) 0).toNat []).length=0 then _ else _)=_
 rw[show V.length-1-(V.length-(i+1).toNat)=i.toNat by omega]
theorem orb_inv {r:Option RotT}{m:List (Int×Int)}{x:Int}{acc:List Int}{R:List (Int×Int)×List Int}(hk:KN m)(hs:(lkI m x).isSome=true)(ho:orbF r m.length m x acc=R):
  ((lkI (dlI m x) (besideF r (twinE x) (-1)).1).isSome=true/\(lkI (dlI m x) (besideF r (twinE x) (-1)).1).isSome=true/\orbF r (dlI m x).length (dlI m x) (besideF r (twinE x) (-1)).1 (acc++[x])=R)\/((lkI (dlI m x) (besideF r (twinE x) (-1)).1).isSome=false/\(dlI m x,acc++[x])=R):=by
 have e:=kn_dl_len hk hs
 rw[<-e] at ho
 unfold orbF at ho
 split at ho
 .rename_i q;exact .inl ⟨q,q,ho⟩
 rename_i q;exact .inr ⟨by simpa using q,ho⟩
theorem dl_dart {L:List Int}{m:List (Int×Int)}(h:∀y,(lkI m y).isSome=true->isDart L y)(x:Int):∀y,(lkI (dlI m x) y).isSome=true->isDart L y:=fun y hy=>by
 rw[lkI_dl] at hy
 split at hy
 .cases hy
 exact h y hy
def RunInv (L:List Int)(r:Option RotT)(ds:List Int)(out:List (Int×List Int))(k:Nat)(m2:List (Int×Int))(o2:List (Int×List Int)):Prop:=
 m2=(runW r ds out k).1/\o2=(runW r ds out k).2/\KN m2/\(∀y,(lkI m2 y).isSome=true->isDart L y)/\o2.length<=out.length+k
theorem runW_no {L:List Int}{r:Option RotT}{ds:List Int}{out:List (Int×List Int)}{k:Nat}{m2:List (Int×Int)}{o2:List (Int×List Int)}(h:(lkI (runW r ds out k).1 (ds.getD k 0)).isSome=false)(hI:RunInv L r ds out k m2 o2):RunInv L r ds out (k+1) m2 o2:=by
 obtain⟨h1,h2,h3,h4,h5⟩:=hI
 have e:runW r ds out (k+1)=runW r ds out k:=by
  show stepW r (runW r ds out k) (ds.getD k 0)=_
  unfold stepW;rw[if_neg (by rw[h];simp)]
 exact⟨by rw[e];exact h1,by rw[e];exact h2,h3,h4,by omega⟩
theorem runW_yes {L:List Int}{r:Option RotT}{ds:List Int}{out:List (Int×List Int)}{k:Nat}{m2 mm:List (Int×Int)}{o2:List (Int×List Int)}{acc:List Int}(hk:k<ds.length)(h:(lkI (runW r ds out k).1 (ds.getD k 0)).isSome=true)
  (hR:(mm,acc)=orbF r (runW r ds out k).1.length (runW r ds out k).1 (ds.getD k 0) []) (kk:KN mm) (kd:∀y,(lkI mm y).isSome=true->isDart L y) (hI:RunInv L r ds out k m2 o2):RunInv L r ds out (k+1) mm (o2++[(ds.getD k 0,acc)]):=by
 obtain⟨h1,h2,h3,h4,h5⟩:=hI
 have e:runW r ds out (k+1)=(mm,(runW r ds out k).2++[(ds.getD k 0,acc)]):=by
  show stepW r (runW r ds out k) (ds.getD k 0)=_
  unfold stepW;rw[if_pos h,<-hR]
 exact⟨by rw[e],by rw[e,h2],kk,kd,by rw[List.length_append];simp;omega⟩
theorem kn_le_ds {L:List Int}{m:List (Int×Int)}(h:KN m)(hd:∀y,(lkI m y).isSome=true->isDart L y):m.length<=(dsF L L.length).length:=by
 have:=h.length_le_of_subset (l₂:=dsF L L.length) fun x hx=>(dsF_all x).2 (hd x (mem_keys.1 hx))
 rwa[List.length_map] at this
theorem walksF_ok {n:Int}{E:List (Int×Int)}{V L:List Int}{T:List (List Int)}(h:(newF n E V L T).2=0):walksF n E V L T=((runW (newF n E V L T).1 (dsF L L.length) (lnF V T V.length) (dsF L L.length).length).2,0):=by
 unfold walksF;rw[if_neg (by rw[h];exact fun q=>q rfl)]
end Go.Proofs.YtnfdimfepbbbpaaGreatDoor
namespace Go.Proofs.YtnfdimfepbbbpaaGreatDoor
open Go.RowKit
open Go.Proofs.YtnfdimfepbbbpaaGreatDoor.Deep
attribute [local instance 10] Classical.propDecidable
section
variable {E:List (Int×Int)}{M:List (Int×List Int)}{V L:List Int}{a shut:Int}{n:Int}
theorem rdarts_sub {Q:Int->Prop}{v:Int}:∀ {l:List Int} {s:List (Int×Int)×List Int},(∀d∈l,headE E d≠shut->Q (headE E d))->(∀x,(lkI s.1 x).isSome=true->Q x)->(∀x∈s.2,Q x)->
  (∀x,(lkI (l.foldl (rdart E v shut) s).1 x).isSome=true->Q x)/\∀x∈(l.foldl (rdart E v shut) s).2,Q x
 |[],s,_,h1,h2=>⟨h1,h2⟩
 |d::l,s,hd,h1,h2=>by
  rw[List.foldl_cons]
  refine rdarts_sub (fun e he=>hd e (List.mem_cons_of_mem _ he)) (fun x hx=>?_) fun x hx=>?_
  .unfold rdart at hx
   split at hx
   .exact h1 x hx
   rename_i hn
   have hx:(lkI (ptI s.1 (headE E d) _) x).isSome=true:=hx
   rw[lkI_pt] at hx
   split at hx
   .rename_i e;rw[<-e];exact hd d List.mem_cons_self fun e=>hn (.inr e)
   exact h1 x hx
  unfold rdart at hx
  split at hx
  .exact h2 x hx
  rename_i hn
  rcases List.mem_append.1 hx with hx|hx
  .exact h2 x hx
  rw[List.mem_singleton.1 hx];exact hd d List.mem_cons_self fun e=>hn (.inr e)
theorem run_sub {Q:Int->Prop}(hQ:∀v,Q v->∀d∈(lkI M v).getD [],headE E d≠shut->Q (headE E d)):∀(f:Nat) (v:Int) (m:List (Int×Int)) (q:List Int),Q v->(∀x,(lkI m x).isSome=true->Q x)->(∀x∈q,Q x)->∀x,(lkI (runR E M shut f v (m,q)) x).isSome=true->Q x
 |0,v,m,q,_,h1,_,x,hx=>h1 x hx
 |f+1,v,m,q,hv,h1,h2,x,hx=>by
  obtain⟨k1,k2⟩:=rdarts_sub (Q:=Q) (v:=v) (s:=(m,q)) (hQ v hv) h1 h2
  have hrun:runR E M shut (f+1) v (m,q)=(match(rdarts E M v shut (m,q)).2 with
   |[]=>(rdarts E M v shut (m,q)).1
   |x::t=>runR E M shut f x ((rdarts E M v shut (m,q)).1,t)):=rfl
  rw[hrun] at hx
  have k1:∀x,(lkI (rdarts E M v shut (m,q)).1 x).isSome=true->Q x:=k1
  have k2:∀x∈(rdarts E M v shut (m,q)).2,Q x:=k2
  generalize rdarts E M v shut (m,q)=s at*
  obtain⟨m',q'⟩:=s
  cases q' with
  |nil=>exact k1 x hx
  |cons y t=>exact run_sub hQ f y m' t (k2 y List.mem_cons_self) k1 (fun z hz=>k2 z (List.mem_cons_of_mem _ hz)) x hx
def Cn (E:List (Int×Int))(L:List Int)(x y:Int):Prop:=(grE E L).Rch (· ≠-1) x y
theorem reach_iff (hp:partE n E V L=0)(ha:a≠-1){x:Int}:(lkI (reachF E (leavF E L) a (-1)) x).isSome=true↔Cn E L a x:=by
 refine⟨fun h=>?_,reach_rch hp⟩
 have hdk:=darts_ok (E:=E) (partE_0 hp).2.2.1
 refine run_sub (Q:=fun x=>Cn E L a x) (fun v hv d hd hs=>?_) _ a [(a,0)] [] (.refl ha) (fun x hx=>?_) (fun x hx=>by cases hx) x h
 .rw[leav_look] at hd
  obtain⟨h1,h2⟩:=hdk.mem v d hd
  exact .step hv ⟨_,h1,h2⟩ hs
 cases hl:lkI [(a,(0:Int))] x with
 |none=>rw[hl] at hx;cases hx
 |some z=>
  have:=List.mem_singleton.1 (lkI_mem hl)
  cases this
  exact .refl ha
noncomputable def repsF (E:List (Int×Int)) (L:List Int):List Int->List Int:=fun V=>V.foldl (fun r v=>if ∃a∈r,Cn E L a v then r else r++[v]) []
theorem reps_snoc (V:List Int)(v:Int):repsF E L (V++[v])=if ∃a∈repsF E L V,Cn E L a v then repsF E L V else repsF E L V++[v]:=by
 unfold repsF;rw[List.foldl_append];rfl
theorem rev_ind {P:List Int->Prop}(h0:P [])(h1:∀l x,P l->P (l++[x])):∀l,P l:=fun l=>by
 have key:∀l:List Int,P l.reverse:=by
  intro l
  induction l with
  |nil=>exact h0
  |cons x l ih=>rw[List.reverse_cons];exact h1 _ _ ih
 have:=key l.reverse
 rwa[List.reverse_reverse] at this
theorem reps_ok:∀V:List Int,(∀v∈V,v≠-1)->(∀a∈repsF E L V,a∈V)/\(∀v∈V,∃a∈repsF E L V,Cn E L a v)/\(repsF E L V).Nodup/\∀a∈repsF E L V,∀b∈repsF E L V,Cn E L a b->a=b:=by
 refine rev_ind (fun _=>⟨fun a h=>(by cases h),fun a h=>(by cases h),List.nodup_nil,fun a h=>(by cases h)⟩) fun V v ih hV=>?_
 obtain⟨h1,h2,h3,h4⟩:=ih fun x hx=>hV x (List.mem_append_left _ hx)
 have hv:=hV v (List.mem_append_right _ (List.mem_singleton.2 rfl))
 rw[reps_snoc]
 split
 .rename_i q
  refine⟨fun a ha=>List.mem_append_left _ (h1 a ha),fun x hx=>?_,h3,h4⟩
  rcases List.mem_append.1 hx with hx|hx
  .exact h2 x hx
  rw[List.mem_singleton.1 hx];exact q
 rename_i q
 refine⟨fun a ha=>?_,fun x hx=>?_,?_,fun a ha b hb hab=>?_⟩
 .rcases List.mem_append.1 ha with ha|ha
  .exact List.mem_append_left _ (h1 a ha)
  exact List.mem_append_right _ ha
 .rcases List.mem_append.1 hx with hx|hx
  .obtain⟨a,ha,hc⟩:=h2 x hx
   exact⟨a,List.mem_append_left _ ha,hc⟩
  rw[List.mem_singleton.1 hx];exact⟨v,List.mem_append_right _ (List.mem_singleton.2 rfl),.refl hv⟩
 .rw[List.nodup_append]
  exact⟨h3,by simp,fun x hx y hy e=>by subst e;rw[List.mem_singleton.1 hy] at hx;exact q ⟨v,hx,.refl hv⟩⟩
 rcases List.mem_append.1 ha with ha|ha<;>rcases List.mem_append.1 hb with hb|hb
 .exact h4 a ha b hb hab
 .rw[List.mem_singleton.1 hb] at hab;exact(q ⟨a,ha,hab⟩).elim
 .rw[List.mem_singleton.1 ha] at hab;exact(q ⟨b,hb,Gr.Rch.symm hab⟩).elim
 rw[List.mem_singleton.1 ha,List.mem_singleton.1 hb]
noncomputable def clsV (E:List (Int×Int)) (L V:List Int) (a:Int):List Int:=V.filter fun v=>decide (Cn E L a v)
noncomputable def clsE (E:List (Int×Int)) (L:List Int) (a:Int):List Int:=L.filter fun e=>decide (Cn E L a (eA E e))
theorem mem_clsV {v:Int}:v∈clsV E L V a↔v∈V/\Cn E L a v:=by unfold clsV;rw[List.mem_filter];simp
theorem map_set_at {α:Type}{r:List α}{f g:α->List Int×List Int}{i:Nat}(hi:i<r.length)(z:α)(h:∀j,j<r.length->j≠i->f (r.getD j z)=g (r.getD j z)):(r.map f).set i (g (r.getD i z))=r.map g:=by
 apply List.ext_getElem?
 intro j
 rw[List.getElem?_set]
 by_cases e:i=j
 .subst e
  rw[if_pos rfl,List.length_map,if_pos hi,List.getElem?_map,List.getD_eq_getElem?_getD,List.getElem?_eq_getElem hi];rfl
 rw[if_neg e,List.getElem?_map,List.getElem?_map]
 by_cases hj:j<r.length
 .have:=h j hj fun q=>e q.symm
  rw[List.getD_eq_getElem?_getD,List.getElem?_eq_getElem hj] at this
  rw[List.getElem?_eq_getElem hj]
  exact congrArg some this
 rw[List.getElem?_eq_none (by omega)];rfl
theorem map_getP {α:Type}{r:List α}{f:α->List Int×List Int}{i:Nat}(hi:i<r.length)(z:α):(r.map f).getD i ([],[])=f (r.getD i z):=map_getD hi z _
theorem pv_ok (hp:partE n E V L=0):∀W:List Int,(∀v∈W,v≠-1)->
  (W.foldl (pstep E (leavF E L)) ([],[])).2=(repsF E L W).map (fun a=>(clsV E L W a,[]))/\
  (∀x,(∀i,i<(repsF E L W).length->Cn E L ((repsF E L W).getD i 0) x->lkI (W.foldl (pstep E (leavF E L)) ([],[])).1 x=some (i:Int))/\((¬ ∃a∈repsF E L W,Cn E L a x)->lkI (W.foldl (pstep E (leavF E L)) ([],[])).1 x=none)):=by
 refine rev_ind (fun _=>⟨rfl,fun x=>⟨fun i hi=>by simp[repsF] at hi,fun _=>rfl⟩⟩) fun W v ih hW=>?_
 have hW':∀x∈W,x≠-1:=fun x hx=>hW x (List.mem_append_left _ hx)
 obtain⟨h1,h2⟩:=ih hW'
 have hv:=hW v (List.mem_append_right _ (List.mem_singleton.2 rfl))
 obtain⟨r1,r2,r3,r4⟩:=reps_ok (E:=E) (L:=L) W hW'
 rw[List.foldl_append]
 show(pstep E (leavF E L) (W.foldl (pstep E (leavF E L)) ([],[])) v).2=_/\∀x,(∀i,i<_->_->lkI (pstep E (leavF E L) (W.foldl (pstep E (leavF E L)) ([],[])) v).1 x=_)/\(_->lkI (pstep E (leavF E L) (W.foldl (pstep E (leavF E L)) ([],[])) v).1 x=none)
 generalize W.foldl (pstep E (leavF E L)) ([],[])=s at*
 obtain⟨pm,out⟩:=s
 dsimp only at h1 h2
 subst h1
 rw[reps_snoc]
 have hcls:∀a,clsV E L (W++[v]) a=if Cn E L a v then clsV E L W a++[v] else clsV E L W a:=fun a=>by
  unfold clsV
  rw[List.filter_append]
  split
  .rename_i q;rw[List.filter_cons_of_pos (by simpa using q)];rfl
  rename_i q;rw[List.filter_cons_of_neg (by simpa using q)];simp
 by_cases hc:∃a∈repsF E L W,Cn E L a v
 .rw[if_pos hc]
  obtain⟨a,ha,hav⟩:=hc
  obtain⟨i,hi,rfl⟩:=mem_getDA (z:=0).1 ha
  have hlk:=(h2 v).1 i hi hav
  have e:pstep E (leavF E L) (pm,(repsF E L W).map fun a=>(clsV E L W a,[])) v=(pm,pieV ((repsF E L W).map fun a=>(clsV E L W a,[])) (i:Int) v):=by
   unfold pstep;dsimp only;rw[if_pos (by rw[hlk];rfl),hlk];rfl
  rw[e]
  refine⟨?_,h2⟩
  show((repsF E L W).map fun a=>(clsV E L W a,[])).set (i:Int).toNat _=_
  rw[Int.toNat_natCast,map_getP hi 0]
  have:(clsV E L W ((repsF E L W).getD i 0)++[v],([]:List Int))=(fun a=>(clsV E L (W++[v]) a,([]:List Int))) ((repsF E L W).getD i 0):=by
   show _=(clsV E L (W++[v]) _,[])
   rw[hcls,if_pos hav]
  show((repsF E L W).map fun a=>(clsV E L W a,[])).set i (clsV E L W ((repsF E L W).getD i 0)++[v],[])=_
  rw[this]
  refine map_set_at (f:=fun a=>(clsV E L W a,[])) (g:=fun a=>(clsV E L (W++[v]) a,[])) hi 0 fun j hj hne=>?_
  rw[hcls,if_neg]
  intro q
  have:=r4 _ (mem_getDA.2 ⟨j,hj,rfl⟩) _ ha ((Gr.Rch.trans q (Gr.Rch.symm hav)))
  exact hne (getD_injA r3 hj hi this)
 rw[if_neg hc]
 have hlk:=(h2 v).2 hc
 have e:pstep E (leavF E L) (pm,(repsF E L W).map fun a=>(clsV E L W a,[])) v=(keysPut pm (reachF E (leavF E L) v (-1)) ((repsF E L W).length:Int),pieV (((repsF E L W).map fun a=>(clsV E L W a,[]))++[([],[])]) ((repsF E L W).length:Int) v):=by
  unfold pstep;dsimp only;rw[if_neg (by rw[hlk];decide),List.length_map]
 rw[e]
 have hkey:∀x,lkI (keysPut pm (reachF E (leavF E L) v (-1)) ((repsF E L W).length:Int)) x=if(lkI (reachF E (leavF E L) v (-1)) x).isSome=true then some ((repsF E L W).length:Int) else lkI pm x:=fun x=>keysPut_look
 refine⟨?_,fun x=>⟨fun i hi hx=>?_,fun hx=>?_⟩⟩
 .have hno:∀a∈repsF E L W,clsV E L (W++[v]) a=clsV E L W a:=fun a ha=>by rw[hcls,if_neg fun q=>hc ⟨a,ha,q⟩]
  have hnew:clsV E L W v=[]:=by
   unfold clsV
   rw[List.filter_eq_nil_iff]
   intro x hx q
   have q:Cn E L v x:=by simpa using q
   obtain⟨a,ha,hax⟩:=r2 x hx
   exact hc ⟨a,ha,Gr.Rch.trans hax (Gr.Rch.symm q)⟩
  show(((repsF E L W).map fun a=>(clsV E L W a,[]))++[([],[])]).set ((repsF E L W).length:Int).toNat _=_
  rw[Int.toNat_natCast]
  have hlen:((repsF E L W).map fun a=>(clsV E L W a,([]:List Int))).length=(repsF E L W).length:=List.length_map ..
  have eg:(((repsF E L W).map fun a=>(clsV E L W a,([]:List Int)))++[([],[])]).getD (repsF E L W).length ([],[])=([],[]):=by
   rw[List.getD_eq_getElem?_getD,List.getElem?_append_right (by omega),hlen,Nat.sub_self];rfl
  rw[eg,List.set_append_right _ _ (by omega),hlen,Nat.sub_self,List.map_append]
  congr 1
  .exact List.map_congr_left fun a ha=>by rw[hno a ha]
  show[(([]:List Int)++[v],([]:List Int))]=[(clsV E L (W++[v]) v,[])]
  rw[hcls,if_pos (.refl hv),hnew]
 .rw[hkey]
  rw[List.length_append] at hi
  by_cases q:i<(repsF E L W).length
  .have eg:(repsF E L W++[v]).getD i 0=(repsF E L W).getD i 0:=getD_app q
   rw[eg] at hx
   rw[if_neg,(h2 x).1 i q hx]
   intro z
   exact hc ⟨_,mem_getDA.2 ⟨i,q,rfl⟩,Gr.Rch.trans hx (Gr.Rch.symm ((reach_iff hp hv).1 z))⟩
  have hi2:i=(repsF E L W).length:=by simp at hi;omega
  subst hi2
  have eg:(repsF E L W++[v]).getD (repsF E L W).length 0=v:=by
   rw[List.getD_eq_getElem?_getD,List.getElem?_append_right (Nat.le_refl _),Nat.sub_self];rfl
  rw[eg] at hx
  rw[if_pos ((reach_iff hp hv).2 hx)]
 rw[hkey,if_neg,(h2 x).2]
 .rintro⟨a,ha,q⟩;exact hx ⟨a,List.mem_append_left _ ha,q⟩
 intro z;exact hx ⟨v,List.mem_append_right _ (List.mem_singleton.2 rfl),(reach_iff hp hv).1 z⟩
noncomputable def piecesR (E:List (Int×Int)) (V L:List Int):PLs:=(repsF E L V).map fun a=>(clsV E L V a,clsE E L a)
theorem verts_ne {V:List Int}(h:risesP V n):∀v∈V,v≠-1:=fun v hv=>by have:=(rises_iff.1 h).2 v hv;omega
theorem pieces_eq (hp:partE n E V L=0):piecesF E V L=piecesR E V L:=by
 obtain⟨hr,hV,hL,hok⟩:=partE_0 hp
 have hV1:=verts_ne hV
 obtain⟨h1,h2⟩:=pv_ok hp V hV1
 obtain⟨r1,r2,r3,r4⟩:=reps_ok (E:=E) (L:=L) V hV1
 unfold piecesF
 generalize V.foldl (pstep E (leavF E L)) ([],[])=s at*
 obtain⟨pm,out⟩:=s
 dsimp only at h1 h2 ⊢
 subst h1
 have key:∀W:List Int,(∀e∈W,e∈L)->W.foldl (estep E pm) ((repsF E L V).map fun a=>(clsV E L V a,[]))=(repsF E L V).map fun a=>(clsV E L V a,W.filter fun e=>decide (Cn E L a (eA E e))):=by
  refine rev_ind (fun _=>rfl) fun W e ih hW=>?_
  rw[List.foldl_append,ih fun x hx=>hW x (List.mem_append_left _ hx)]
  show estep E pm _ e=_
  have he:=hW e (List.mem_append_right _ (List.mem_singleton.2 rfl))
  obtain⟨j,hj,rfl⟩:=mem_getD.1 he
  obtain⟨ka,kb⟩:=part_ends (j:=(j:Int)) hp (by omega) (by omega)
  rw[Int.toNat_natCast] at ka
  have ka:eA E (L.getD j 0)∈V:=ka
  generalize L.getD j 0=e at*
  obtain⟨a,ha,hax⟩:=r2 _ ka
  obtain⟨i,hi,rfl⟩:=mem_getDA (z:=0).1 ha
  have hlk:=(h2 (eA E e)).1 i hi hax
  have ee:estep E pm ((repsF E L V).map fun a=>(clsV E L V a,W.filter fun e=>decide (Cn E L a (eA E e)))) e=pieE ((repsF E L V).map fun a=>(clsV E L V a,W.filter fun e=>decide (Cn E L a (eA E e)))) (i:Int) e:=by
   unfold estep
   rw[show(E.getD e.toNat (0,0)).1=eA E e from rfl,hlk];rfl
  rw[ee]
  unfold pieE
  rw[Int.toNat_natCast,map_getP hi 0]
  have hf:∀a,(W++[e]).filter (fun e=>decide (Cn E L a (eA E e)))=if Cn E L a (eA E e) then W.filter (fun e=>decide (Cn E L a (eA E e)))++[e] else W.filter (fun e=>decide (Cn E L a (eA E e))):=fun a=>by
   rw[List.filter_append]
   split
   .rename_i q;rw[List.filter_cons_of_pos (by simpa using q)];rfl
   rename_i q;rw[List.filter_cons_of_neg (by simpa using q)];simp
  have:=map_set_at (f:=fun a=>(clsV E L V a,W.filter fun e=>decide (Cn E L a (eA E e)))) (g:=fun a=>(clsV E L V a,(W++[e]).filter fun e=>decide (Cn E L a (eA E e)))) hi 0 fun j hj hne=>by
   rw[hf,if_neg]
   intro q
   have:=r4 _ (mem_getDA.2 ⟨j,hj,rfl⟩) _ ha ((Gr.Rch.trans q (Gr.Rch.symm hax)))
   exact hne (getD_injA r3 hj hi this)
  rw[<-this]
  dsimp only
  rw[hf,if_pos hax]
 exact key L fun _ h=>h
end
end Go.Proofs.YtnfdimfepbbbpaaGreatDoor
namespace Go.Proofs.YtnfdimfepbbbpaaGreatDoor
open Go.RowKit
open Go.Proofs.YtnfdimfepbbbpaaGreatDoor.Deep
def at1 (m:List (Int×Int))(vs:List Int)(c:Int):Nat->List (Int×Int)
 |0=>m
 |k+1=>ptI (at1 m vs c k) (vs.getD k 0) c
def atF (P:PLs):Nat->List (Int×Int)
 |0=>[]
 |k+1=>at1 (atF P k) (P.getD k ([],[])).1 (k:Int) (P.getD k ([],[])).1.length
theorem at1_snoc {m:List (Int×Int)}{vs:List Int}{c i:Int}(h:0<=i):at1 m vs c (i+1).toNat=ptI (at1 m vs c i.toNat) (vs.getD i.toNat 0) c:=by
 rw[show(i+1).toNat=i.toNat+1 by omega];rfl
theorem atF_snoc {P:PLs}{i:Int}(h:0<=i):atF P (i+1).toNat=at1 (atF P i.toNat) (P.getD i.toNat ([],[])).1 i (P.getD i.toNat ([],[])).1.length:=by
 rw[show(i+1).toNat=i.toNat+1 by omega]
 show at1 _ _ ((i.toNat:Nat):Int) _=_
 rw[Int.toNat_of_nonneg h]
theorem at1_len {m:List (Int×Int)}{vs:List Int}{c:Int}:∀k,(at1 m vs c k).length<=m.length+k
 |0=>Nat.le_refl _
 |k+1=>by
  have h:=at1_len (m:=m) (vs:=vs) (c:=c) k
  have:=ptI_len (at1 m vs c k) (vs.getD k 0) c
  show(ptI _ _ _).length<=_
  omega
theorem atF_len {P:PLs}{N:Nat}(hP:∀k,(P.getD k ([],[])).1.length<=N):∀k,(atF P k).length<=k*N
 |0=>by simp[atF]
 |k+1=>by
  have h:=atF_len hP k
  have h1:=at1_len (m:=atF P k) (vs:=(P.getD k ([],[])).1) (c:=(k:Int)) (P.getD k ([],[])).1.length
  have h2:=hP k
  show(at1 _ _ _ _).length<=_
  rw[Nat.succ_mul];omega
theorem at1_look {m:List (Int×Int)}{vs:List Int}{c:Int}:∀ {k:Nat},k<=vs.length->∀x,lkI (at1 m vs c k) x=if x∈vs.take k then some c else lkI m x
 |0,_,x=>by simp[at1]
 |k+1,h,x=>by
  show lkI (ptI (at1 m vs c k) (vs.getD k 0) c) x=_
  rw[lkI_pt,at1_look (k:=k) (by omega),take_snoc (by omega) 0]
  by_cases q:vs.getD k 0=x
  .rw[if_pos q,if_pos (List.mem_append_right _ (by simp only[List.mem_singleton];exact q.symm))]
  rw[if_neg q]
  by_cases z:x∈vs.take k
  .rw[if_pos z,if_pos (List.mem_append_left _ z)]
  rw[if_neg z,if_neg]
  intro y
  rcases List.mem_append.1 y with y|y
  .exact z y
  exact q (List.mem_singleton.1 y).symm
structure PieOk (E:List (Int×Int))(V L:List Int)(P:PLs):Prop where
 len:P.length<=V.length
 bd:∀k,(P.getD k ([],[])).1.length<=V.length/\(P.getD k ([],[])).2.length<=L.length
 sub:∀k,∀v∈(P.getD k ([],[])).1,v∈V
 cov:∀v∈V,∃i,i<P.length/\v∈(P.getD i ([],[])).1
 uq:∀i j,i<P.length->j<P.length->∀v,v∈(P.getD i ([],[])).1->v∈(P.getD j ([],[])).1->i=j
theorem atF_look {E:List (Int×Int)}{V L:List Int}{P:PLs}(h:PieOk E V L P):∀ {k:Nat},k<=P.length->∀i,i<k->∀x∈(P.getD i ([],[])).1,lkI (atF P k) x=some (i:Int)
 |k+1,hk,i,hi,x,hx=>by
  show lkI (at1 (atF P k) (P.getD k ([],[])).1 (k:Int) (P.getD k ([],[])).1.length) x=_
  rw[at1_look (Nat.le_refl _),List.take_length]
  by_cases q:i=k
  .subst q;rw[if_pos hx]
  rw[if_neg fun z=>q (h.uq i k (by omega) (by omega) x hx z)]
  exact atF_look h (k:=k) (by omega) i (by omega) x hx
theorem atF_in {E:List (Int×Int)}{V L:List Int}{P:PLs}(h:PieOk E V L P){v:Int}(hv:v∈V):∃i:Nat,i<P.length/\v∈(P.getD i ([],[])).1/\lkI (atF P P.length) v=some (i:Int):=by
 obtain⟨i,hi,hx⟩:=h.cov v hv
 exact⟨i,hi,hx,atF_look h (Nat.le_refl _) i hi v hx⟩
theorem getD_out {α:Type}{l:List α}{k:Nat}{z:α}(h:l.length<=k):l.getD k z=z:=by
 rw[List.getD_eq_getElem?_getD,List.getElem?_eq_none h];rfl
theorem pieces_ok {n:Int}{E:List (Int×Int)}{V L:List Int}(hp:partE n E V L=0):PieOk E V L (piecesF E V L):=by
 obtain⟨hr,hV,hL,hok⟩:=partE_0 hp
 obtain⟨r1,r2,r3,r4⟩:=reps_ok (E:=E) (L:=L) V (verts_ne hV)
 rw[pieces_eq hp]
 have hlen:(piecesR E V L).length=(repsF E L V).length:=List.length_map ..
 have hget:∀k,k<(piecesR E V L).length->(piecesR E V L).getD k ([],[])=(clsV E L V ((repsF E L V).getD k 0),clsE E L ((repsF E L V).getD k 0)):=fun k hk=>map_getP (by omega) 0
 refine⟨?_,fun k=>?_,fun k v hv=>?_,fun v hv=>?_,fun i j hi hj v h1 h2=>?_⟩
 .rw[hlen];exact r3.length_le_of_subset r1
 .by_cases hk:k<(piecesR E V L).length
  .rw[hget k hk];exact⟨List.length_filter_le _ _,List.length_filter_le _ _⟩
  rw[getD_out (by omega)];exact⟨Nat.zero_le _,Nat.zero_le _⟩
 .by_cases hk:k<(piecesR E V L).length
  .rw[hget k hk] at hv;exact(mem_clsV.1 hv).1
  rw[getD_out (by omega)] at hv;cases hv
 .obtain⟨a,ha,hc⟩:=r2 v hv
  obtain⟨i,hi,rfl⟩:=mem_getDA (z:=0).1 ha
  exact⟨i,by omega,by rw[hget i (by omega)];exact mem_clsV.2 ⟨hv,hc⟩⟩
 rw[hget i hi] at h1
 rw[hget j hj] at h2
 have h1:=(mem_clsV.1 h1).2
 have h2:=(mem_clsV.1 h2).2
 exact getD_injA r3 (by omega) (by omega) (r4 _ (mem_getDA.2 ⟨i,by omega,rfl⟩) _ (mem_getDA.2 ⟨j,by omega,rfl⟩) ((Gr.Rch.trans h1 (Gr.Rch.symm h2))))
def pieG (n:Int)(E:List (Int×Int))(V L:List Int):PLs:=if partE n E V L≠0 then[] else piecesF E V L
theorem pieG_eq {n:Int}{E:List (Int×Int)}{V L:List Int}(hp:partE n E V L=0):pieG n E V L=piecesF E V L:=if_neg (by rw[hp];exact fun q=>q rfl)
theorem pieG_ok {n:Int}{E:List (Int×Int)}{V L:List Int}(hp:partE n E V L=0):PieOk E V L (pieG n E V L):=by rw[pieG_eq hp];exact pieces_ok hp
def cornE (E:List (Int×Int))(w:Int×List Int):Int:=if w.2.length=0 then -1-w.1 else tailE E w.1
theorem lnF_mem {V:List Int}{T:List (List Int)}:∀ {k:Nat},k<=V.length->∀w∈lnF V T k,w.2.length=0/\-1-w.1∈V
 |0,_,w,h=>by cases h
 |k+1,hk,w,h=>by
  unfold lnF at h
  split at h
  .rcases List.mem_append.1 h with h|h
   .exact lnF_mem (by omega) w h
   rw[List.mem_singleton.1 h]
   exact⟨rfl,by rw[show -1-(-1-V.getD (V.length-1-k) 0)=V.getD (V.length-1-k) 0 by omega];exact mem_getDA.2 ⟨_,by omega,rfl⟩⟩
  exact lnF_mem (by omega) w h
theorem orb_len {r:Option RotT}:∀ {k:Nat} {m:List (Int×Int)} {x:Int} {acc:List Int},acc.length<=(orbF r k m x acc).2.length/\(0<k->acc.length<(orbF r k m x acc).2.length)/\(orbF r k m x acc).2.length<=acc.length+k
 |0,m,x,acc=>⟨Nat.le_refl _,fun h=>(by omega),Nat.le_refl _⟩
 |k+1,m,x,acc=>by
  unfold orbF
  split
  .obtain⟨h1,_,h2⟩:=orb_len (r:=r) (k:=k) (m:=dlI m x) (x:=(besideF r (twinE x) (-1)).1) (acc:=acc++[x])
   rw[List.length_append,List.length_singleton] at h1 h2
   exact⟨by omega,fun _=>by omega,by omega⟩
  simp only[List.length_append,List.length_singleton]
  omega
theorem run_mem {r:Option RotT}{L:List Int}{ds:List Int}{out:List (Int×List Int)}(hd:∀d∈ds,isDart L d):∀ {k:Nat},k<=ds.length->∀w∈(runW r ds out k).2,w∈out\/(w.2.length≠0/\isDart L w.1)
 |0,_,w,h=>.inl h
 |k+1,hk,w,h=>by
  have ih:=run_mem (r:=r) (out:=out) hd (k:=k) (by omega)
  have h:w∈(stepW r (runW r ds out k) (ds.getD k 0)).2:=h
  unfold stepW at h
  split at h
  .rename_i hs
   rcases List.mem_append.1 h with h|h
   .exact ih w h
   rw[List.mem_singleton.1 h]
   refine .inr ⟨?_,hd _ (mem_getDA.2 ⟨k,by omega,rfl⟩)⟩
   have hpos:0<(runW r ds out k).1.length:=by
    cases hm:(runW r ds out k).1 with
    |nil=>rw[hm] at hs;cases hs
    |cons _ _=>simp
   have:=orb_len (r:=r) (k:=(runW r ds out k).1.length) (m:=(runW r ds out k).1) (x:=ds.getD k 0) (acc:=[])
   have:=this.2.1 hpos
   simp only[List.length_nil] at this
   show(orbF r _ _ _ []).2.length≠0
   omega
  exact ih w h
theorem run_len {r:Option RotT}{ds:List Int}{out:List (Int×List Int)}:∀k,(runW r ds out k).2.length<=out.length+k
 |0=>Nat.le_refl _
 |k+1=>by
  have ih:=run_len (r:=r) (ds:=ds) (out:=out) k
  show(stepW r (runW r ds out k) (ds.getD k 0)).2.length<=_
  unfold stepW
  split
  .rw[List.length_append,List.length_singleton];omega
  omega
theorem walks_0 {n:Int}{E:List (Int×Int)}{V L:List Int}{T:List (List Int)}:(walksF n E V L T).2=(newF n E V L T).2:=by
 unfold walksF
 split
 .rfl
 rename_i q
 have:(newF n E V L T).2=0:=Classical.byContradiction fun z=>q z
 rw[this]
structure WlkOk (E:List (Int×Int))(V L:List Int)(W:List (Int×List Int)):Prop where
 len:W.length<=V.length+2*L.length
 key:∀w∈W,(w.2.length=0/\-1-w.1∈V)\/(w.2.length≠0/\isDart L w.1)
theorem walks_ok {n:Int}{E:List (Int×Int)}{V L:List Int}{T:List (List Int)}(h:(walksF n E V L T).2=0):partE n E V L=0/\TurnsR n E L T/\WlkOk E V L (walksF n E V L T).1:=by
 rw[walks_0] at h
 obtain⟨h1,h2,h3⟩:=newF_0 h
 refine⟨h1,h2,?_⟩
 rw[walksF_ok h]
 have hl:=lnF_len V T V.length
 have hr:=run_len (r:=(newF n E V L T).1) (ds:=dsF L L.length) (out:=lnF V T V.length) (dsF L L.length).length
 have hd:=dsF_len L L.length
 refine⟨by show(runW _ _ _ _).2.length<=_;omega,fun w hw=>?_⟩
 rcases run_mem (fun d hd=>(dsF_all d).1 hd) (Nat.le_refl _) w hw with q|q
 .exact .inl (lnF_mem (Nat.le_refl _) w q)
 exact .inr q
theorem dart_tail {n:Int}{E:List (Int×Int)}{V L:List Int}(hp:partE n E V L=0){d:Int}(hd:isDart L d):tailE E d∈V/\0<=d/\d/2<(E.length:Int)/\d<=1000000:=by
 obtain⟨hr,hV,hL,hok⟩:=partE_0 hp
 obtain⟨r1,r2,r3,r4⟩:=rightE_0 hr
 have hb:=(rises_iff.1 hL).2 _ hd
 obtain⟨j,hj,e⟩:=mem_getD.1 hd
 obtain⟨ka,kb⟩:=part_ends (j:=(j:Int)) hp (by omega) (by omega)
 rw[Int.toNat_natCast,e] at ka kb
 refine⟨?_,by omega,by omega,by omega⟩
 unfold tailE
 split
 .exact ka
 exact kb
theorem corn_in {n:Int}{E:List (Int×Int)}{V L:List Int}(hp:partE n E V L=0){W:List (Int×List Int)}(h:WlkOk E V L W){w:Int×List Int}(hw:w∈W):cornE E w∈V:=by
 unfold cornE
 rcases h.key w hw with⟨q,z⟩|⟨q,z⟩
 .rw[if_pos q];exact z
 rw[if_neg q];exact(dart_tail hp z).1
theorem key_b {n:Int}{E:List (Int×Int)}{V L:List Int}(hp:partE n E V L=0){W:List (Int×List Int)}(h:WlkOk E V L W){w:Int×List Int}(hw:w∈W): -1024<=w.1/\w.1<=1000000:=by
 obtain⟨hr,hV,hL,hok⟩:=partE_0 hp
 obtain⟨r1,r2,r3,r4⟩:=rightE_0 hr
 rcases h.key w hw with⟨q,z⟩|⟨q,z⟩
 .have:=(rises_iff.1 hV).2 _ z;omega
 have:=dart_tail hp z;omega
def facF (E:List (Int×Int))(P:PLs)(W:List (Int×List Int)):Nat->List Int
 |0=>List.replicate P.length 0
 |k+1=>(facF E P W k).set ((lkI (atF P P.length) (cornE E (W.getD k (0,[])))).getD 0).toNat ((facF E P W k).getD ((lkI (atF P P.length) (cornE E (W.getD k (0,[])))).getD 0).toNat 0+1)
theorem fac_len {E:List (Int×Int)}{P:PLs}{W:List (Int×List Int)}:∀k,(facF E P W k).length=P.length
 |0=>List.length_replicate
 |k+1=>by unfold facF;rw[List.length_set];exact fac_len k
theorem fac_b {E:List (Int×Int)}{P:PLs}{W:List (Int×List Int)}:∀k j,0<=(facF E P W k).getD j 0/\(facF E P W k).getD j 0<=(k:Int)
 |0,j=>by
  unfold facF
  rw[List.getD_eq_getElem?_getD,List.getElem?_replicate]
  split<;>simp
 |k+1,j=>by
  have h1:=fac_b (E:=E) (P:=P) (W:=W) k
  unfold facF
  rw[List.getD_eq_getElem?_getD,List.getElem?_set]
  split
  .split
   .have:=h1 ((lkI (atF P P.length) (cornE E (W.getD k (0,[])))).getD 0).toNat
    simp only[Option.getD_some]
    omega
   simp only[Option.getD_none];omega
  have:=h1 j
  rw[List.getD_eq_getElem?_getD] at this
  omega
theorem facF_snoc {E:List (Int×Int)}{P:PLs}{W:List (Int×List Int)}{i:Int}(h:0<=i):facF E P W (i+1).toNat=(facF E P W i.toNat).set ((lkI (atF P P.length) (cornE E (W.getD i.toNat (0,[])))).getD 0).toNat ((facF E P W i.toNat).getD ((lkI (atF P P.length) (cornE E (W.getD i.toNat (0,[])))).getD 0).toNat 0+1):=by
 rw[show(i+1).toNat=i.toNat+1 by omega];rfl
def genF (P:PLs)(fs:List Int):Nat->List Int
 |0=>[]
 |k+1=>genF P fs k++[Int.tdiv (2-((P.getD k ([],[])).1.length:Int)+((P.getD k ([],[])).2.length:Int)-fs.getD k 0) 2]
theorem gen_len {P:PLs}{fs:List Int}:∀k,(genF P fs k).length=k
 |0=>rfl
 |k+1=>by unfold genF;rw[List.length_append,gen_len k];rfl
theorem genF_snoc {P:PLs}{fs:List Int}{i:Int}(h:0<=i):genF P fs (i+1).toNat=genF P fs i.toNat++[Int.tdiv (2-((P.getD i.toNat ([],[])).1.length:Int)+((P.getD i.toNat ([],[])).2.length:Int)-fs.getD i.toNat 0) 2]:=by
 rw[show(i+1).toNat=i.toNat+1 by omega];rfl
def genusF (n:Int)(E:List (Int×Int))(V L:List Int)(T:List (List Int)):List Int×Int:=
 if(walksF n E V L T).2≠0 then([],(walksF n E V L T).2) else(genF (pieG n E V L) (facF E (pieG n E V L) (walksF n E V L T).1 (walksF n E V L T).1.length) (pieG n E V L).length,0)
def flatF (n:Int)(E:List (Int×Int))(V L:List Int)(T:List (List Int)):Int:=
 if(genusF n E V L T).2≠0 then(genusF n E V L T).2 else if(genusF n E V L T).1.all (fun g=>decide (g=0)) then 0 else 6
theorem genus_0 {n:Int}{E:List (Int×Int)}{V L:List Int}{T:List (List Int)}:(genusF n E V L T).2=(newF n E V L T).2:=by
 unfold genusF
 split
 .exact walks_0
 rename_i q
 rw[<-walks_0]
 exact(Classical.not_not.1 q).symm
theorem genus_len {n:Int}{E:List (Int×Int)}{V L:List Int}{T:List (List Int)}(h:(genusF n E V L T).2=0):(genusF n E V L T).1.length<=V.length:=by
 rw[genus_0,<-walks_0] at h
 obtain⟨hp,_,_⟩:=walks_ok h
 unfold genusF
 rw[if_neg (by rw[h];exact fun q=>q rfl)]
 show(genF _ _ _).length<=_
 rw[gen_len]
 exact(pieG_ok hp).len
theorem genus_vlen {n:Int}{E:List (Int×Int)}{V L:List Int}{T:List (List Int)}(h:(genusF n E V L T).2=0):V.length<=1024:=by
 rw[genus_0,<-walks_0] at h
 obtain⟨hp,_,_⟩:=walks_ok h
 obtain⟨hr,hV,hL,hok⟩:=partE_0 hp
 obtain⟨r1,r2,r3,r4⟩:=rightE_0 hr
 have:=rises_len hV r1
 omega
theorem flat_bad {n:Int}{E:List (Int×Int)}{V L:List Int}{T:List (List Int)}{i:Int}(h:(genusF n E V L T).2=0)(h0:0<=i)(h1:i<((genusF n E V L T).1.length:Int))(h2:¬(genusF n E V L T).1.getD i.toNat 0=0):flatF n E V L T=6:=by
 unfold flatF
 rw[if_neg (by rw[h];exact fun q=>q rfl),if_neg]
 intro q
 exact h2 (of_decide_eq_true (List.all_eq_true.1 q _ (mem_getDA.2 ⟨i.toNat,by omega,rfl⟩)))
theorem flat_ok {n:Int}{E:List (Int×Int)}{V L:List Int}{T:List (List Int)}(h:(genusF n E V L T).2=0)(h1:∀j,j<(genusF n E V L T).1.length->(genusF n E V L T).1.getD j 0=0):flatF n E V L T=0:=by
 unfold flatF
 rw[if_neg (by rw[h];exact fun q=>q rfl),if_pos]
 rw[List.all_eq_true]
 intro x hx
 obtain⟨j,hj,rfl⟩:=mem_getDA (z:=0).1 hx
 exact decide_eq_true (h1 j hj)
def ownF (E:List (Int×Int))(P:PLs)(W:List (Int×List Int)):Nat->List (Int×Int)
 |0=>[]
 |k+1=>ptI (ownF E P W k) (W.getD k (0,[])).1 ((lkI (atF P P.length) (cornE E (W.getD k (0,[])))).getD 0)
theorem ownF_snoc {E:List (Int×Int)}{P:PLs}{W:List (Int×List Int)}{i:Int}(h:0<=i):ownF E P W (i+1).toNat=ptI (ownF E P W i.toNat) (W.getD i.toNat (0,[])).1 ((lkI (atF P P.length) (cornE E (W.getD i.toNat (0,[])))).getD 0):=by
 rw[show(i+1).toNat=i.toNat+1 by omega];rfl
theorem own_len {E:List (Int×Int)}{P:PLs}{W:List (Int×List Int)}:∀k,(ownF E P W k).length<=k
 |0=>Nat.le_refl _
 |k+1=>by
  have:=own_len (E:=E) (P:=P) (W:=W) k
  have:=ptI_len (ownF E P W k) (W.getD k (0,[])).1 ((lkI (atF P P.length) (cornE E (W.getD k (0,[])))).getD 0)
  show(ptI _ _ _).length<=_
  omega
def addN:Nat->S4
 |0=>([],[],[],0)
 |k+1=>addS (addN k) (k:Int)
theorem addN_snoc {i:Int}(h:0<=i):addN (i+1).toNat=addS (addN i.toNat) i:=by
 rw[show(i+1).toNat=i.toNat+1 by omega]
 show addS _ ((i.toNat:Nat):Int)=_
 rw[Int.toNat_of_nonneg h]
theorem addN_ok:∀k,SOk (addN k)/\(addN k).2.1.length=k/\(∀x,(lkI (addN k).1 x).isSome=true↔0<=x/\x<(k:Int))/\∀a b,Rl (addN k) a b↔0<=a/\a<(k:Int)/\a=b
 |0=>⟨SOk.nil,rfl,fun x=>⟨(fun h=>by cases h),fun h=>by omega⟩,fun a b=>⟨(fun⟨i,_,h,_⟩=>by cases h),fun h=>by omega⟩⟩
 |k+1=>by
  obtain⟨h1,h2,h3,h4⟩:=addN_ok k
  obtain⟨k1,k2⟩:=h1.add (k:Int)
  have hn:lkI (addN k).1 (k:Int)=none:=by
   cases hq:lkI (addN k).1 (k:Int) with
   |none=>rfl
   |some _=>have:=(h3 (k:Int)).1 (by rw[hq];rfl);omega
  refine⟨k1,?_,fun x=>?_,fun a b=>?_⟩
  .show(putL (addN k).1 (addN k).2.1 (k:Int)).length=_
   unfold putL;rw[hn];simp[h2]
  .show(lkI (putM (addN k).1 (addN k).2.1 (k:Int)) x).isSome=true↔_
   unfold putM;rw[hn]
   simp only[Option.isSome_none,Bool.false_eq_true,if_false]
   rw[lkI_pt]
   split
   .exact⟨fun _=>by omega,fun _=>rfl⟩
   rw[h3];omega
  show Rl (addS (addN k) (k:Int)) a b↔_
  rw[k2,h4]
  omega
def keyS (ow:MII)(l:List Int)(i:Int)(s:S4×MII)(k:Nat):Option (S4×MII):=
 if(lkI ow (l.getD k 0)).isSome=false\/(lkI s.2 (l.getD k 0)).isSome=true\/(0<k/\l.getD k 0<=l.getD (k-1) 0) then none
 else if k=0 then some (s.1,ptI s.2 (l.getD k 0) i)
 else if jnT s.1 ((lkI ow (l.getD 0 0)).getD 0) ((lkI ow (l.getD k 0)).getD 0)=true then some (jnS s.1 ((lkI ow (l.getD 0 0)).getD 0) ((lkI ow (l.getD k 0)).getD 0),ptI s.2 (l.getD k 0) i) else none
def runK (ow:MII)(l:List Int)(i:Int)(s:S4×MII):Nat->Option (S4×MII)
 |0=>some s
 |k+1=>(runK ow l i s k).bind fun z=>keyS ow l i z k
def lstS (ow:MII)(S:List (List Int))(s:S4×MII)(i:Nat):Option (S4×MII):=
 if(S.getD i []).length<2\/(0<i/\(S.getD i []).getD 0 0<=(S.getD (i-1) []).getD 0 0) then none else runK ow (S.getD i []) (i:Int) s (S.getD i []).length
def runS (ow:MII)(S:List (List Int))(N:Nat):Nat->Option (S4×MII)
 |0=>some (addN N,[])
 |i+1=>(runS ow S N i).bind fun s=>lstS ow S s i
def planR (n:Int)(E:List (Int×Int))(V L:List Int)(T S:List (List Int)):Int:=
 if flatF n E V L T≠0 then flatF n E V L T
 else match runS (ownF E (pieG n E V L) (walksF n E V L T).1 (walksF n E V L T).1.length) S (pieG n E V L).length S.length with
  |none=>7
  |some s=>if 1<s.1.2.2.2 then 7 else 0
structure OwOk (ow:MII)(N:Nat):Prop where
 v:∀x c,lkI ow x=some c->0<=c/\c<(N:Int)
 len:ow.length<=100000
structure RtI (ow:MII)(N:Nat)(s:S4×MII):Prop where
 ok:SOk s.1
 len:s.1.2.1.length=N
 all:∀x,0<=x->x<(N:Int)->(lkI s.1.1 x).isSome=true
 kn:KN s.2
 sub:∀x,(lkI s.2 x).isSome=true->(lkI ow x).isSome=true
section
variable {ow:MII}{N:Nat}{s:S4×MII}{l:List Int}{S:List (List Int)}
theorem RtI.start:RtI ow N (addN N,[]):=by
 obtain⟨h1,h2,h3,_⟩:=addN_ok N
 exact⟨h1,h2,fun x h h'=>(h3 x).2 ⟨h,h'⟩,kn_nil,fun x h=>by cases h⟩
theorem RtI.mlen (h:RtI ow N s)(ho:OwOk ow N):s.2.length<=100000:=by
 have:=h.kn.length_le_of_subset (l₂:=ow.map (·.1)) fun x hx=>mem_keys.2 (h.sub x (mem_keys.1 hx))
 rw[List.length_map,List.length_map] at this
 exact Nat.le_trans this ho.len
theorem putL_in {M:MII}{L:List Int}{x:Int}(h:(lkI M x).isSome=true):putL M L x=L:=if_pos h
theorem putM_in {M:MII}{L:List Int}{x:Int}(h:(lkI M x).isSome=true):putM M L x=M:=if_pos h
theorem RtI.jn (h:RtI ow N s){x y:Int}(x0:0<=x)(x1:x<(N:Int))(y0:0<=y)(y1:y<(N:Int)):SOk (jnS s.1 x y)/\(jnS s.1 x y).2.1.length=N/\(jnS s.1 x y).1=s.1.1:=by
 have hx:=h.all x x0 x1
 have hy:=h.all y y0 y1
 have e1:(jnS s.1 x y).1=s.1.1:=by
  show putM (putM s.1.1 s.1.2.1 x) (putL s.1.1 s.1.2.1 x) y=_
  rw[putM_in hx,putM_in hy]
 have e2:(jnS s.1 x y).2.1=s.1.2.1:=by
  show putL (putM s.1.1 s.1.2.1 x) (putL s.1.1 s.1.2.1 x) y=_
  rw[putM_in hx,putL_in hx,putL_in hy]
 exact⟨(h.ok.jn x y).1,by rw[e2];exact h.len,e1⟩
theorem RtI.met (h:RtI ow N s){x i:Int}(hx:(lkI ow x).isSome=true):RtI ow N (s.1,ptI s.2 x i):=
 ⟨h.ok,h.len,h.all,kn_pt h.kn _ _,fun z hz=>by
  have hz:(lkI (ptI s.2 x i) z).isSome=true:=hz
  rw[lkI_pt] at hz
  split at hz
  .rename_i e;rw[<-e];exact hx
  exact h.sub z hz⟩
theorem keyS_ok (ho:OwOk ow N){i:Int}{k:Nat}(hl:0<k->(lkI ow (l.getD 0 0)).isSome=true){z:S4×MII}(h:RtI ow N s)(e:keyS ow l i s k=some z):RtI ow N z:=by
 unfold keyS at e
 split at e
 .cases e
 rename_i q
 have hx:(lkI ow (l.getD k 0)).isSome=true:=by
  cases hq:(lkI ow (l.getD k 0)).isSome with
  |true=>rfl
  |false=>exact(q (.inl hq)).elim
 split at e
 .cases e;exact h.met hx
 rename_i hk0
 split at e
 .cases e
  obtain⟨c0,hc0⟩:=Option.isSome_iff_exists.1 (hl (by omega))
  obtain⟨c1,hc1⟩:=Option.isSome_iff_exists.1 hx
  have b0:=ho.v _ _ hc0
  have b1:=ho.v _ _ hc1
  have hj:=h.jn b0.1 b0.2 b1.1 b1.2
  rw[hc0,hc1]
  have h':RtI ow N (jnS s.1 c0 c1,s.2):=⟨hj.1,hj.2.1,fun x h0 h1=>by show(lkI (jnS s.1 c0 c1).1 x).isSome=true;rw[hj.2.2];exact h.all x h0 h1,h.kn,h.sub⟩
  exact h'.met hx
 cases e
theorem runK_none {i:Int}{k:Nat}(h:runK ow l i s k=none):∀ {m:Nat},k<=m->runK ow l i s m=none
 |0,hm=>by rw[show k=0 by omega] at h;exact h
 |m+1,hm=>by
  by_cases q:k=m+1
  .rw[<-q];exact h
  show(runK ow l i s m).bind _=none
  rw[runK_none h (m:=m) (by omega)];rfl
theorem runS_none {k:Nat}(h:runS ow S N k=none):∀ {m:Nat},k<=m->runS ow S N m=none
 |0,hm=>by rw[show k=0 by omega] at h;exact h
 |m+1,hm=>by
  by_cases q:k=m+1
  .rw[<-q];exact h
  show(runS ow S N m).bind _=none
  rw[runS_none h (m:=m) (by omega)];rfl
theorem runK_first {i:Int}:∀ {k:Nat} {z:S4×MII},0<k->runK ow l i s k=some z->(lkI ow (l.getD 0 0)).isSome=true
 |1,z,_,h=>by
  have h:(some s).bind (fun z=>keyS ow l i z 0)=some z:=h
  have h:keyS ow l i s 0=some z:=h
  unfold keyS at h
  split at h
  .cases h
  rename_i q
  cases hq:(lkI ow (l.getD 0 0)).isSome with
  |true=>rfl
  |false=>exact(q (.inl hq)).elim
 |k+2,z,_,h=>by
  have h:(runK ow l i s (k+1)).bind (fun z=>keyS ow l i z (k+1))=some z:=h
  cases hq:runK ow l i s (k+1) with
  |none=>rw[hq] at h;cases h
  |some y=>exact runK_first (k:=k+1) (by omega) hq
theorem runK_step {i:Int}{k:Int}{z:S4×MII}(h0:0<=k)(h:runK ow l i s k.toNat=some z):runK ow l i s (k+1).toNat=keyS ow l i z k.toNat:=by
 rw[show(k+1).toNat=k.toNat+1 by omega]
 show(runK ow l i s k.toNat).bind _=_
 rw[h];rfl
theorem runS_step {i:Int}{z:S4×MII}(h0:0<=i)(h:runS ow S N i.toNat=some z):runS ow S N (i+1).toNat=lstS ow S z i.toNat:=by
 rw[show(i+1).toNat=i.toNat+1 by omega]
 show(runS ow S N i.toNat).bind _=_
 rw[h];rfl
theorem runS_bad {i:Int}{z:S4×MII}(h0:0<=i)(hi:i<(S.length:Int))(h:runS ow S N i.toNat=some z)(hb:lstS ow S z i.toNat=none):runS ow S N S.length=none:=
 runS_none (k:=(i+1).toNat) (by rw[runS_step h0 h];exact hb) (by omega)
theorem lstS_head {i:Int}{z:S4×MII}(h0:0<=i)(h:((S.getD i.toNat []).length:Int)<2\/(0<i/\(S.getD i.toNat []).getD 0 0<=(S.getD (i-1).toNat []).getD 0 0)):lstS ow S z i.toNat=none:=by
 unfold lstS
 rw[if_pos]
 rcases h with h|⟨h1,h2⟩
 .exact .inl (by omega)
 exact .inr ⟨by omega,by rw[show i.toNat-1=(i-1).toNat by omega];exact h2⟩
theorem lstS_go {i:Int}{z:S4×MII}(h0:0<=i)(h:¬(((S.getD i.toNat []).length:Int)<2)/\(¬(0<i)\/¬((S.getD i.toNat []).getD 0 0<=(S.getD (i-1).toNat []).getD 0 0))):lstS ow S z i.toNat=runK ow (S.getD i.toNat []) i z (S.getD i.toNat []).length:=by
 unfold lstS
 rw[if_neg,Int.toNat_of_nonneg h0]
 rintro(q|⟨q1,q2⟩)
 .exact h.1 (by omega)
 rw[show i.toNat-1=(i-1).toNat by omega] at q2
 exact h.2.elim (fun z=>z (by omega)) fun z=>z q2
theorem keyS_bad {i k:Int}{z:S4×MII}(h0:0<=k)(h:((lkI ow (l.getD k.toNat 0)).isSome=false\/(lkI z.2 (l.getD k.toNat 0)).isSome=true)\/(0<k/\l.getD k.toNat 0<=l.getD (k-1).toNat 0)):keyS ow l i z k.toNat=none:=by
 unfold keyS
 rw[if_pos]
 rcases h with(h|h)|⟨h1,h2⟩
 .exact .inl h
 .exact .inr (.inl h)
 exact .inr (.inr ⟨by omega,by rw[show k.toNat-1=(k-1).toNat by omega];exact h2⟩)
theorem keyS_good {i k:Int}{z:S4×MII}(h0:0<=k)(h:((lkI ow (l.getD k.toNat 0)).isSome=true/\(lkI z.2 (l.getD k.toNat 0)).isSome=false)/\(¬(0<k)\/¬(l.getD k.toNat 0<=l.getD (k-1).toNat 0))):
  keyS ow l i z k.toNat=if k=0 then some (z.1,ptI z.2 (l.getD k.toNat 0) i) else if jnT z.1 ((lkI ow (l.getD 0 0)).getD 0) ((lkI ow (l.getD k.toNat 0)).getD 0)=true then some (jnS z.1 ((lkI ow (l.getD 0 0)).getD 0) ((lkI ow (l.getD k.toNat 0)).getD 0),ptI z.2 (l.getD k.toNat 0) i) else none:=by
 unfold keyS
 rw[if_neg]
 .by_cases q:k=0
  .rw[if_pos (by omega),if_pos q]
  rw[if_neg (by omega),if_neg q]
 rintro(q|q|⟨q1,q2⟩)
 .rw[h.1.1] at q;cases q
 .rw[h.1.2] at q;cases q
 rw[show k.toNat-1=(k-1).toNat by omega] at q2
 exact h.2.elim (fun z=>z (by omega)) fun z=>z q2
end
theorem own_ok {n:Int}{E:List (Int×Int)}{V L:List Int}{P:PLs}{W:List (Int×List Int)}(hp:partE n E V L=0)(hP:PieOk E V L P)(hW:WlkOk E V L W):∀ {k:Nat},k<=W.length->∀x c,lkI (ownF E P W k) x=some c->0<=c/\c<(P.length:Int)
 |0,_,x,c,h=>by cases h
 |k+1,hk,x,c,h=>by
  have h:lkI (ptI (ownF E P W k) (W.getD k (0,[])).1 ((lkI (atF P P.length) (cornE E (W.getD k (0,[])))).getD 0)) x=some c:=h
  rw[lkI_pt] at h
  split at h
  .have hm:W.getD k (0,[])∈W:=mem_getDA.2 ⟨k,by omega,rfl⟩
   obtain⟨i,hi,_,e⟩:=atF_in hP (corn_in hp hW hm)
   rw[e] at h
   have h:(i:Int)=c:=by injection h
   omega
  exact own_ok hp hP hW (k:=k) (by omega) x c h
theorem OwOk.at_ {ow:MII}{N:Nat}(h:OwOk ow N){x:Int}(hx:(lkI ow x).isSome=true):0<=(lkI ow x).getD 0/\(lkI ow x).getD 0<(N:Int):=by
 obtain⟨c,hc⟩:=Option.isSome_iff_exists.1 hx
 rw[hc];exact h.v _ _ hc
theorem runS_len {ow:MII}{S:List (List Int)}{N:Nat}:∀ {i:Nat} {z:S4×MII},runS ow S N i=some z->∀j,j<i->2<=(S.getD j []).length
 |0,z,_,j,hj=>by omega
 |i+1,z,h,j,hj=>by
  have h:(runS ow S N i).bind (fun s=>lstS ow S s i)=some z:=h
  cases hq:runS ow S N i with
  |none=>rw[hq] at h;cases h
  |some y=>
   by_cases e:j=i
   .subst e
    rw[hq] at h
    have h:lstS ow S y j=some z:=h
    unfold lstS at h
    split at h
    .cases h
    rename_i q
    exact Nat.le_of_not_lt fun z=>q (.inl z)
   exact runS_len hq j (by omega)
theorem corn_dom {n:Int}{E:List (Int×Int)}{V L:List Int}(hp:partE n E V L=0){W:List (Int×List Int)}(h:WlkOk E V L W){w:Int×List Int}(hw:w∈W):(w.2.length=0/\-1<=-1-w.1/\-1-w.1<=1000000)\/(w.2.length≠0/\0<=w.1/\w.1/2<(E.length:Int)/\w.1<=1000000):=by
 obtain⟨hr,hV,hL,hok⟩:=partE_0 hp
 obtain⟨r1,r2,r3,r4⟩:=rightE_0 hr
 rcases h.key w hw with⟨q,z⟩|⟨q,z⟩
 .have:=(rises_iff.1 hV).2 _ z
  exact .inl ⟨q,by omega,by omega⟩
 have:=dart_tail hp z
 exact .inr ⟨q,by omega,by omega,by omega⟩
theorem flat_walks {n:Int}{E:List (Int×Int)}{V L:List Int}{T:List (List Int)}(h:flatF n E V L T=0):(walksF n E V L T).2=0:=by
 rw[walks_0,<-genus_0 (V:=V)]
 unfold flatF at h
 split at h
 .exact h
 rename_i q;exact Classical.not_not.1 q
section
variable {n:Int}{E:List (Int×Int)}{V L:List Int}{T S:List (List Int)}
theorem planR_flat (h:flatF n E V L T≠0):planR n E V L T S=flatF n E V L T:=if_pos h
theorem planR_none (h:flatF n E V L T=0)(hb:runS (ownF E (pieG n E V L) (walksF n E V L T).1 (walksF n E V L T).1.length) S (pieG n E V L).length S.length=none):planR n E V L T S=7:=by
 unfold planR;rw[if_neg (fun q=>q h),hb]
theorem planR_some {s:S4×MII}(h:flatF n E V L T=0)(hb:runS (ownF E (pieG n E V L) (walksF n E V L T).1 (walksF n E V L T).1.length) S (pieG n E V L).length S.length=some s):planR n E V L T S=if 1<s.1.2.2.2 then 7 else 0:=by
 unfold planR;rw[if_neg (fun q=>q h),hb]
end
abbrev LnD:Type:=ByteArray×(Int×(Int×Int))
abbrev ln0:LnD:=(⟨#[]⟩,(0,(0,0)))
def edE (E:List LnD):List (Int×Int):=E.map fun l=>(l.2.1,l.2.2.1)
abbrev CaseD:Type:=(Int×List (Int×Int))×((List Int×List Int)×(List (List Int)×List (List Int)))
abbrev case0:CaseD:=((0,[]),(([],[]),([],[])))
def allCs (E:List LnD):Prop:=∀j:Nat,(j:Int)<(E.length:Int)->(E.getD j ln0).2.2.2=0
noncomputable def caseF (K:Int) (W:List ByteArray) (E:List LnD) (V L:List Int) (T S:List (List Int)):CaseD×Int:=
 open Classical in if K=0 then if allCs E then((((W.length:Int),edE E),((V,L),(T,S))),0) else(case0,1) else(case0,16)
theorem tk_step {α:Type}{E:List α}{d:α}{i:Int}(h0:0<=i)(h1:i<(E.length:Int)):E.take (i+1).toNat=E.take i.toNat++[E.getD i.toNat d]:=by
 rw[show(i+1).toNat=i.toNat+1 by omega,List.take_add_one,List.getD_eq_getElem?_getD,List.getElem?_eq_getElem (show i.toNat<E.length by omega)];rfl
theorem edE_take {E:List LnD}{i:Int}(h0:0<=i)(h1:i<(E.length:Int)):edE (E.take (i+1).toNat)=edE (E.take i.toNat)++[((E.getD i.toNat ln0).2.1,(E.getD i.toNat ln0).2.2.1)]:=by
 rw[tk_step (d:=ln0) h0 h1];unfold edE;rw[List.map_append];rfl
abbrev PairS:Type:=List (Int×Int)×(List (Int×Int)×List Int)
def pStep (z:PairS)(l:LnD):PairS:=
 if l.2.2.2=0 then(z.1++[(l.2.1,l.2.2.1)],(z.2.1++[(l.2.1,l.2.2.1)],z.2.2++[(z.2.1.length:Int)]))
 else if l.2.2.2=1 then(z.1++[(l.2.1,l.2.2.1)],(z.2.1,z.2.2++[-1])) else(z.1,(z.2.1++[(l.2.1,l.2.2.1)],z.2.2))
def pGo (E:List LnD):PairS:=E.foldl pStep ([],([],[]))
theorem pGo_take {E:List LnD}{i:Int}(h0:0<=i)(h1:i<(E.length:Int)):pGo (E.take (i+1).toNat)=pStep (pGo (E.take i.toNat)) (E.getD i.toNat ln0):=by
 rw[tk_step (d:=ln0) h0 h1];unfold pGo;rw[List.foldl_append];rfl
theorem pGo_len (E:List LnD):(pGo E).1.length<=E.length/\(pGo E).2.1.length<=E.length/\(pGo E).2.2.length<=E.length:=by
 have key:∀(E:List LnD) (z:PairS),(E.foldl pStep z).1.length<=z.1.length+E.length/\(E.foldl pStep z).2.1.length<=z.2.1.length+E.length/\(E.foldl pStep z).2.2.length<=z.2.2.length+E.length:=by
  intro E
  induction E with
  |nil=>intro z;simp
  |cons l E ih=>
   intro z
   obtain⟨a,b,c⟩:=ih (pStep z l)
   have:(pStep z l).1.length<=z.1.length+1/\(pStep z l).2.1.length<=z.2.1.length+1/\(pStep z l).2.2.length<=z.2.2.length+1:=by
    unfold pStep;split
    .simp
    split<;>simp
   simp only[List.foldl_cons,List.length_cons]
   omega
 have:=key E ([],([],[]))
 simpa[pGo] using this
def okIn (x:Int):Prop:=0<=x/\x<=2
def allPi (E:List LnD):Prop:=∀j:Nat,(j:Int)<(E.length:Int)->okIn (E.getD j ln0).2.2.2
abbrev PairD:Type:=(Int×List (Int×Int))×((Int×List (Int×Int))×List Int)
abbrev pair0:PairD:=((0,[]),((0,[]),[]))
noncomputable def pairF (K:Int) (W:List ByteArray) (E:List LnD) (V L:List Int) (T S:List (List Int)):PairD×Int:=
 open Classical in if K=1 then if(V.length:Int)+L.length+T.length+S.length>0 then(pair0,1) else
  if allPi E then((((W.length:Int),(pGo E).1),(((W.length:Int),(pGo E).2.1),(pGo E).2.2)),0) else(pair0,1) else(pair0,16)
theorem caseF_kind {K:Int}{W:List ByteArray}{E:List LnD}{V L:List Int}{T S:List (List Int)}(h:¬K=0):caseF K W E V L T S=(case0,16):=by unfold caseF;rw[if_neg h]
theorem caseF_in {K:Int}{W:List ByteArray}{E:List LnD}{V L:List Int}{T S:List (List Int)}{i:Int}(h:K=0)(h0:0<=i)(h1:i<(E.length:Int))(h2:¬(E.getD i.toNat ln0).2.2.2=0):caseF K W E V L T S=(case0,1):=by
 unfold caseF;rw[if_pos h,if_neg (fun z=>h2 (z i.toNat (by omega)))]
theorem caseF_ok {K:Int}{W:List ByteArray}{E:List LnD}{V L:List Int}{T S:List (List Int)}{i:Int}(h:K=0)(h1:¬i<(E.length:Int))(h2:∀j:Nat,(j:Int)<i->(E.getD j ln0).2.2.2=0):caseF K W E V L T S=((((W.length:Int),edE E),((V,L),(T,S))),0):=by
 unfold caseF;rw[if_pos h,if_pos (show allCs E from fun j hj=>h2 j (by omega))]
theorem tk_all {α:Type}{E:List α}{i:Int}(h:¬i<(E.length:Int)):E.take i.toNat=E:=List.take_of_length_le (by omega)
def lsGo (l:List (List Int))(k:Nat):List (List Int):=l.take k++List.replicate (l.length-k) []
theorem lsGo_0 (l:List (List Int)):List.replicate ((l.length:Int)).toNat []=lsGo l ((0:Int)).toNat:=by simp[lsGo]
theorem lsGo_len {l:List (List Int)}{i:Int}(h0:0<=i)(h:i<=(l.length:Int)):(lsGo l i.toNat).length=l.length:=by simp[lsGo];omega
theorem lsGo_set {l:List (List Int)}{i:Int}(h0:0<=i)(h:i<(l.length:Int)):(lsGo l i.toNat).set i.toNat (l.getD i.toNat [])=lsGo l (i+1).toNat:=by
 have hi:i.toNat<l.length:=by omega
 unfold lsGo
 rw[tk_step (d:=[]) h0 h,List.set_append,if_neg (by rw[List.length_take];omega),List.length_take,Nat.min_eq_left (by omega),Nat.sub_self,show l.length-i.toNat=(l.length-(i+1).toNat)+1 by omega,List.replicate_succ,List.set_cons_zero]
 simp
theorem lsGo_all {l:List (List Int)}{i:Int}(h:¬i<(l.length:Int)):lsGo l i.toNat=l:=by
 unfold lsGo;rw[List.take_of_length_le (by omega),show l.length-i.toNat=0 by omega];simp
theorem pStep_0 {z:PairS}{l:LnD}(h:l.2.2.2=0):pStep z l=(z.1++[(l.2.1,l.2.2.1)],(z.2.1++[(l.2.1,l.2.2.1)],z.2.2++[(z.2.1.length:Int)])):=if_pos h
theorem pStep_1 {z:PairS}{l:LnD}(h:l.2.2.2=1):pStep z l=(z.1++[(l.2.1,l.2.2.1)],(z.2.1,z.2.2++[-1])):=by unfold pStep;rw[if_neg (by omega),if_pos h]
theorem pStep_2 {z:PairS}{l:LnD}(h0:¬l.2.2.2=0)(h1:¬l.2.2.2=1):pStep z l=(z.1,(z.2.1++[(l.2.1,l.2.2.1)],z.2.2)):=by unfold pStep;rw[if_neg h0,if_neg h1]
theorem pGo_lenT (E:List LnD)(i:Int):(pGo (E.take i.toNat)).1.length<=E.length/\(pGo (E.take i.toNat)).2.1.length<=E.length/\(pGo (E.take i.toNat)).2.2.length<=E.length:=by
 have h:=pGo_len (E.take i.toNat)
 have:(E.take i.toNat).length<=E.length:=by rw[List.length_take];omega
 omega
theorem set_last (l:List Int)(x b:Int):(l++[x]).set (((l++[x]).length:Int)-1).toNat b=l++[b]:=by
 rw[show(((l++[x]).length:Int)-1).toNat=l.length by simp,List.set_append,if_neg (by omega),Nat.sub_self];rfl
section
variable {K:Int}{W:List ByteArray}{E:List LnD}{V L:List Int}{T S:List (List Int)}{i:Int}
theorem pairF_kind (h:¬K=1):pairF K W E V L T S=(pair0,16):=by unfold pairF;rw[if_neg h]
theorem pairF_held (h:K=1)(h1:0<(V.length:Int)+(L.length:Int)+(T.length:Int)+(S.length:Int)):pairF K W E V L T S=(pair0,1):=by unfold pairF;rw[if_pos h,if_pos h1]
theorem pairF_in (h:K=1)(h0:0<=i)(h1:i<(E.length:Int))(h2:¬okIn (E.getD i.toNat ln0).2.2.2):pairF K W E V L T S=(pair0,1):=by
 unfold pairF;rw[if_pos h]
 split
 .rfl
 rw[if_neg (fun z=>h2 (z i.toNat (by omega)))]
theorem pairF_ok (h:K=1)(h1:¬0<(V.length:Int)+(L.length:Int)+(T.length:Int)+(S.length:Int))(h2:¬i<(E.length:Int))(h3:∀j:Nat,(j:Int)<i->okIn (E.getD j ln0).2.2.2):pairF K W E V L T S=((((W.length:Int),(pGo E).1),(((W.length:Int),(pGo E).2.1),(pGo E).2.2)),0):=by
 unfold pairF;rw[if_pos h,if_neg h1,if_pos (show allPi E from fun j hj=>h3 j (by omega))]
end
theorem caseF_len (K:Int)(W:List ByteArray)(E:List LnD)(V L:List Int)(T S:List (List Int)):(caseF K W E V L T S).1.1.2.length<=E.length:=by
 unfold caseF
 split
 .split
  .simp[edE]
  simp
 simp
theorem pairF_len (K:Int)(W:List ByteArray)(E:List LnD)(V L:List Int)(T S:List (List Int)):(pairF K W E V L T S).1.1.2.length<=E.length/\(pairF K W E V L T S).1.2.1.2.length<=E.length:=by
 unfold pairF
 have:=pGo_len E
 split
 .split
  .simp
  split
  .exact⟨this.1,this.2.1⟩
  simp
 simp
theorem wks {s:ByteArray}(h:s.size<=1000000:=by omega):kwf .str s:=Nat.le_trans (show ByteArray.size s<=1000000 from h) (by decide)
end Go.Proofs.YtnfdimfepbbbpaaGreatDoor
namespace Go.Proofs.YtnfdimfepbbbpaaGreatDoor
open Go.RowKit
open Go.Proofs.YtnfdimfepbbbpaaGreatDoor.Deep
def sm4 (n:Int)(E:List (Int×Int))(V L:List Int):Int:=if(E.length:Int)>60\/(V.length:Int)>60\/(L.length:Int)>60\/(n>60/\n<=1024) then 0 else 1
def longB (T:List (List Int))(N:Nat):Bool:=decide (∃j,j<T.length/\N<(T.getD j []).length)
def sm6 (n:Int)(E:List (Int×Int))(V L:List Int)(T:List (List Int)):Int:=if sm4 n E V L=0\/(T.length:Int)>100\/longB T 200=true then 0 else 1
def sm8 (n:Int)(E:List (Int×Int))(V L:List Int)(T S:List (List Int)):Int:=if sm6 n E V L T=0\/(S.length:Int)>60\/longB S 60=true then 0 else 1
theorem long_yes {T:List (List Int)}{N:Nat}{i:Int}(h0:0<=i)(h1:i<(T.length:Int))(h:(N:Int)<((T.getD i.toNat []).length:Int)):longB T N=true:=decide_eq_true ⟨i.toNat,by omega,by omega⟩
theorem long_no {T:List (List Int)}{N:Nat}{i:Int}(h1:(T.length:Int)<=i)(h:∀j:Nat,(j:Int)<i->¬(N:Int)<((T.getD j []).length:Int)):longB T N=false:=decide_eq_false fun⟨j,hj,q⟩=>h j (by omega) (by omega)
theorem long_all {T:List (List Int)}{N:Nat}(h:longB T N=false):∀l∈T,l.length<=N:=fun l hl=>by
 obtain⟨j,hj,e⟩:=mem_getDA (z:=([]:List Int)).1 hl
 refine Nat.le_of_not_lt fun q=>?_
 have:longB T N=true:=decide_eq_true ⟨j,hj,by rw[e];exact q⟩
 rw[h] at this;cases this
theorem sm8_sz {n:Int}{E:List (Int×Int)}{V L:List Int}{T S:List (List Int)}(h:sm8 n E V L T S=1):szLL T/\szLL S:=by
 unfold sm8 at h
 split at h
 .cases h
 rename_i q
 have h6:¬sm6 n E V L T=0:=fun z=>q (.inl z)
 unfold sm6 at h6
 split at h6
 .exact absurd rfl h6
 rename_i w
 have l1:=long_all (T:=T) (N:=200) (by cases hq:longB T 200;rfl;exact absurd (.inr (.inr hq)) w)
 have l2:=long_all (T:=S) (N:=60) (by cases hq:longB S 60;rfl;exact absurd (.inr (.inr hq)) q)
 have w1:¬(T.length:Int)>100:=fun z=>w (.inr (.inl z))
 have w2:¬(S.length:Int)>60:=fun z=>q (.inr (.inl z))
 exact⟨⟨by omega,fun l hl=>Nat.le_trans (l1 l hl) (by decide)⟩,by omega,fun l hl=>Nat.le_trans (l2 l hl) (by decide)⟩
def longS (W:List ByteArray)(N:Nat):Bool:=decide (∃j,j<W.length/\N<(W.getD j ⟨#[]⟩).size)
def longN (E:List LnD)(N:Nat):Bool:=decide (∃j,j<E.length/\N<(E.getD j ln0).1.size)
def sm26 (W:List ByteArray)(E:List LnD)(V L:List Int)(T S:List (List Int)):Int:=
 if((40:Int)<(W.length:Int)\/(40:Int)<(E.length:Int))\/sm8 0 [] V L T S=0 then 0 else if longS W 200=true then 0 else if longN E 200=true then 0 else 1
section
variable {W:List ByteArray}{E:List LnD}{V L:List Int}{T S:List (List Int)}{N:Nat}{i:Int}
theorem longS_yes (h0:0<=i)(h1:i<(W.length:Int))(h:(N:Int)<((W.getD i.toNat ⟨#[]⟩).size:Int)):longS W N=true:=decide_eq_true ⟨i.toNat,by omega,by omega⟩
theorem longS_no (h1:¬i<(W.length:Int))(h:∀j:Nat,(j:Int)<i->¬(N:Int)<((W.getD j ⟨#[]⟩).size:Int)):longS W N=false:=decide_eq_false fun⟨j,hj,q⟩=>h j (by omega) (by omega)
theorem longN_yes (h0:0<=i)(h1:i<(E.length:Int))(h:(N:Int)<((E.getD i.toNat ln0).1.size:Int)):longN E N=true:=decide_eq_true ⟨i.toNat,by omega,by omega⟩
theorem longN_no (h1:¬i<(E.length:Int))(h:∀j:Nat,(j:Int)<i->¬(N:Int)<((E.getD j ln0).1.size:Int)):longN E N=false:=decide_eq_false fun⟨j,hj,q⟩=>h j (by omega) (by omega)
theorem sm26_of (h:¬sm26 W E V L T S=0):W.length<=40/\E.length<=40/\V.length<=60/\L.length<=60/\szLL T/\szLL S/\longS W 200=false/\longN E 200=false:=by
 unfold sm26 at h
 split at h
 .exact absurd rfl h
 rename_i q
 split at h
 .exact absurd rfl h
 rename_i q2
 split at h
 .exact absurd rfl h
 rename_i q3
 have h8:sm8 0 [] V L T S=1:=by
  have:¬sm8 0 [] V L T S=0:=fun z=>q (.inr z)
  unfold sm8 at this ⊢
  split at this
  .exact absurd rfl this
  rename_i z;rw[if_neg z]
 obtain⟨z1,z2⟩:=sm8_sz h8
 have h4:¬sm4 0 [] V L=0:=fun z=>by
  unfold sm8 at h8
  rw[if_pos (.inl (by unfold sm6;rw[if_pos (.inl z)]))] at h8
  cases h8
 unfold sm4 at h4
 split at h4
 .exact absurd rfl h4
 rename_i z
 refine⟨?_,?_,?_,?_,z1,z2,by simpa using q2,by simpa using q3⟩
 .by_cases y:W.length<=40
  .exact y
  exact absurd (.inl (.inl (by omega))) q
 .by_cases y:E.length<=40
  .exact y
  exact absurd (.inl (.inr (by omega))) q
 .by_cases y:V.length<=60
  .exact y
  exact absurd (.inr (.inl (by omega))) z
 by_cases y:L.length<=60
 .exact y
 exact absurd (.inr (.inr (.inl (by omega)))) z
end
theorem eqLL_no {l m:List (List Int)}{i:Int}(h0:0<=i)(h:¬l.getD i.toNat []=m.getD i.toNat []):decide (l=m)=false:=decide_eq_false fun e=>h (by rw[e])
theorem eqLL_yes {l m:List (List Int)}{i:Int}(h:l.length=m.length)(h1:¬i<(l.length:Int))(h2:∀j:Nat,(j:Int)<i->l.getD j []=m.getD j []):decide (l=m)=true:=by
 refine decide_eq_true (List.ext_getElem h fun j q1 q2=>?_)
 have:=h2 j (by omega)
 rwa[List.getD_eq_getElem?_getD,List.getD_eq_getElem?_getD,List.getElem?_eq_getElem q1,List.getElem?_eq_getElem q2] at this
def holdR (n:Int)(E:List (Int×Int))(V L:List Int)(T S:List (List Int)):Int:=if partE n E V L≠0 then partE n E V L else planR n E V L T S
end Go.Proofs.YtnfdimfepbbbpaaGreatDoor
namespace Go.Proofs
open Go.Shelf
def Tryz.lays156_ren:Go.Shelf.Ren:=⟨fun|156=>52|165=>81|166=>51|169=>31|240=>80|241=>114|276=>113|277=>149|n=>n,fun|31=>22|9=>9|3=>3|4=>4|0=>0|20=>20|72=>80|76=>121|70=>77|37=>78|75=>120|127=>127|164=>189|5=>5|80=>87|n=>n,fun|n=>n⟩
theorem Tryz.lays156:Go.Proofs.Lays.n156 Tryz.prog Tryz.lays156_ren:={
 mixed:=by kernel_rfl
 f156:=Tryz.func52.trans (congrArg some (by kernel_rfl))
 f165:=Tryz.func81.trans (congrArg some (by kernel_rfl))
 f166:=Tryz.func51.trans (congrArg some (by kernel_rfl))
 f169:=Tryz.func31.trans (congrArg some (by kernel_rfl))
 f240:=Tryz.func80.trans (congrArg some (by kernel_rfl))
 f241:=Tryz.func114.trans (congrArg some (by kernel_rfl))
 f276:=Tryz.func113.trans (congrArg some (by kernel_rfl))
 f277:=Tryz.func149.trans (congrArg some (by kernel_rfl))
 t0:=Tryz.underlying0
 a0:=Tryz.isAgg0
 z0:=Tryz.sizeOf0
 v0:=Tryz.zeroValue0
 t3:=Tryz.underlying3
 a3:=Tryz.isAgg3
 z3:=Tryz.sizeOf3
 v3:=Tryz.zeroValue3
 t4:=Tryz.underlying4
 a4:=Tryz.isAgg4
 z4:=Tryz.sizeOf4
 v4:=Tryz.zeroValue4
 t9:=Tryz.underlying9
 a9:=Tryz.isAgg9
 z9:=Tryz.sizeOf9
 v9:=Tryz.zeroValue9
 t20:=Tryz.underlying20
 a20:=Tryz.isAgg20
 z20:=Tryz.sizeOf20
 v20:=Tryz.zeroValue20
 t31:=Tryz.underlying22
 a31:=Tryz.isAgg22
 z31:=Tryz.sizeOf22
 v31:=Tryz.zeroValue22
 t37:=Tryz.underlying78
 a37:=Tryz.isAgg78
 z37:=Tryz.sizeOf78
 v37:=Tryz.zeroValue78
 t70:=Tryz.underlying77
 a70:=Tryz.isAgg77
 z70:=Tryz.sizeOf77
 v70:=Tryz.zeroValue77
 t72:=Tryz.underlying80
 a72:=Tryz.isAgg80
 z72:=Tryz.sizeOf80
 v72:=Tryz.zeroValue80
 t75:=Tryz.underlying120
 a75:=Tryz.isAgg120
 z75:=Tryz.sizeOf120
 v75:=Tryz.zeroValue120
 t76:=Tryz.underlying121
 a76:=Tryz.isAgg121
 z76:=Tryz.sizeOf121
 v76:=Tryz.zeroValue121
 t127:=Tryz.underlying127
 a127:=Tryz.isAgg127
 z127:=Tryz.sizeOf127
 v127:=Tryz.zeroValue127
 t164:=Tryz.underlying189
 a164:=Tryz.isAgg189
 z164:=Tryz.sizeOf189
 v164:=Tryz.zeroValue189}
theorem Tryz.Builder_Extra_156:Builder.Extra Tryz.prog Tryz.lays156_ren:={
 sizeBuilder:=by kernel_rfl
 liesBuilder:=by kernel_rfl
 t5:=Tryz.underlying5
 a5:=Tryz.isAgg5
 z5:=Tryz.sizeOf5
 v5:=Tryz.zeroValue5
 infoByte:=by kernel_rfl
 cellsByte:=by kernel_rfl
 sizeByte:=by kernel_rfl
 neB5:=by decide}
open Go.RowKit in
theorem Tryz.strings_Join_none (a:Option Addr)(c:Nat)(sep:ByteArray)(w:World):
 Calls Tryz.prog 52 #[.slice a 0 c,.string sep] w fun e w'=>e= .returned (.string ⟨#[]⟩)/\w'=w:=Any.strings_Join_none Tryz.lays156 Tryz.Builder_Extra_156 a c sep w
open Go.RowKit in
theorem Tryz.strings_Join (bk o c:Nat)(xs:List ByteArray)(sep:ByteArray)(w:World)(hcells:∀(j:Nat) x,xs[j]?=some x->w.cell? ⟨bk,o+j,none⟩=some (.string x))(hbk:bk<w.heap.size)(hN:xs.length<=140737488355328)(hcap:xs.length<=c)(hlen:(Lib.join (xs.map (·.data.toList)) sep.data.toList).length<=140737488355328):
 Calls Tryz.prog 52 #[.slice (some ⟨bk,o,none⟩) xs.length c,.string sep] w fun e w'=>e= .returned (.string ⟨(Lib.join (xs.map (·.data.toList)) sep.data.toList).toArray⟩)/\Below w.heap.size w w':=Any.strings_Join Tryz.lays156 Tryz.Builder_Extra_156 bk o c xs sep w hcells hbk hN hcap hlen
open Go.RowKit in
theorem Tryz.copyCheck_used (b:Nat)(w:World)(h0:w.cell? ⟨b,0,none⟩=some (.pointer (some ⟨b,0,none⟩))):Calls Tryz.prog 80 #[.pointer (some ⟨b,0,none⟩)] w fun e w'=>e= .returned (.tuple #[])/\w'=w:=Any.Builder_copyCheck_used (ρ:=Tryz.lays156_ren) {Tryz.lays156 with} Tryz.Builder_Extra_156.toX72 b w h0
def Tryz.laysNm215_ren:Go.Shelf.Ren:=⟨fun|15=>48|n=>n,fun|22=>24|3=>3|4=>4|n=>n,fun|n=>n⟩
theorem Tryz.laysNm215:Go.Proofs.Lays2.n15 Tryz.prog Tryz.laysNm215_ren:={
 mixed:=by kernel_rfl
 f15:=Tryz.func48.trans (congrArg some (by kernel_rfl))
 t3:=Tryz.underlying3
 a3:=Tryz.isAgg3
 z3:=Tryz.sizeOf3
 v3:=Tryz.zeroValue3
 t4:=Tryz.underlying4
 a4:=Tryz.isAgg4
 z4:=Tryz.sizeOf4
 v4:=Tryz.zeroValue4
 t22:=Tryz.underlying24
 a22:=Tryz.isAgg24
 z22:=Tryz.sizeOf24
 v22:=Tryz.zeroValue24
 i3:=by kernel_rfl}
open Go.RowKit Go.Lib in
theorem Tryz.slices_Clone_int (b off n c:Nat)(zs:List Int)(w:World)(hz:n<=zs.length)(hbig:n*8<=140737488355328)(hc:∀j,j<zs.length->w.cell? ⟨b,off+j,none⟩=some (.int .i64 (zs.getD j 0))):
 Calls Tryz.prog 48 #[.slice (some ⟨b,off,none⟩) n c] w fun e w'=> ∃v',e= .returned v'/\w'.ownsRow w.heap.size 3 1 v' n ((zs.take n).map (Value.int .i64))/\v'≠.slice none 0 0/\Below w.heap.size w w':=Any.slices_Clone_int Tryz.laysNm215 b off n c zs w hz hbig hc
open Go.RowKit Go.Lib in
theorem Tryz.slices_Clone_int_nil (n c:Nat)(w:World):
 Calls Tryz.prog 48 #[.slice none n c] w fun e w'=>e= .returned (.slice none 0 0)/\w'=w:=Any.slices_Clone_int_nil Tryz.laysNm215 n c w
def Tryz.laysNm216_ren:Go.Shelf.Ren:=⟨fun|16=>39|n=>n,fun|24=>22|9=>9|4=>4|n=>n,fun|n=>n⟩
theorem Tryz.laysNm216:Go.Proofs.Lays2.n16 Tryz.prog Tryz.laysNm216_ren:={
 mixed:=by kernel_rfl
 f16:=Tryz.func39.trans (congrArg some (by kernel_rfl))
 t4:=Tryz.underlying4
 a4:=Tryz.isAgg4
 z4:=Tryz.sizeOf4
 v4:=Tryz.zeroValue4
 t9:=Tryz.underlying9
 a9:=Tryz.isAgg9
 z9:=Tryz.sizeOf9
 v9:=Tryz.zeroValue9
 t24:=Tryz.underlying22
 a24:=Tryz.isAgg22
 z24:=Tryz.sizeOf22
 v24:=Tryz.zeroValue22
 i9:=by kernel_rfl}
open Go.RowKit Go.Lib in
theorem Tryz.slices_Clone_string (b off n c:Nat)(zs:List ByteArray)(w:World)(hz:n<=zs.length)(hbig:n*16<=140737488355328)(hc:∀j,j<zs.length->w.cell? ⟨b,off+j,none⟩=some (.string (zs.getD j ByteArray.empty))):
 Calls Tryz.prog 39 #[.slice (some ⟨b,off,none⟩) n c] w fun e w'=> ∃v',e= .returned v'/\w'.ownsRow w.heap.size 9 1 v' n ((zs.take n).map (Value.string))/\v'≠.slice none 0 0/\Below w.heap.size w w':=Any.slices_Clone_string Tryz.laysNm216 b off n c zs w hz hbig hc
open Go.RowKit Go.Lib in
theorem Tryz.slices_Clone_string_nil (n c:Nat)(w:World):
 Calls Tryz.prog 39 #[.slice none n c] w fun e w'=>e= .returned (.slice none 0 0)/\w'=w:=Any.slices_Clone_string_nil Tryz.laysNm216 n c w
open Go.RowKit Go.Lib in
theorem Tryz.slices_Clone_int_zero (a:Addr)(c:Nat)(w:World):
 Calls Tryz.prog 48 #[.slice (some a) 0 c] w fun e w'=> ∃v',e= .returned v'/\w'.ownsRow w.heap.size 3 1 v' 0 []/\v'≠.slice none 0 0/\Below w.heap.size w w':=Any.slices_Clone_int_zero Tryz.laysNm215 a c w
open Go.RowKit Go.Lib in
theorem Tryz.slices_Clone_string_zero (a:Addr)(c:Nat)(w:World):
 Calls Tryz.prog 39 #[.slice (some a) 0 c] w fun e w'=> ∃v',e= .returned v'/\w'.ownsRow w.heap.size 9 1 v' 0 []/\v'≠.slice none 0 0/\Below w.heap.size w w':=Any.slices_Clone_string_zero Tryz.laysNm216 a c w
def Tryz.lays189_ren:Go.Shelf.Ren:=⟨fun|189=>69|125=>93|257=>92|128=>130|129=>131|294=>121|295=>122|296=>123|297=>124|298=>125|299=>126|216=>127|300=>128|301=>129|328=>155|329=>156|330=>157|331=>158|332=>159|215=>160|343=>175|n=>n,fun|28=>24|3=>3|46=>170|0=>0|51=>206|53=>208|4=>4|183=>200|182=>199|131=>91|5=>5|9=>9|218=>234|222=>238|228=>249|229=>158|n=>n,fun|n=>n⟩
theorem Tryz.lays189:Go.Proofs.Lays.n189 Tryz.prog Tryz.lays189_ren:={
 mixed:=by kernel_rfl
 f125:=Tryz.func93.trans (congrArg some (by kernel_rfl))
 f128:=Tryz.func130.trans (congrArg some (by kernel_rfl))
 f129:=Tryz.func131.trans (congrArg some (by kernel_rfl))
 f189:=Tryz.func69.trans (congrArg some (by kernel_rfl))
 f215:=Tryz.func160.trans (congrArg some (by kernel_rfl))
 f216:=Tryz.func127.trans (congrArg some (by kernel_rfl))
 f257:=Tryz.func92.trans (congrArg some (by kernel_rfl))
 f294:=Tryz.func121.trans (congrArg some (by kernel_rfl))
 f295:=Tryz.func122.trans (congrArg some (by kernel_rfl))
 f296:=Tryz.func123.trans (congrArg some (by kernel_rfl))
 f297:=Tryz.func124.trans (congrArg some (by kernel_rfl))
 f298:=Tryz.func125.trans (congrArg some (by kernel_rfl))
 f299:=Tryz.func126.trans (congrArg some (by kernel_rfl))
 f300:=Tryz.func128.trans (congrArg some (by kernel_rfl))
 f301:=Tryz.func129.trans (congrArg some (by kernel_rfl))
 f328:=Tryz.func155.trans (congrArg some (by kernel_rfl))
 f329:=Tryz.func156.trans (congrArg some (by kernel_rfl))
 f330:=Tryz.func157.trans (congrArg some (by kernel_rfl))
 f331:=Tryz.func158.trans (congrArg some (by kernel_rfl))
 f332:=Tryz.func159.trans (congrArg some (by kernel_rfl))
 f343:=Tryz.func175.trans (congrArg some (by kernel_rfl))
 t0:=Tryz.underlying0
 a0:=Tryz.isAgg0
 z0:=Tryz.sizeOf0
 v0:=Tryz.zeroValue0
 t3:=Tryz.underlying3
 a3:=Tryz.isAgg3
 z3:=Tryz.sizeOf3
 v3:=Tryz.zeroValue3
 t4:=Tryz.underlying4
 a4:=Tryz.isAgg4
 z4:=Tryz.sizeOf4
 v4:=Tryz.zeroValue4
 t5:=Tryz.underlying5
 a5:=Tryz.isAgg5
 z5:=Tryz.sizeOf5
 v5:=Tryz.zeroValue5
 t9:=Tryz.underlying9
 a9:=Tryz.isAgg9
 z9:=Tryz.sizeOf9
 v9:=Tryz.zeroValue9
 t28:=Tryz.underlying24
 a28:=Tryz.isAgg24
 z28:=Tryz.sizeOf24
 v28:=Tryz.zeroValue24
 t46:=Tryz.underlying170
 a46:=Tryz.isAgg170
 z46:=Tryz.sizeOf170
 v46:=Tryz.zeroValue170
 t51:=Tryz.underlying206
 a51:=Tryz.isAgg206
 z51:=Tryz.sizeOf206
 v51:=Tryz.zeroValue206
 t53:=Tryz.underlying208
 a53:=Tryz.isAgg208
 z53:=Tryz.sizeOf208
 v53:=Tryz.zeroValue208
 t131:=Tryz.underlying91
 a131:=Tryz.isAgg91
 z131:=Tryz.sizeOf91
 v131:=Tryz.zeroValue91
 t182:=Tryz.underlying199
 a182:=Tryz.isAgg199
 z182:=Tryz.sizeOf199
 v182:=Tryz.zeroValue199
 t183:=Tryz.underlying200
 a183:=Tryz.isAgg200
 z183:=Tryz.sizeOf200
 v183:=Tryz.zeroValue200
 t218:=Tryz.underlying234
 a218:=Tryz.isAgg234
 z218:=Tryz.sizeOf234
 v218:=Tryz.zeroValue234
 t222:=Tryz.underlying238
 a222:=Tryz.isAgg238
 z222:=Tryz.sizeOf238
 v222:=Tryz.zeroValue238
 t228:=Tryz.underlying249
 a228:=Tryz.isAgg249
 z228:=Tryz.sizeOf249
 v228:=Tryz.zeroValue249
 t229:=Tryz.underlying158
 a229:=Tryz.isAgg158
 z229:=Tryz.sizeOf158
 v229:=Tryz.zeroValue158}
open Go.Sort Go.RowKit in
theorem Tryz.slices_Sort_int (blk off cap:Nat)(zs:List Int)(w:World)(hH:Holds (Value.int .i64) w blk off zs.toArray)(hblk:blk<w.heap.size)(hsz:zs.length<4611686018427387904):
 Calls Tryz.prog 69 #[.slice (some ⟨blk,off,none⟩) zs.length cap] w fun e w'=>
  e= .returned (.tuple #[])/\∃n os,w'=grow (putRow (Value.int .i64) (Sort.ahead w n) blk off (zs.mergeSort fun x y=>decide (x<=y)).toArray) os:=Any.slices_Sort_int Tryz.lays189 blk off cap zs w hH hblk hsz
open Go.RowKit Go.Sort in
theorem Tryz.slices_Sort_int_none (p:Option Addr)(cap:Nat)(w:World):
 Calls Tryz.prog 69 #[.slice p 0 cap] w fun e w'=>e= .returned (.tuple #[])/\w'=w:=Any.slices_Sort_int_none Tryz.lays189 p cap w
def Tryz.keysA_ren:Go.Shelf.Ren:=⟨fun|7=>67|10=>88|n=>n,fun|23=>95|26=>3|3=>124|28=>138|0=>0|27=>137|33=>162|4=>4|n=>n,fun|n=>n⟩
theorem Tryz.keysA:Go.Proofs.SlLaysZI.n7 Tryz.prog Tryz.keysA_ren:={
 mixed:=by kernel_rfl
 f7:=⟨Tryz.f67.name,by decide,Tryz.func67.trans (congrArg some (by kernel_rfl))⟩
 f10:=⟨Tryz.f88.name,by decide,Tryz.func88.trans (congrArg some (by kernel_rfl))⟩
 t0:=Tryz.underlying0
 a0:=Tryz.isAgg0
 z0:=Tryz.sizeOf0
 v0:=Tryz.zeroValue0
 t4:=Tryz.underlying4
 a4:=Tryz.isAgg4
 z4:=Tryz.sizeOf4
 v4:=Tryz.zeroValue4
 t23:=Tryz.underlying95
 a23:=Tryz.isAgg95
 z23:=Tryz.sizeOf95
 v23:=Tryz.zeroValue95
 t26:=Tryz.underlying3
 a26:=Tryz.isAgg3
 z26:=Tryz.sizeOf3
 v26:=Tryz.zeroValue3
 t27:=Tryz.underlying137
 a27:=Tryz.isAgg137
 z27:=Tryz.sizeOf137
 v27:=Tryz.zeroValue137
 t28:=Tryz.underlying138
 a28:=Tryz.isAgg138
 z28:=Tryz.sizeOf138
 v28:=Tryz.zeroValue138
 t33:=Tryz.underlying162
 a33:=Tryz.isAgg162
 z33:=Tryz.sizeOf162
 v33:=Tryz.zeroValue162}
def Tryz.sortedA_ren:Go.Shelf.Ren:=⟨fun|6=>66|8=>87|9=>69|11=>117|13=>93|12=>92|23=>130|24=>131|14=>121|15=>122|16=>123|17=>124|18=>125|19=>126|20=>127|21=>128|22=>129|25=>155|26=>156|27=>157|28=>158|29=>159|30=>160|31=>175|n=>n,fun|26=>3|28=>138|24=>24|0=>0|3=>3|37=>170|48=>206|50=>208|4=>4|40=>200|39=>199|45=>91|5=>5|9=>9|51=>234|55=>238|57=>249|58=>158|33=>162|n=>n,fun|n=>n⟩
theorem Tryz.sortedA:Go.Proofs.SlLaysZI.n6 Tryz.prog Tryz.sortedA_ren:={
 mixed:=by kernel_rfl
 f6:=⟨Tryz.f66.name,by decide,Tryz.func66.trans (congrArg some (by kernel_rfl))⟩
 f8:=⟨Tryz.f87.name,by decide,Tryz.func87.trans (congrArg some (by kernel_rfl))⟩
 f11:=⟨Tryz.f117.name,by decide,Tryz.func117.trans (congrArg some (by kernel_rfl))⟩
 t0:=Tryz.underlying0
 a0:=Tryz.isAgg0
 z0:=Tryz.sizeOf0
 v0:=Tryz.zeroValue0
 t24:=Tryz.underlying24
 a24:=Tryz.isAgg24
 z24:=Tryz.sizeOf24
 v24:=Tryz.zeroValue24
 t26:=Tryz.underlying3
 a26:=Tryz.isAgg3
 z26:=Tryz.sizeOf3
 v26:=Tryz.zeroValue3
 t28:=Tryz.underlying138
 a28:=Tryz.isAgg138
 z28:=Tryz.sizeOf138
 v28:=Tryz.zeroValue138
 i26:=by kernel_rfl}
end Go.Proofs
namespace Go.Proofs.YtnfdimfepbbbpaaGreatDoor
open Go.RowKit Go.Sort Go.Lib
theorem Tryz.sortsA (m:Nat):AnyZI.SortsIn Tryz.prog Tryz.sortedA_ren Fence.wide m:=
 ⟨fun blk off cap ss W hH hblk hsz=>callsIn_wide.2 (Tryz.slices_Sort_int blk off cap ss W hH hblk hsz),fun p cap W=>callsIn_wide.2 (Tryz.slices_Sort_int_none p cap W)⟩
theorem OkF.on {o:OrgG}{n:Nat}{A:Asg}{S:Stab}{F:Nat->Prop}{s:Nat->Option E2}{r:Nat->Option R2}{a:Act}{w w':World}(H:OkF o n A S F s r a w)(hb:Below w.heap.size w w'):OkF o n A S F s r a w':=
 ⟨H.size,H.nodef,H.env,H.sall,H.rall,H.frm.on hb,H.args,H.pin⟩
def key0T (b:Nat)(caps:List (Nat×Nat))(ys:List Sy):Tr Out:=match caps,ys with
 |[],[.one (.clo f [(q,0)])]=>guardT (Nat.beq f 88) (.res q fun x=>match x with
  | .box _ [.mp j]=>.res j fun y=>match y with
   | .map .int t m=>.ret ⟨[(show List (Int×El t) from m)=[]],[],.one (.v (.slice none 0 0)),[]⟩
   |_=>.fail
  |_=>.fail)
 |_,_=>.fail
theorem key0_ok:ConTr Tryz.prog 66 key0T:=by
 intro o n A S F s r a w b B caps ys out H hF hys hcaps h hcs hhs hB
 unfold key0T at h
 split at h
 .rename_i f q
  obtain⟨hg,h1⟩:=guardT_run h
  clear h
  have g1:=beq_t hg
  subst g1
  obtain⟨x,hx,h⟩:=res_run h1
  split at h
  .rename_i bt j
   obtain⟨y,hy,h⟩:=res_run h
   split at h
   .rename_i t m
    have e:=ret_run h
    subst e
    have hm:(show List (Int×El t) from m)=[]:=hcs _ (List.mem_singleton.2 rfl)
    have hbox:w.heap[A.b q]?=some (.cells #[.map (A.m j)] bt (0,0)):=H.frm.ok q _ (show memF A r q=some _ by simp[memF,hx];rfl)
    obtain⟨mb,e1,zs,hown,e2,_⟩:∃mb,A.m j=some mb/\MapAt S w mb m:=H.frm.ok j _ (show memF A r j=some _ by simp[memF,hy];rfl)
    have hzs:zs=[]:=by
     have:(zs.map fun q=>(q.1,q.2.2))=[]:=e2.symm.trans hm
     exact List.map_eq_nil_iff.1 this
    subst hzs
    rw[e1] at hbox
    have hown2:=hown.to (P:=Tryz.prog) (kt:=3) Tryz.underlying3
    have hcell:w.cell? ⟨A.b q,0,none⟩=some (.map (some mb)):=by rw[cell_of_row w (A.b q) 0 _ _ _ hbox];rfl
    have hkb:A.b q<w.heap.size:=(Array.getElem?_eq_some_iff.1 hbox).1
    have hseq:SeqGives Fence.wide 2 Tryz.prog 88 #[.pointer (some ⟨A.b q,0,none⟩)] encZ (fun ss=>ss.Perm (intKeys (encK (k:=.int) ([]:List (KEl .int×Value))))) (Maps.size (encK (k:=.int) ([]:List (KEl .int×Value)))) w:=
     AnyZI.keys_gives (ρ:=Tryz.keysA_ren) {Tryz.keysA with} Fence.wide 2 tv rfl (by omega) (A.b q) mb _ _ w hkb hcell hown2
    have cS:=AnyZI.sorted_in Tryz.sortedA Fence.wide 5 tv tv tv tv rfl (by omega) (Tryz.sortsA _) (enters_of Tryz.func69 (by kernel_rfl) rfl) 88 #[.pointer (some ⟨A.b q,0,none⟩)] tv (enters_of Tryz.func88 (by kernel_rfl) rfl) _ (Maps.size (encK (k:=.int) ([]:List (KEl .int×Value)))) (by decide) (by decide) w hseq
    have cS':=(callsIn_wide (n:=5)).1 cS
    refine cS'.mono fun e w' ⟨v,ss,he,hperm,hrow,hnil,hbw⟩=>⟨v,he,A,S,?_,?_,tv,tv⟩
    .exact(H.on hbw).agree (Agr.refl _ _) fun j h=>.inl h
    have:ss=[]:=List.Perm.eq_nil hperm
    exact hnil.2 this
   cases h
  cases h
 cases h
def C_key0:Con Tryz.prog:=⟨_,_,key0_ok⟩
theorem strs_row {S:Stab}{w:World}(l:List ByteArray):RowRd S w (l.map Value.string) l:=by
 refine⟨by show _=l.length*1;simp,fun i hi=>?_⟩
 show((l.map Value.string).drop (i*1)).take 1=[.string l[i]]
 rw[Nat.mul_one,List.drop_eq_getElem_cons (by simpa using hi),List.take_succ_cons,List.take_zero]
 simp
def clsT (b:Nat)(caps:List (Nat×Nat))(ys:List Sy):Tr Out:=match caps,ys with
 |[],[y]=>gathSy (.list .str) y fun l=>.ret ⟨[(show List ByteArray from l).length<=1000000],[],.one (.own b),[(b,some (.row 9 .str (show List ByteArray from l)))]⟩
 |_,_=>.fail
theorem cls_ok:ConTr Tryz.prog 39 clsT:=by
 intro o n A S F s r a w b B caps ys out H hF hys hcaps h hcs hhs hB
 unfold clsT at h
 split at h
 .rename_i y
  obtain⟨l,hl,h⟩:=gathSy_run (T:=(· <w.heap.size)) (w:=w) (A:=A) (fun c _ j _=>reads_any H j) h
  have e:=ret_run h
  subst e
  have hlen:(show List ByteArray from l).length<=1000000:=hcs _ (List.mem_singleton.2 rfl)
  have hb:¬F b:=hF b (Nat.le_refl _) (hB _ (List.mem_singleton.2 rfl))
  have hl:Rd (· <w.heap.size) w (y.den A) (show List ByteArray from l):=hl
  generalize hzs:(show List ByteArray from l)=zs at*
  obtain⟨p,c,hv,h1,h2,h3⟩:=rd_slice hl
  have fin:∀v' w',w'.ownsRow w.heap.size 9 1 v' zs.length (zs.map Value.string)->Below w.heap.size w w'->After o n F s r a ⟨[zs.length<=1000000],[],.one (.own b),[(b,some (.row 9 .str zs))]⟩ v' w':=fun v' w' hrow hbw=>by
   obtain⟨A',k1,k2⟩:=OkF.rowTo H hb (e:=9) (ty:=.str) (m:=zs) (v:=.slice none 0 0) (v':=v') (xs:=zs.map Value.string) (old:=none) rfl ⟨hbw.os,hbw.tape,hbw.output,hbw.size,fun k hk _=>hbw.block k hk⟩ (HdAt.of hrow) (fun _=>strs_row zs) (fun k hk=>.inr (hrow.lt k hk))
   exact⟨A',S,k1,k2,.inr ⟨_,List.mem_singleton.2 rfl⟩,tv⟩
  show Calls Tryz.prog 39 #[y.den A] w _
  rw[hv]
  rcases h3 with rfl|⟨g,off,cur,t,fz,rfl,hg,hw,hc⟩
  .cases p with
   |none=>exact(Tryz.slices_Clone_string_nil 0 c w).mono fun e w' ⟨he,hw⟩=>⟨_,he,fin _ _ (by subst hw;exact World.ownsRow_nil _ _ _ _) (by subst hw;exact Below.refl _ _)⟩
   |some ad=>exact(Tryz.slices_Clone_string_zero ad c w).mono fun e w' ⟨v',he,hrow,_,hbw⟩=>⟨v',he,fin v' w' hrow hbw⟩
  refine(Tryz.slices_Clone_string g off zs.length c zs w (Nat.le_refl _) (by omega) fun j hj=>?_).mono fun e w' ⟨v',he,hrow,_,hbw⟩=>⟨v',he,fin v' w' (by rw[List.take_length] at hrow;exact hrow) hbw⟩
  obtain⟨cs,hr,hq⟩:=hc j hj
  have hr:cs=[.string zs[j]]:=hr
  have:=hq 0 (show 0<1 by decide)
  rw[hr] at this
  rw[cell_of_row w g _ cur t fz hw]
  have e:off+j*Data.size ByteArray+0=off+j:=by show off+j*1+0=_;omega
  rw[e] at this
  rw[this]
  simp[List.getD_eq_getElem?_getD,List.getElem?_eq_getElem hj]
 cases h
def C_cls:Con Tryz.prog:=⟨_,_,cls_ok⟩
end Go.Proofs.YtnfdimfepbbbpaaGreatDoor
namespace Go.Proofs.YtnfdimfepbbbpaaGreatDoor
open Go.RowKit Go.Lib
abbrev bdT:TypeId:=80
def BdT (T:TypeId):Prop:=liesAt Tryz.prog Tryz.prog.depth T (2/Tryz.prog.cellsOf T) 0 bdT 1=true
theorem bdT_pr:BdT 82:=by unfold BdT;kernel_rfl
theorem size_bd:(Tryz.prog.info? bdT).map (·.size)=some 2:=by kernel_rfl
theorem info_u8:(Tryz.prog.info? 5).map (fun i=>(i.zero,i.size,i.bytes))=some (some (.int .u8 0),1,1):=by kernel_rfl
section
variable {P:Program}
theorem app_str (w:World)(t u ty e:TypeId)(i:TypeInfo)(ht:P.underlying t=some (.slice e))(hu:P.underlying u=some .string)(hi:P.info? e=some i)(hz:i.zero=some (.int .u8 0))
  (hsize:i.size=1) (hby:i.bytes=1) (v:Value) (n:Nat) (xs:List Value) (hown:w.ownsRow 0 e 1 v n xs) (s:ByteArray) (h63:n+s.size<=1000000):
  ∃v' w',(Builtin.append_ #[t,u] ty #[v,.string s]).run P w= .ok v' w'/\w'.ownsRow 0 e 1 v' (n+s.size) (xs++strCells s)/\w.grownBy w' v.ownBlock/\(∀k,v'.ownBlock=some k->v.ownBlock=some k\/w.heap.size<=k):=by
 have hm:n+s.size<=maxLen:=Nat.le_trans h63 (by decide)
 obtain⟨v',w',hr,h2,h3,h4⟩:=run_append_own_string (P:=P) w 0 t u ty e i ht hu hi hz hsize hby v n xs hown s hm (by omega) (Nat.zero_le _)
 refine⟨v',w',hr,h2,h3,?_⟩
 rcases hown.2 with⟨rfl,rfl⟩|⟨g,cap,cur,rfl,hbg,hg,hnc,hcm,hcs,htake⟩
 .obtain⟨v2,w2,hr2,k2,_,_⟩:=run_append_own_string (P:=P) w w.heap.size t u ty e i ht hu hi hz hsize hby (.slice none 0 0) 0 xs ⟨hown.1,.inl ⟨rfl,rfl⟩⟩ s hm (by omega) (Nat.le_refl _)
  rw[hr] at hr2
  cases hr2
  exact fun k hk=>.inr (k2.lt k hk).1
 by_cases hroom:n+s.size<=cap
 .have hcs':cur.size=cap:=by simpa using hcs
  have hr2:=run_append_room_string (P:=P) w t u ty e i ht hu hi hsize g n cap cur hg s hroom (by omega)
  rw[hr] at hr2
  cases hr2
  exact fun k hk=>.inl hk
 have holds:∀j u,xs[j]?=some u->w.cell? ((⟨g,0,none⟩:Addr).add j)=some u:=hown.cells (g:=g) rfl
 have hr2:=run_append_grow_string (P:=P) w t u ty e i (.int .u8 0) ht hu hi hz ⟨g,0,none⟩ n cap xs (by rw[hsize];simpa using hown.1) holds s (by omega) (by omega) (by rw[hby];exact growslice_fits (by omega) (by omega))
 rw[hr] at hr2
 cases hr2
 exact fun k hk=>by cases hk;exact .inr (Nat.le_refl _)
theorem wpList_app_str {ops:Array Oper}{rest:List Oper}{o:Oper}{a:Act}{w:World}{Q:Exit->Act->World->Prop}(hgd:o.guard=none)(sl x:Operand)(t u:TypeId)
  (ho:o.op= .call {callee:=.builtin .append,args:= #[sl,x],argTypes:= #[t,u]}) (e:TypeId) (i:TypeInfo) (ht:P.underlying t=some (.slice e)) (hu:P.underlying u=some .string) (hi:P.info? e=some i) (hz:i.zero=some (.int .u8 0))
  (hsize:i.size=1) (hby:i.bytes=1) (v:Value) (n:Nat) (xs:List Value) (hs:a.eval sl=v) (hown:w.ownsRow 0 e 1 v n xs) (s:ByteArray) (hx:a.eval x= .string s) (h63:n+s.size<=1000000)
  (h:∀v' w',w'.ownsRow 0 e 1 v' (n+s.size) (xs++strCells s)->w.grownBy w' v.ownBlock->(∀k,v'.ownBlock=some k->v.ownBlock=some k\/w.heap.size<=k)->wpList P ops Q rest (a.put o.dst v') w'):wpList P ops Q (o::rest) a w:=by
 refine wpList_plain hgd fun K hK=>?_
 obtain⟨v',w',hr,h2,h3,h4⟩:=app_str (P:=P) w t u o.type e i ht hu hi hz hsize hby v n xs hown s h63
 unfold Oper.wp execOp
 simp only[ho,resolve,invoke,builtin,Sem.run_bind,Sem.run_pure,Result.andThen_ok,List.map_toArray,List.map_cons,List.map_nil,hs,hx,hr]
 exact hK _ _ (h v' w' h2 h3 h4)
end
theorem cc_fresh {T:TypeId}(hT:BdT T)(b:Nat)(w:World)(h0:w.cell? ⟨b,0,none⟩=some (.pointer none))(hsh:w.shape? b=some (T,2))(hfz:w.frozen? ⟨b,0,none⟩=false):
  Calls Tryz.prog 80 #[.pointer (some ⟨b,0,none⟩)] w fun e w'=>e= .returned (.tuple #[])/\w'=w.setCell ⟨b,0,none⟩ (.pointer (some ⟨b,0,none⟩)):=by
 obtain⟨j,hj,hjs⟩:=Option.map_eq_some_iff.1 size_bd
 go_enter Tryz.func80,Tryz.ntmps80
 go_wp2
 rw[run_to_unsafe w ⟨b,0,none⟩ Tryz.underlying77 Tryz.underlying189 hj (by rw[hjs];decide) hsh (Nat.zero_lt_succ 1)]
 simp only[Result.andThen]
 rw[Oper.upon_value]
 go_wp2
 rw[run_callFunc_extern Tryz.func113 (by kernel_rfl) (by kernel_rfl) (by kernel_rfl) (e:=Extern.AbiNoEscape.same) (by kernel_rfl)]
 rw[run_noEscape]
 simp only[Result.andThen]
 rw[Oper.upon_value]
 go_wp2
 rw[run_from_unsafe w ⟨b,0,none⟩ Tryz.underlying189 Tryz.underlying77 hj hsh hT]
 simp only[Result.andThen]
 rw[Oper.upon_value]
 go_wp2
 go_end0
 exact⟨rfl,rfl⟩
theorem box_shape {w:World}{b:Nat}{T:TypeId}{p v:Value}(hbk:w.heap[b]?=some (.cells #[p,v] T (0,0))):w.cell? ⟨b,0,none⟩=some p/\w.cell? ⟨b,1,none⟩=some v/\w.shape? b=some (T,2)/\w.frozen? ⟨b,0,none⟩=false/\w.frozen? ⟨b,1,none⟩=false/\b<w.heap.size:=by
 refine⟨by rw[cell_of_heap hbk];rfl,by rw[cell_of_heap hbk];rfl,by simp[World.shape?,hbk],frozen_of_heap hbk 0,frozen_of_heap hbk 1,(Array.getElem?_eq_some_iff.1 hbk).1⟩
theorem chg_setCell (w:World)(b i:Nat)(u:Value):Chg w (w.setCell ⟨b,i,none⟩ u) (· =b):=⟨rfl,rfl,rfl,by simp,fun k _ hn=>heap_setCell_other w _ k u hn⟩
theorem cc_any {T:TypeId}(hT:BdT T)(b:Nat)(p v:Value)(w:World)(hbk:w.heap[b]?=some (.cells #[p,v] T (0,0)))(hp:p= .pointer none\/p= .pointer (some ⟨b,0,none⟩)):
  Calls Tryz.prog 80 #[.pointer (some ⟨b,0,none⟩)] w fun e w'=>e= .returned (.tuple #[])/\w'.heap[b]?=some (.cells #[.pointer (some ⟨b,0,none⟩),v] T (0,0))/\Chg w w' (· =b)/\w'.heap.size=w.heap.size:=by
 obtain⟨c0,c1,hsh,f0,f1,hlt⟩:=box_shape hbk
 rcases hp with rfl|rfl
 .refine(cc_fresh hT b w c0 hsh f0).mono ?_
  rintro e w' ⟨rfl,rfl⟩
  exact⟨rfl,by rw[heap_setCell_same w b 0 _ _ _ hbk];rfl,chg_setCell _ _ _ _,by simp⟩
 refine(Tryz.copyCheck_used b w c0).mono ?_
 rintro e w' ⟨rfl,rfl⟩
 exact⟨rfl,hbk,Chg.refl _ _,rfl⟩
theorem bytC_app (s t:ByteArray):bytC (s++t)=bytC s++strCells t:=by
 unfold bytC strCells
 rw[show(s++t).data.toList=s.data.toList++t.data.toList by rw[ByteArray.data_append,Array.toList_append],List.map_append]
theorem size_app (s t:ByteArray):(s++t).size=s.size+t.size:=ByteArray.size_append
theorem ws_any {T:TypeId}(hT:BdT T)(hTe:T≠5)(b:Nat)(p v:Value)(s t:ByteArray)(w:World)(hbk:w.heap[b]?=some (.cells #[p,v] T (0,0)))(hp:p= .pointer none\/p= .pointer (some ⟨b,0,none⟩))
  (hown:w.ownsRow 0 5 1 v s.size (bytC s)) (hlen:s.size+t.size<=1000000):
  Calls Tryz.prog 51 #[.pointer (some ⟨b,0,none⟩),.string t] w fun e w'=>e= .returned (.tuple #[.int .i64 t.size,.nilIface])/\∃v',w'.heap[b]?=some (.cells #[.pointer (some ⟨b,0,none⟩),v'] T (0,0))/\
   w'.ownsRow 0 5 1 v' (s++t).size (bytC (s++t))/\v'.ownBlock≠some b/\Chg w w' (fun k=>k=b\/v.ownBlock=some k)/\(∀k,v'.ownBlock=some k->v.ownBlock=some k\/w.heap.size<=k):=by
 obtain⟨i0,hi,hz0,hz1,hz2⟩:=info_parts info_u8
 have hne:v.ownBlock≠some b:=ownBlock_ne hown hbk hTe
 go_enter Tryz.func51,Tryz.ntmps51
 go_wp2_with (go_at_call 80;refine(cc_any hT b p v _ hbk hp).mono ?_)
 rintro e w1 ⟨rfl,hbk1,hc1,hz⟩
 have hown1:w1.ownsRow 0 5 1 v s.size (bytC s):=ownsRow_same hown fun k hk=>hc1.block k (hown.lt k hk).2 fun e=>hne (e▸hk)
 obtain⟨c0,c1,hsh,f0,f1,hlt⟩:=box_shape hbk1
 go_wp2_with (at_builtin;refine wpList_app_str rfl _ _ 78 9 rfl 5 i0 Tryz.underlying78 Tryz.underlying9 hi hz0 hz1 hz2 _ _ _ rfl hown1 t rfl hlen ?_)
 intro v' w2 hown' hgrow hnew
 have hb2:w2.heap[b]?=some (.cells #[.pointer (some ⟨b,0,none⟩),v] T (0,0)):=by
  rw[hgrow.block b hlt (fun e=>hne e.symm)]
  exact hbk1
 obtain⟨d0,d1,hsh2,g0,g1,hlt2⟩:=box_shape hb2
 have hne':v'.ownBlock≠some b:=ownBlock_ne hown' hb2 hTe
 obtain⟨ao,n',cap,rfl⟩:∃ao n' cap,v'= .slice ao n' cap:=by
  rcases hown'.2 with⟨hv,_⟩|⟨g,cap,cur,hv,_⟩
  .exact⟨_,_,_,hv⟩
  exact⟨_,_,_,hv⟩
 go_wp2
 go_ret2
 refine⟨rfl,.slice ao n' cap,?_,?_,hne',?_,fun k hk=>(hnew k hk).imp id fun q=>by omega⟩
 .rw[heap_setCell_same w2 b 1 _ _ _ hb2];rfl
 .rw[size_app,bytC_app]
  exact ownsRow_same hown' fun k hk=>heap_setCell_other w2 _ k _ fun e=>hne' (by have e:k=b:=e;rw[<-e];exact hk)
 have h2:Chg w1 w2 (fun k=>k=b\/v.ownBlock=some k):=⟨hgrow.os,hgrow.tape,hgrow.output,hgrow.size,fun k hk hn=>hgrow.block k hk fun e=>hn (.inr e.symm)⟩
 have h1:Chg w w1 (fun k=>k=b\/v.ownBlock=some k):=⟨hc1.os,hc1.tape,hc1.output,hc1.size,fun k hk hn=>hc1.block k hk fun e=>hn (.inl e)⟩
 have h3:=chg_setCell w2 b 1 (.slice ao n' cap)
 exact(h1.trans h2 fun _ _ q=>q).trans ⟨h3.os,h3.tape,h3.output,h3.size,fun k hk hn=>h3.block k hk fun e=>hn (.inl e)⟩ fun _ _ q=>q
theorem below_freeze_chg (w:World)(g k:Nat):Chg w (w.freeze ⟨g,0,none⟩ k) (· =g):=by
 have h:=below_freeze (Below.refl g w) (p:=⟨g,0,none⟩) (Nat.le_refl g) k
 refine⟨h.os,h.tape,h.output,h.size,fun j hj hn=>?_⟩
 unfold World.freeze
 split
 .rfl
 simp[Array.getElem?_modify,Ne.symm hn]
theorem str_any {T:TypeId}(b:Nat)(p v:Value)(s:ByteArray)(w:World)(hbk:w.heap[b]?=some (.cells #[p,v] T (0,0)))(hown:w.ownsRow 0 5 1 v s.size (bytC s))(h0:0<s.size)(hlen:s.size<=1000000):
  Calls Tryz.prog 31 #[.pointer (some ⟨b,0,none⟩)] w fun e w'=>e= .returned (.string s)/\Chg w w' (fun k=>v.ownBlock=some k):=by
 obtain⟨g,cap,cur,rfl,hbg,hg,hnc,hcm,hcs,htake⟩:∃g cap cur,v= .slice (some ⟨g,0,none⟩) s.size cap/\0<=g/\w.heap[g]?=some (.cells cur 5 (0,0))/\s.size<=cap/\cap<=maxLen/\cur.size=cap*1/\cur.toList.take (s.size*1)=bytC s:=by
  rcases hown.2 with⟨_,hz⟩|⟨g,cap,cur,hv,r⟩
  .omega
  exact⟨g,cap,cur,hv,r⟩
 have hl:s.data.toList≠[]:=by
  intro e
  have:s.size=0:=by show s.data.size=0;rw[<-Array.length_toList,e];rfl
  omega
 have hls:s.data.toList.length=s.size:=Array.length_toList
 have c1:w.drew.cell? ⟨b,1,none⟩=some (.slice (some ⟨g,0,none⟩) s.size cap):=by
  have:w.drew.heap[b]?=some (.cells #[p,.slice (some ⟨g,0,none⟩) s.size cap] T (0,0)):=hbk
  rw[cell_of_heap this];rfl
 have hSD:(Builtin.unsafeSliceData_ #[78] 127 #[.slice (some ⟨g,0,none⟩) s.size cap]).run Tryz.prog w.drew= .ok (.pointer (some ⟨g,0,none⟩)) w.drew:=
  run_unsafeSliceData_row _ _ _ _ _ _ (by omega)
 have hUS:(Builtin.unsafeString_ #[127,3] 9 #[.pointer (some ⟨g,0,none⟩),.int .i64 s.size]).run Tryz.prog w.drew= .ok (.string s) (w.drew.freeze ⟨g,0,none⟩ s.size):=by
  have:=run_unsafeString_row (P:=Tryz.prog) w.drew 127 3 9 5 Tryz.underlying127 (by kernel_rfl) g cur.size (by have hg':w.drew.heap[g]?=some (.cells cur 5 (0,0)):=hg;simp[World.shape?,hg']) s.data.toList hl (by omega) (by omega) (fun j x hx=>by
   have:=hown.cells (g:=g) rfl j (.int .u8 x.toNat) (by simp only[bytC,List.getElem?_map,hx];rfl)
   exact this)
  rw[hls] at this
  exact this
 have mixed:Tryz.prog.follows .mixedOrders=true:=by kernel_rfl
 go_enter Tryz.func31,Tryz.ntmps31
 go_wp2
 go_region_o
 all_goals (go_wp2;go_ret;exact⟨rfl,let h:=below_freeze_chg w.drew g s.size;⟨h.os,h.tape,h.output,h.size,fun k hk hn=>h.block k hk fun e=>hn (by rw[e];rfl)⟩⟩)
section
variable {o:OrgG}{n:Nat}{A A':Asg}{S S':Stab}{F:Nat->Prop}{s:Nat->Option E2}{r:Nat->Option R2}{a:Act}{w w':World}{b j:Nat}
abbrev wsTup (t:ByteArray):Sy:=.tup [(false,[.v (.int .i64 (t.size:Int))]),(false,[.v .nilIface])]
theorem ws_step {T:TypeId}(hT:BdT T)(hTe:T≠5)(H:OkF o n A S F s r a w)(hF:¬F b){c0 c1:Sc}(hx:r j=some (.box T [c0,c1]))(hp:c0.den A= .pointer none\/c0.den A= .pointer (some ⟨A.b j,0,none⟩)){v:Value}{q t:ByteArray}
  (hv:c1.den A=v) (hown:w.ownsRow 0 5 1 v q.size (bytC q)) {old:List (Nat×Option R2)} (hold:(old=[]/\v.ownBlock=none)\/∃k,old=[(k,none)]/\r k=some (.ext (.byt 5 q))/\v=A.v k/\k≠j) (hlen:q.size+t.size<=1000000) (cs:List Prop):
  Calls Tryz.prog 51 #[.pointer (some ⟨A.b j,0,none⟩),.string t] w fun e w'=> ∃v',e= .returned v'/\After o n F s r a ⟨cs,[],wsTup t,(j,some (.box T [.ptr j 0,.own b]))::(b,some (.ext (.byt 5 (q++t))))::old⟩ v' w':=by
 have hbox:w.heap[A.b j]?=some (.cells #[c0.den A,c1.den A] T (0,0)):=H.frm.ok j _ (show memF A r j=some _ by simp[memF,hx];rfl)
 have hFj:=(H.rall j _ hx).1
 have hjb:j≠b:=fun e=>hF (e▸hFj)
 rw[hv] at hbox
 refine(ws_any hT hTe (A.b j) _ v q t w hbox hp hown hlen).mono ?_
 rintro e w' ⟨rfl,v',h1,h2,h3,h4,h5⟩
 refine⟨_,rfl,?_⟩
 obtain⟨p',n',c',hv'⟩:∃p n c,v'= .slice p n c:=by
  rcases h2.2 with⟨h,_⟩|⟨g,cap,cur,h,_⟩
  .exact⟨_,_,_,h⟩
  exact⟨_,_,_,h⟩
 have hag:=Agr.set (A:=A) hF p' n' c' 0
 have hbj:(A.set b p' n' c' 0).b j=A.b j:=(hag j hFj).2.1.symm
 have hvb:(A.set b p' n' c' 0).v b=v':=by rw[Asg.set_v,hv']
 have hHas:∀k,v.ownBlock=some k->HasK A r (fun i=> ∃z,(i,z)∈(j,some (R2.box T [.ptr j 0,.own b]))::(b,some (.ext (.byt 5 (q++t))))::old/\i≠b) k:=fun k hk=>by
  rcases hold with⟨_,h⟩|⟨i,rfl,hi,rfl,hij⟩
  .rw[h] at hk;cases hk
  have hFi:=(H.rall i _ hi).1
  exact⟨i,_,⟨none,by simp,fun e=>hF (e▸hFi)⟩,hi,hk⟩
 have hHj:HasK A r (fun i=> ∃z,(i,z)∈(j,some (R2.box T [.ptr j 0,.own b]))::(b,some (.ext (.byt 5 (q++t))))::old/\i≠b) (A.b j):=⟨j,_,⟨_,List.mem_cons_self,hjb⟩,hx,rfl⟩
 have hch:Chg w w' (HasK A r (fun i=> ∃z,(i,z)∈(j,some (R2.box T [.ptr j 0,.own b]))::(b,some (.ext (.byt 5 (q++t))))::old/\i≠b)):=
  ⟨h4.os,h4.tape,h4.output,h4.size,fun k hk hn=>h4.block k hk fun e=>hn (e.elim (fun e=>e▸hHj) fun e=>hHas k e)⟩
 have hsome:∀ {i:Nat} {z:R2},(i,some z)∈(j,some (R2.box T [.ptr j 0,.own b]))::(b,some (.ext (.byt 5 (q++t))))::old->(i=j/\z= .box T [.ptr j 0,.own b])\/(i=b/\z= .ext (.byt 5 (q++t))):=fun {i z} h=>by
  rcases List.mem_cons.1 h with h|h
  .cases h;exact .inl ⟨rfl,rfl⟩
  rcases List.mem_cons.1 h with h|h
  .cases h;exact .inr ⟨rfl,rfl⟩
  rcases hold with⟨rfl,_⟩|⟨k,rfl,_⟩
  .cases h
  rcases List.mem_cons.1 h with h|h
  .cases h
  cases h
 refine⟨A.set b p' n' c' 0,S,H.swap hag _ (fun i ⟨z,hz,_⟩=>⟨z,hz⟩) hch (fun _ h=>h) (fun _ h=>.inl h) (fun i z hi=>?_) (fun i i' z z' c hi hi' k1 k2=>?_),rfl,(fun p hp c hc=>?_),(fun p hp c hc=>?_)⟩
 .rcases hsome hi with⟨rfl,rfl⟩|⟨rfl,rfl⟩
  .refine⟨fun c hc=>?_,fun c hc=>?_,rfl,?_,fun c hc=>?_⟩
   .rcases List.mem_cons.1 hc with rfl|hc
    .exact .inr ⟨_,List.mem_cons_self⟩
    have:=List.mem_singleton.1 hc;subst this;exact .inr ⟨_,List.mem_cons_of_mem _ List.mem_cons_self⟩
   .rcases List.mem_cons.1 hc with rfl|hc
    .trivial
    have:=List.mem_singleton.1 hc;subst this;trivial
   .show w'.heap[(A.set b p' n' c' 0).b i]?=some (.cells #[.pointer (some ⟨(A.set b p' n' c' 0).b i,0,none⟩),(A.set b p' n' c' 0).v b] T (0,0))
    rw[hbj,hvb];exact h1
   have hc:some ((A.set b p' n' c' 0).b i)=some c:=hc
   cases hc
   rw[hbj]
   exact⟨.inl hHj,(Array.getElem?_eq_some_iff.1 h1).1⟩
  refine⟨tv,tv,rfl,?_,fun c hc=>?_⟩
  .show w'.ownsRow 0 5 1 ((A.set i p' n' c' 0).v i) _ _
   rw[hvb];exact h2
  have hc:((A.set i p' n' c' 0).v i).ownBlock=some c:=hc
  rw[hvb] at hc
  exact⟨(h5 c hc).imp (hHas c) id,(h2.lt c hc).2⟩
 .rcases hsome hi with⟨rfl,rfl⟩|⟨rfl,rfl⟩<;>rcases hsome hi' with⟨rfl,rfl⟩|⟨rfl,rfl⟩
  .rfl
  .have k1:some ((A.set i' p' n' c' 0).b i)=some c:=k1
   have k2:((A.set i' p' n' c' 0).v i').ownBlock=some c:=k2
   cases k1
   rw[hvb,hbj] at k2
   exact absurd k2 h3
  .have k1:((A.set i p' n' c' 0).v i).ownBlock=some c:=k1
   have k2:some ((A.set i p' n' c' 0).b i')=some c:=k2
   cases k2
   rw[hvb,hbj] at k1
   exact absurd k1 h3
  rfl
 .rcases List.mem_cons.1 hp with rfl|hp
  .have:=List.mem_singleton.1 hc;subst this;trivial
  have:=List.mem_singleton.1 hp;subst this;have:=List.mem_singleton.1 hc;subst this;trivial
 rcases List.mem_cons.1 hp with rfl|hp
 .have:=List.mem_singleton.1 hc;subst this;trivial
 have:=List.mem_singleton.1 hp;subst this;have:=List.mem_singleton.1 hc;subst this;trivial
def wsT (T:TypeId)(b:Nat)(caps:List (Nat×Nat))(ys:List Sy):Tr Out:=match caps,ys with
 |[],[.one (.ptr j 0),.one (.v (.string t))]=>.res j fun x=>match x with
  | .box T' [c0,c1]=>guardT (Nat.beq T' T && (match c0 with| .v (.pointer none)=>true| .ptr i 0=>Nat.beq i j|_=>false)) (match c1 with
   | .v (.slice none 0 0)=>.ret ⟨[t.size<=1000000],[],wsTup t,[(j,some (.box T [.ptr j 0,.own b])),(b,some (.ext (.byt 5 t)))]⟩
   | .own k=>.res k fun y=>match y with
    | .ext (.byt e q)=>guardT (Nat.beq e 5 && !Nat.beq k j) (.ret ⟨[q.size+t.size<=1000000],[],wsTup t,[(j,some (.box T [.ptr j 0,.own b])),(b,some (.ext (.byt 5 (q++t)))),(k,none)]⟩)
    |_=>.fail
   |_=>.fail)
  |_=>.fail
 |_,_=>.fail
theorem ws_ok {T:TypeId}(hT:BdT T)(hTe:T≠5):ConTr Tryz.prog 51 (wsT T):=by
 intro o n A S F s r a w b B caps ys out H hF hys hcaps h hcs hhs hB
 unfold wsT at h
 split at h
 .rename_i j t
  obtain⟨x,hx,h⟩:=res_run h
  split at h
  .rename_i T' c0 c1
   obtain⟨hg,h⟩:=guardT_run h
   rw[Bool.and_eq_true] at hg
   obtain⟨g1,g2⟩:=hg
   have g1:=beq_t g1
   subst g1
   have hp:c0.den A= .pointer none\/c0.den A= .pointer (some ⟨A.b j,0,none⟩):=by
    split at g2
    .exact .inl rfl
    .have:=beq_t g2;subst this;exact .inr rfl
    cases g2
   have hbF:(∀p∈out.re,p.1<B)->(b,some (R2.ext (.byt 5 t)))∈out.re\/(∃z,(b,z)∈out.re)->¬F b:=fun h1 h2=>by
    rcases h2 with h2|⟨z,h2⟩
    .exact hF b (Nat.le_refl _) (h1 _ h2)
    exact hF b (Nat.le_refl _) (h1 _ h2)
   split at h
   .have e:=ret_run h
    subst e
    have hb:=hbF hB (.inr ⟨_,List.mem_cons_of_mem _ List.mem_cons_self⟩)
    have hl:t.size<=1000000:=hcs _ (List.mem_singleton.2 rfl)
    have:=ws_step hT hTe H hb hx hp (v:=.slice none 0 0) (q:=⟨#[]⟩) (t:=t) rfl (World.ownsRow_nil w 0 _ 1) (old:=[]) (.inl ⟨rfl,rfl⟩) (by show 0+t.size<=1000000;omega) [t.size<=1000000]
    rw[show(⟨#[]⟩:ByteArray)++t=t from by apply ByteArray.ext;rw[ByteArray.data_append];simp] at this
    exact this
   .rename_i k _
    obtain⟨y,hy,h⟩:=res_run h
    split at h
    .rename_i e q
     obtain⟨hg,h2⟩:=guardT_run h
     clear h
     rw[Bool.and_eq_true,Bool.not_eq_true'] at hg
     have g3:=beq_t hg.1
     subst g3
     have g4:k≠j:=fun e=>by rw[e] at hg;simp at hg
     have e:=ret_run h2
     subst e
     have hb:=hbF hB (.inr ⟨_,List.mem_cons_of_mem _ List.mem_cons_self⟩)
     have hl:q.size+t.size<=1000000:=hcs _ (List.mem_singleton.2 rfl)
     have hown:w.ownsRow 0 5 1 (A.v k) q.size (bytC q):=H.frm.ok k _ (show memF A r k=some _ by simp[memF,hy];rfl)
     exact ws_step hT hTe H hb hx hp (v:=A.v k) rfl hown (.inr ⟨k,rfl,hy,rfl,g4⟩) hl [q.size+t.size<=1000000]
    cases h
   cases h
  cases h
 cases h
def C_ws:Con Tryz.prog:=⟨_,_,ws_ok bdT_pr (by decide)⟩
def strT (T:TypeId)(b:Nat)(caps:List (Nat×Nat))(ys:List Sy):Tr Out:=match caps,ys with
 |[],[.one (.ptr j 0)]=>.res j fun x=>match x with
  | .box T' [c0,.own k]=>.res k fun y=>match y with
   | .ext (.byt e q)=>guardT (Nat.beq e 5) (.ret ⟨[0<q.size/\q.size<=1000000],[],.one (.v (.string q)),[(k,none)]⟩)
   |_=>.fail
  |_=>.fail
 |_,_=>.fail
theorem str_ok {T:TypeId}:ConTr Tryz.prog 31 (strT T):=by
 intro o n A S F s r a w b B caps ys out H hF hys hcaps h hcs hhs hB
 unfold strT at h
 split at h
 .rename_i j
  obtain⟨x,hx,h⟩:=res_run h
  split at h
  .rename_i T' c0 k
   obtain⟨y,hy,h⟩:=res_run h
   split at h
   .rename_i e q
    obtain⟨hg,h2⟩:=guardT_run h
    clear h
    have g3:=beq_t hg
    subst g3
    have e:=ret_run h2
    subst e
    obtain⟨h0,hl⟩:0<q.size/\q.size<=1000000:=hcs _ (List.mem_singleton.2 rfl)
    have hown:w.ownsRow 0 5 1 (A.v k) q.size (bytC q):=H.frm.ok k _ (show memF A r k=some _ by simp[memF,hy];rfl)
    have hbox:w.heap[A.b j]?=some (.cells #[c0.den A,A.v k] T' (0,0)):=H.frm.ok j _ (show memF A r j=some _ by simp[memF,hx];rfl)
    refine(str_any (A.b j) _ _ q w hbox hown h0 hl).mono ?_
    rintro e w' ⟨rfl,hc⟩
    refine⟨_,rfl,A,S,H.swap (Agr.refl _ _) (· =k) (fun i hi=>⟨none,by rw[hi];exact List.mem_singleton.2 rfl⟩) ⟨hc.os,hc.tape,hc.output,hc.size,fun c hk hn=>hc.block c hk fun e=>hn ⟨k,_,rfl,hy,e⟩⟩ (fun _ h=>h) (fun _ h=>.inl h) (fun i z hi=>?_) (fun i i' z z' c hi hi' k1 k2=>?_),rfl,tv,tv⟩
    .cases List.mem_singleton.1 hi
    cases List.mem_singleton.1 hi
   cases h
  cases h
 cases h
def C_str:Con Tryz.prog:=⟨_,_,str_ok (T:=0)⟩
def joinB (l:List ByteArray)(sep:ByteArray):ByteArray:=⟨(Lib.join (l.map (·.data.toList)) sep.data.toList).toArray⟩
theorem rd_strV' {S:Stab}{w:World}{v:Value}{s:ByteArray}(h:Rd S w v s):v= .string s:=by
 obtain⟨cs,h,rfl⟩:=h
 have h:cs=[.string s]:=h
 subst h;rfl
theorem sjoin_c:ConOk Tryz.prog 52 [(false,.list .str),(false,.str)] [.str] (fun x=>(show List ByteArray from x.1).length<=1000000/\(joinB (show List ByteArray from x.1) (show ByteArray from x.2.1)).size<=1000000) (fun x=>(joinB (show List ByteArray from x.1) (show ByteArray from x.2.1),())):=by
 intro o vs x hx hd
 match vs,x,hx,hd with
 |[v1,v2],((l:List ByteArray),(sep:ByteArray),_),hx,hd=>
  obtain⟨hl,hd⟩:l.length<=1000000/\(joinB l sep).size<=1000000:=hd
  have hz:(joinB l sep).size=(Lib.join (l.map (·.data.toList)) sep.data.toList).length:=by show Array.size _=_;simp[joinB]
  have e:=rd_strV' (s:=sep) hx.2.1
  subst e
  obtain⟨p,c,rfl,h1,h2,h3⟩:=rd_slice (show Rd (· <o.w.heap.size) o.w v1 l from hx.1)
  have goal:Calls Tryz.prog 52 #[.slice p l.length c,.string sep] o.w (fun e w'=>e= .returned (.string (joinB l sep))/\Below o.w.heap.size o.w w'):=by
   rcases h3 with rfl|⟨g,off,cur,t,fz,rfl,hg,hw,hc⟩
   .exact(Tryz.strings_Join_none p c _ o.w).mono fun e w' ⟨he,hw⟩=>⟨he,hw▸Below.refl _ _⟩
   refine Tryz.strings_Join g off c l _ o.w (fun j y hy=>?_) hg (by omega) h1 (by omega)
   obtain⟨hj,rfl⟩:=List.getElem?_eq_some_iff.1 hy
   obtain⟨cs,hr,hq⟩:=hc j hj
   have hr:cs=[.string l[j]]:=hr
   have:=hq 0 (show 0<1 by decide)
   rw[hr] at this
   rw[cell_of_row o.w g _ cur t fz hw]
   have e:off+j*Data.size ByteArray+0=off+j:=by show off+j*1+0=_;omega
   rw[e] at this
   rw[this];rfl
  exact goal.mono fun e w' ⟨h1,h2⟩=>⟨_,h1,⟨[.string _],rfl,rfl⟩,h2⟩
def C_sjoin:Con Tryz.prog:=plain sjoin_c
end
theorem bk {i:Int}{n:Nat}(h:decide (0<=i/\i<(n:Int))=true:=by kernel_rfl):Bnd i n:=show 0<=i/\i<(n:Int) from of_decide_eq_true h
theorem ik {n:Int}(h:decide (-9223372036854775808<=n/\n<=9223372036854775807)=true:=by kernel_rfl):InR .i64 n:=show -9223372036854775808<=n/\n<=9223372036854775807 from of_decide_eq_true h
theorem sk {s:ByteArray}(h:decide (s.size<=1000000)=true:=by kernel_rfl):kwf .str s:=wks (of_decide_eq_true h)
theorem dk {p:Prop}[Decidable p](h:decide p=true:=by kernel_rfl):p:=of_decide_eq_true h
abbrev aB:ByteArray:=⟨#[97]⟩
abbrev cB:ByteArray:=⟨#[99,97,115,101]⟩
abbrev vaB:ByteArray:=⟨#[118,101,114,116,101,120,32,97]⟩
abbrev txB:ByteArray:=⟨#[99,97,115,101,10,118,101,114,116,101,120,32,97,10]⟩
theorem tx_lines:linesS txB=[(0,cB),(5,vaB)]:=by kernel_rfl
theorem case_a:caseF 0 [aB] [] [] [] [[]] []=((((1,[]),(([],[]),([[]],[])))),0):=by
 have h:allCs []:=fun j hj=>by simp at hj;omega
 unfold caseF
 rw[if_pos rfl,if_pos h]
 rfl
theorem hold_a:holdR 1 [] [] [] [[]] []=0:=by kernel_rfl
theorem walks_a:walksF 1 [] [] [] [[]]=([],0):=by kernel_rfl
abbrev inR (n:Int):Prop:= -9223372036854775808<=n/\n<=9223372036854775807
theorem rin_c:ConOk Tryz.prog 111 [(false,(.list .int)),(false,.int)] [.bool] (fun _=>True) (fun x=>(decide ((I_ x.2.1)∈(J_ x.1)),())):=by
 refine con_of Tryz.f111 18 [] Tryz.func111 fun o x hd _ _ h=>?_
 obtain⟨(l:List Int),(x:Int),_⟩:=x
 have hl0:=lnI h 0 l
 refine go0 [] h fun _ _ h=>?_
 refine go_loop (Int) (fun i=>⟨[(0,eo 0),(1,en x),(5,en i)],[(0,some (.ar .int l))],1⟩) (fun i=>0<=i/\i<=(l.length:Int)/\∀j:Nat,(j:Int)<i->¬l.getD j 0=x) (fun i=>((l.length:Int)-i).toNat) (0) (ir 1) h ⟨Int.le_refl _,Int.natCast_nonneg _,fun j hj=>by omega⟩ fun i _ _ _ hK1 hI h=>?_
 obtain⟨i0,i1,i2⟩:=hI
 refine go0 [] h fun _ _ h=>?_
 refine go_if h (fun(q1:i<(l.length:Int))=>?_) (fun(q1:¬(i<(l.length:Int)))=>?_)
 .refine go (pr:=(Bnd i l.length)) [] h bx fun _ _ h=>?_
  refine go_if h (fun(q2:(l.getD i.toNat 0)=x)=>?_) (fun(q2:¬((l.getD i.toNat 0)=x))=>?_)
  .refine go0 [] h fun _ _ h=>?_
   exact out ((true:Bool),()) h (congrArg (·,()) (show(true)=decide (x∈l) from(decide_eq_true (mem_getD.2 ⟨i.toNat,by omega,q2⟩)).symm))
  refine go (pr:=(InR .i64 (i+1))) [] h r64 fun _ _ h=>?_
  exact lp_ (hK1 (i+1) (ir 1) h ⟨by omega,by omega,fun j hj=>if z:(j:Int)<i then i2 j z else by rw[show j=i.toNat by omega];exact q2⟩ (by omega))
 refine go0 [] h fun _ _ h=>?_
 exact out ((false:Bool),()) h (congrArg (·,()) (show(false)=decide (x∈l) from(decide_eq_false fun q=>by obtain⟨j,hj,e⟩:=mem_getD.1 q;exact i2 j (by omega) e).symm))
def C_rin:Con Tryz.prog:=plain rin_c
theorem requal_c:ConOk Tryz.prog 24 [(false,(.list .int)),(false,(.list .int))] [.bool] (fun _=>True) (fun x=>(decide ((J_ x.1)=(J_ x.2.1)),())):=by
 refine con_of Tryz.f24 26 [] Tryz.func24 fun o x hd _ _ h=>?_
 obtain⟨(l:List Int),(m:List Int),_⟩:=x
 have hl0:=lnI h 0 l
 have hl1:=lnI h 1 m
 refine go0 [] h fun _ _ h=>?_
 refine go_if h (fun(q1:¬((l.length:Int)=(m.length:Int)))=>?_) (fun(q1:(l.length:Int)=(m.length:Int))=>?_)
 .refine go0 [] h fun _ _ h=>?_
  exact out ((false:Bool),()) h (congrArg (·,()) (show(false)=decide (l=m) from(decide_eq_false fun e=>q1 (by rw[e])).symm))
 have hle:=q1
 refine go0 [] h fun _ _ h=>?_
 refine go_loop (Int) (fun i=>⟨[(0,eo 0),(1,eo 1),(5,en i)],[(0,some (.ar .int l)),(1,some (.ar .int m))],2⟩) (fun i=>0<=i/\i<=(l.length:Int)/\∀j:Nat,(j:Int)<i->l.getD j 0=m.getD j 0) (fun i=>((l.length:Int)-i).toNat) (0) (ir 2) h ⟨Int.le_refl _,Int.natCast_nonneg _,fun j hj=>by omega⟩ fun i _ _ _ hK1 hI h=>?_
 obtain⟨i0,i1,i2⟩:=hI
 refine go0 [] h fun _ _ h=>?_
 refine go_if h (fun(q2:i<(l.length:Int))=>?_) (fun(q2:¬(i<(l.length:Int)))=>?_)
 .refine go (pr:=(Bnd i l.length)/\(Bnd i m.length)) [] h ⟨bx,bx⟩ fun _ _ h=>?_
  refine go_if h (fun(q3:¬((l.getD i.toNat 0)=(m.getD i.toNat 0)))=>?_) (fun(q3:(l.getD i.toNat 0)=(m.getD i.toNat 0))=>?_)
  .refine go0 [] h fun _ _ h=>?_
   exact out ((false:Bool),()) h (congrArg (·,()) (show(false)=decide (l=m) from(decide_eq_false fun e=>q3 (by rw[e])).symm))
  refine go (pr:=(InR .i64 (i+1))) [] h r64 fun _ _ h=>?_
  exact lp_ (hK1 (i+1) (ir 2) h ⟨by omega,by omega,fun j hj=>if z:(j:Int)<i then i2 j z else by rw[show j=i.toNat by omega];exact q3⟩ (by omega))
 refine go0 [] h fun _ _ h=>?_
 exact out ((true:Bool),()) h (congrArg (·,()) (show(true)=decide (l=m) from(decide_eq_true (eq_of_getD hle fun j hj=>i2 j (by omega))).symm))
def C_requal:Con Tryz.prog:=plain requal_c
theorem rrises_c:ConOk Tryz.prog 167 [(false,(.list .int)),(false,.int)] [.bool] (fun _=>True) (fun x=>(decide (risesP (J_ x.1) (I_ x.2.1)),())):=by
 refine con_of Tryz.f167 41 [] Tryz.func167 fun o x hd _ _ h=>?_
 obtain⟨(l:List Int),(n:Int),_⟩:=x
 have hl0:=lnI h 0 l
 refine go0 [] h fun _ _ h=>?_
 refine go_loop (Int) (fun i=>⟨[(0,eo 0),(1,en n),(5,en i)],[(0,some (.ar .int l))],1⟩) (fun i=>0<=i/\i<=(l.length:Int)/\∀j:Nat,(j:Int)<i->(0<=l.getD j 0/\l.getD j 0<n/\(0<j->l.getD (j-1) 0<l.getD j 0))) (fun i=>((l.length:Int)-i).toNat) (0) (ir 1) h ⟨Int.le_refl _,Int.natCast_nonneg _,fun j hj=>by omega⟩ fun i _ _ _ hK1 hI h=>?_
 obtain⟨i0,i1,i2⟩:=hI
 refine go0 [] h fun _ _ h=>?_
 refine go_if h (fun(q1:i<(l.length:Int))=>?_) (fun(q1:¬(i<(l.length:Int)))=>?_)
 .refine go (pr:=(Bnd i l.length)/\((¬((l.getD i.toNat 0)<0))->(Bnd i l.length))/\(((¬((l.getD i.toNat 0)<0))/\(¬(n<=(l.getD i.toNat 0))))->((0:Int)<i)->(Bnd i l.length))/\(((¬((l.getD i.toNat 0)<0))/\(¬(n<=(l.getD i.toNat 0))))->((0:Int)<i)->(InR .i64 (i-1)))/\(((¬((l.getD i.toNat 0)<0))/\(¬(n<=(l.getD i.toNat 0))))->((0:Int)<i)->(Bnd (i-1) l.length))) [] h ⟨bx,fun _=>bx,fun _ _=>bx,fun _ _=>r64,fun _ _=>bx⟩ fun _ _ h=>?_
  refine go_if h (fun(q2:(((l.getD i.toNat 0)<0)\/(n<=(l.getD i.toNat 0)))\/(((0:Int)<i)/\((l.getD i.toNat 0)<=(l.getD (i-1).toNat 0))))=>?_) (fun(q2:((¬((l.getD i.toNat 0)<0))/\(¬(n<=(l.getD i.toNat 0))))/\((¬((0:Int)<i))\/(¬((l.getD i.toNat 0)<=(l.getD (i-1).toNat 0)))))=>?_)
  .refine go0 [] h fun _ _ h=>?_
   exact out ((false:Bool),()) h (congrArg (·,()) (show(false)=decide (risesP l n) from(decide_eq_false fun q=>by have q:=q i.toNat (by omega);have z:=q2;rw[show(i-1).toNat=i.toNat-1 by omega] at z;omega).symm))
  refine go (pr:=(InR .i64 (i+1))) [] h r64 fun _ _ h=>?_
  exact lp_ (hK1 (i+1) (ir 1) h ⟨by omega,by omega,fun j hj=>if z:(j:Int)<i then i2 j z else by rw[show j=i.toNat by omega];have q:=q2;rw[show(i-1).toNat=i.toNat-1 by omega] at q;omega⟩ (by omega))
 refine go0 [] h fun _ _ h=>?_
 exact out ((true:Bool),()) h (congrArg (·,()) (show(true)=decide (risesP l n) from(decide_eq_true (show risesP l n from fun j hj=>i2 j (by omega))).symm))
def C_rrises:Con Tryz.prog:=plain rrises_c
theorem rising_c:ConOk Tryz.prog 96 [(false,(.list .int)),(false,.int)] [.bool] (fun _=>True) (fun x=>(decide (risesP (J_ x.1) (I_ x.2.1)),())):=by
 refine con_of Tryz.f96 35 [] Tryz.func96 fun o x hd _ _ h=>?_
 obtain⟨(l:List Int),(n:Int),_⟩:=x
 have hl0:=lnI h 0 l
 refine go0 [] h fun _ _ h=>?_
 refine go_loop (Int) (fun i=>⟨[(0,eo 0),(1,en n),(7,eo 0),(8,en (l.length:Int)),(9,en i)],[(0,some (.ar .int l))],1⟩) (fun i=>0<=i/\i<=(l.length:Int)/\∀j:Nat,(j:Int)<i->(0<=l.getD j 0/\l.getD j 0<n/\(0<j->l.getD (j-1) 0<l.getD j 0))) (fun i=>((l.length:Int)-i).toNat) (0) (ir 1) h ⟨Int.le_refl _,Int.natCast_nonneg _,fun j hj=>by omega⟩ fun i _ _ _ hK1 hI h=>?_
 obtain⟨i0,i1,i2⟩:=hI
 refine go0 [] h fun _ _ h=>?_
 refine go_if h (fun(q1:i<(l.length:Int))=>?_) (fun(q1:¬(i<(l.length:Int)))=>?_)
 .refine go (pr:=(Bnd i l.length)/\(((¬((l.getD i.toNat 0)<0))/\(¬(n<=(l.getD i.toNat 0))))->((0:Int)<i)->(InR .i64 (i-1)))/\(((¬((l.getD i.toNat 0)<0))/\(¬(n<=(l.getD i.toNat 0))))->((0:Int)<i)->(Bnd (i-1) l.length))) [] h ⟨bx,fun _ _=>r64,fun _ _=>bx⟩ fun _ _ h=>?_
  refine go_if h (fun(q2:(((l.getD i.toNat 0)<0)\/(n<=(l.getD i.toNat 0)))\/(((0:Int)<i)/\((l.getD i.toNat 0)<=(l.getD (i-1).toNat 0))))=>?_) (fun(q2:((¬((l.getD i.toNat 0)<0))/\(¬(n<=(l.getD i.toNat 0))))/\((¬((0:Int)<i))\/(¬((l.getD i.toNat 0)<=(l.getD (i-1).toNat 0)))))=>?_)
  .refine go0 [] h fun _ _ h=>?_
   exact out ((false:Bool),()) h (congrArg (·,()) (show(false)=decide (risesP l n) from(decide_eq_false fun q=>by have q:=q i.toNat (by omega);have z:=q2;rw[show(i-1).toNat=i.toNat-1 by omega] at z;omega).symm))
  refine go (pr:=(InR .i64 (i+1))) [] h r64 fun _ _ h=>?_
  exact lp_ (hK1 (i+1) (ir 1) h ⟨by omega,by omega,fun j hj=>if z:(j:Int)<i then i2 j z else by rw[show j=i.toNat by omega];have q:=q2;rw[show(i-1).toNat=i.toNat-1 by omega] at q;omega⟩ (by omega))
 refine go0 [] h fun _ _ h=>?_
 exact out ((true:Bool),()) h (congrArg (·,()) (show(true)=decide (risesP l n) from(decide_eq_true (show risesP l n from fun j hj=>i2 j (by omega))).symm))
def C_rising:Con Tryz.prog:=plain rising_c
theorem rright_c:ConOk Tryz.prog 77 [(false,grT)] [.int] (fun x=>inR (I_ x.1.1)) (fun x=>(rightE (I_ x.1.1) (E_ x.1.2),())):=by
 refine con_of Tryz.f77 70 [] Tryz.func77 fun o x hd _ _ h=>?_
 obtain⟨⟨(n:Int),(E:List (Int×Int))⟩,_⟩:=x
 have hl0:=lnE h 0 E
 change inR n at hd
 have hn:=hd
 unfold inR at hn
 refine go0 [] h fun _ _ h=>?_
 refine go_if h (fun(q1:n<0)=>?_) (fun(q1:¬(n<0))=>?_)
 .refine go0 [] h fun _ _ h=>?_
  exact out (((3:Int):Int),()) h (congrArg (·,()) (show((3:Int))=rightE n E from by unfold rightE;first|rw[if_pos (by omega)]|rw[if_neg (by omega),if_pos (by omega)]))
 refine go (pr:=((¬((1024:Int)<n))/\(¬((1024:Int)<(E.length:Int))))->(InR .i64 (n+(E.length:Int)))) [] h (fun _=>r64) fun _ _ h=>?_
 refine go_if h (fun(q2:(((1024:Int)<n)\/((1024:Int)<(E.length:Int)))\/((1024:Int)<n+(E.length:Int)))=>?_) (fun(q2:((¬((1024:Int)<n))/\(¬((1024:Int)<(E.length:Int))))/\(¬((1024:Int)<n+(E.length:Int))))=>?_)
 .refine go0 [] h fun _ _ h=>?_
  exact out (((2:Int):Int),()) h (congrArg (·,()) (show((2:Int))=rightE n E from by unfold rightE;first|rw[if_pos (by omega)]|rw[if_neg (by omega),if_pos (by omega)]))
 refine go0 [] h fun _ _ h=>?_
 refine go_loop (Int) (fun i=>⟨[(1,ep 0),(3,en i)],[(0,some (.box 55 [.v (.int .i64 n),.own 1])),(1,some (.ar edT E))],2⟩) (fun i=>0<=i/\i<=(E.length:Int)/\∀j:Nat,(j:Int)<i->okE n (E.getD j (0,0))) (fun i=>((E.length:Int)-i).toNat) (0) (rk [1,0]) h ⟨Int.le_refl _,Int.natCast_nonneg _,fun j hj=>by omega⟩ fun i _ _ _ hK1 hI h=>?_
 obtain⟨i0,i1,i2⟩:=hI
 refine go0 [] h fun _ _ h=>?_
 refine go_if h (fun(q3:i<(E.length:Int))=>?_) (fun(q3:¬(i<(E.length:Int)))=>?_)
 .refine go (pr:=(Bnd i E.length)/\((¬((E.getD i.toNat (0,0)).1<0))->(Bnd i E.length))/\(((¬((E.getD i.toNat (0,0)).1<0))/\(¬(n<=(E.getD i.toNat (0,0)).1)))->(Bnd i E.length))/\((((¬((E.getD i.toNat (0,0)).1<0))/\(¬(n<=(E.getD i.toNat (0,0)).1)))/\(¬((E.getD i.toNat (0,0)).2<0)))->(Bnd i E.length))) [] h ⟨bx,fun _=>bx,fun _=>bx,fun _=>bx⟩ fun _ _ h=>?_
  refine go_if h (fun(q4:((((E.getD i.toNat (0,0)).1<0)\/(n<=(E.getD i.toNat (0,0)).1))\/((E.getD i.toNat (0,0)).2<0))\/(n<=(E.getD i.toNat (0,0)).2))=>?_) (fun(q4:(((¬((E.getD i.toNat (0,0)).1<0))/\(¬(n<=(E.getD i.toNat (0,0)).1)))/\(¬((E.getD i.toNat (0,0)).2<0)))/\(¬(n<=(E.getD i.toNat (0,0)).2)))=>?_)
  .refine go0 [] h fun _ _ h=>?_
   exact out (((3:Int):Int),()) h (congrArg (·,()) (show((3:Int))=rightE n E from(rightE_bad (by omega) (by omega) (by omega) i0 (by omega) (by unfold okE;have:=q4;omega)).symm))
  refine go (pr:=(InR .i64 (i+1))) [] h r64 fun _ _ h=>?_
  exact lp_ (hK1 (i+1) (ir 2) h ⟨by omega,by omega,fun j hj=>if z:(j:Int)<i then i2 j z else by rw[show j=i.toNat by omega];unfold okE;have:=q4;omega⟩ (by omega))
 refine go0 [] h fun _ _ h=>?_
 exact out (((0:Int):Int),()) h (congrArg (·,()) (show((0:Int))=rightE n E from(rightE_ok (i:=i) (by omega) (by omega) (by omega) (by omega) i2).symm))
def C_rright:Con Tryz.prog:=plain rright_c
theorem right_c:ConOk Tryz.prog 73 [(false,grT)] [.int] (fun x=>inR (I_ x.1.1)) (fun x=>(rightE (I_ x.1.1) (E_ x.1.2),())):=by
 refine con_of Tryz.f73 50 [] Tryz.func73 fun o x hd _ _ h=>?_
 obtain⟨⟨(n:Int),(E:List (Int×Int))⟩,_⟩:=x
 have hl0:=lnE h 0 E
 change inR n at hd
 have hn:=hd
 unfold inR at hn
 refine go0 [] h fun _ _ h=>?_
 refine go_if h (fun(q1:n<0)=>?_) (fun(q1:¬(n<0))=>?_)
 .refine go0 [] h fun _ _ h=>?_
  exact out (((3:Int):Int),()) h (congrArg (·,()) (show((3:Int))=rightE n E from by unfold rightE;first|rw[if_pos (by omega)]|rw[if_neg (by omega),if_pos (by omega)]))
 refine go (pr:=(¬((1024:Int)<n))->(InR .i64 (1024-n))) [] h (fun _=>r64) fun _ _ h=>?_
 refine go_if h (fun(q2:((1024:Int)<n)\/(1024-n<(E.length:Int)))=>?_) (fun(q2:(¬((1024:Int)<n))/\(¬(1024-n<(E.length:Int))))=>?_)
 .refine go0 [] h fun _ _ h=>?_
  exact out (((2:Int):Int),()) h (congrArg (·,()) (show((2:Int))=rightE n E from by unfold rightE;first|rw[if_pos (by omega)]|rw[if_neg (by omega),if_pos (by omega)]))
 refine go0 [] h fun _ _ h=>?_
 refine go_loop (Int) (fun i=>⟨[(1,ep 0),(21,eo 1),(22,en (E.length:Int)),(23,en i)],[(0,some (.box 55 [.v (.int .i64 n),.own 1])),(1,some (.ar edT E))],2⟩) (fun i=>0<=i/\i<=(E.length:Int)/\∀j:Nat,(j:Int)<i->okE n (E.getD j (0,0))) (fun i=>((E.length:Int)-i).toNat) (0) (rk [1,0]) h ⟨Int.le_refl _,Int.natCast_nonneg _,fun j hj=>by omega⟩ fun i _ _ _ hK1 hI h=>?_
 obtain⟨i0,i1,i2⟩:=hI
 refine go0 [] h fun _ _ h=>?_
 refine go_if h (fun(q3:i<(E.length:Int))=>?_) (fun(q3:¬(i<(E.length:Int)))=>?_)
 .refine go (pr:=(Bnd i E.length)) [] h bx fun _ _ h=>?_
  refine go_if h (fun(q4:((((E.getD i.toNat (0,0)).1<0)\/(n<=(E.getD i.toNat (0,0)).1))\/((E.getD i.toNat (0,0)).2<0))\/(n<=(E.getD i.toNat (0,0)).2))=>?_) (fun(q4:(((¬((E.getD i.toNat (0,0)).1<0))/\(¬(n<=(E.getD i.toNat (0,0)).1)))/\(¬((E.getD i.toNat (0,0)).2<0)))/\(¬(n<=(E.getD i.toNat (0,0)).2)))=>?_)
  .refine go0 [] h fun _ _ h=>?_
   exact out (((3:Int):Int),()) h (congrArg (·,()) (show((3:Int))=rightE n E from(rightE_bad (by omega) (by omega) (by omega) i0 (by omega) (by unfold okE;have:=q4;omega)).symm))
  refine go (pr:=(InR .i64 (i+1))) [] h r64 fun _ _ h=>?_
  exact lp_ (hK1 (i+1) (ir 2) h ⟨by omega,by omega,fun j hj=>if z:(j:Int)<i then i2 j z else by rw[show j=i.toNat by omega];unfold okE;have:=q4;omega⟩ (by omega))
 refine go0 [] h fun _ _ h=>?_
 exact out (((0:Int):Int),()) h (congrArg (·,()) (show((0:Int))=rightE n E from(rightE_ok (i:=i) (by omega) (by omega) (by omega) (by omega) i2).symm))
def C_right:Con Tryz.prog:=plain right_c
theorem isNaN_c:ConOk Tryz.prog 162 [(false,.int)] [.bool] (fun _=>True) (fun x=>(false,())):=by
 refine con_of Tryz.f162 6 [] Tryz.func162 fun o x hd _ _ h=>?_
 obtain⟨(x:Int),_⟩:=x
 refine go0 [] h fun _ _ h=>?_
 exact out ((!(decide (x=x)):Bool),()) h (congrArg (·,()) (show(!(decide (x=x)))=false from by simp))
def C_isNaN:Con Tryz.prog:=plain isNaN_c
theorem cmpNaN_c:ConOk Tryz.prog 160 [(false,.int)] [.bool] (fun _=>True) (fun x=>(false,())):=by
 refine con_of Tryz.f160 6 [] Tryz.func160 fun o x hd _ _ h=>?_
 obtain⟨(x:Int),_⟩:=x
 refine go0 [] h fun _ _ h=>?_
 exact out ((!(decide (x=x)):Bool),()) h (congrArg (·,()) (show(!(decide (x=x)))=false from by simp))
def C_cmpNaN:Con Tryz.prog:=plain cmpNaN_c
theorem less_c:ConOk Tryz.prog 127 [(false,.int),(false,.int)] [.bool] (fun _=>True) (fun x=>(decide ((I_ x.1)<(I_ x.2.1)),())):=by
 refine con_of Tryz.f127 17 [C_cmpNaN] Tryz.func127 fun o x hd _ _ h=>?_
 obtain⟨(x:Int),(y:Int),_⟩:=x
 refine go (pr:=True/\((false=true)->True)) [] h ⟨tv,fun _=>trivial⟩ fun _ _ h=>?_
 exact out (((false && (!false))||(decide (x<y)):Bool),()) h (congrArg (·,()) (show((false && (!false))||(decide (x<y)))=decide (x<y) from by simp))
def C_less:Con Tryz.prog:=plain less_c
theorem bs_c:ConOk Tryz.prog 134 [(false,(.list .int)),(false,.int)] [.int,.bool] (fun x=>(J_ x.1).length<=1000000) (fun x=>(bsI (J_ x.1) (I_ x.2.1),hasB (J_ x.1) (I_ x.2.1),())):=by
 refine con_of Tryz.f134 54 [C_isNaN,C_less] Tryz.func134 fun o x hd _ _ h=>?_
 obtain⟨(l:List Int),(x:Int),_⟩:=x
 have hl0:=lnI h 0 l
 change l.length<=1000000 at hd
 refine go0 [] h fun _ _ h=>?_
 refine go_loop2 Int Int (fun p q=>⟨[(0,eo 0),(1,en x),(6,en (l.length:Int)),(7,en p),(8,en q)],[(0,some (.ar .int l))],1⟩) (fun p q=>0<=p/\p<=q/\q<=(l.length:Int)/\bsW l x p q=bsI l x) (fun p q=>(q-p).toNat) 0 (l.length:Int) (ir 1) h ⟨Int.le_refl _,Int.natCast_nonneg _,Int.le_refl _,bsI_W l x⟩ fun p q _ _ _ hK1 hI h=>?_
 obtain⟨h1,h2,h3,hb⟩:=hI
 refine go0 [] h fun _ _ h=>?_
 refine go_if h (fun(q1:p<q)=>?_) (fun(q1:¬(p<q))=>?_)
 .refine go (pr:=(InR .i64 (p+q))/\(InR .u64 (p+q))/\(InR .i64 ((p+q)/2))/\(Bnd ((p+q)/2) l.length)/\True) [] h ⟨r64,⟨by omega,by omega⟩,r64,bx,tv⟩ fun _ _ h=>?_
  refine go_if h (fun(q2:(decide ((l.getD ((p+q)/2).toNat 0)<x))=true)=>?_) (fun(q2:(decide ((l.getD ((p+q)/2).toNat 0)<x))=false)=>?_)
  .refine go (pr:=(InR .i64 (((p+q)/2)+1))) [] h r64 fun _ _ h=>?_
   exact lp_ (hK1 (((p+q)/2)+1) q (ir 1) h ⟨by omega,by omega,by omega,by rw[bsW_T (by omega) (of_decide_eq_true q2)] at hb;exact hb⟩ (by omega))
  refine go0 [] h fun _ _ h=>?_
  exact lp_ (hK1 p ((p+q)/2) (ir 1) h ⟨by omega,by omega,by omega,by rw[bsW_F (by omega) (of_decide_eq_false q2)] at hb;exact hb⟩ (by omega))
 have e1:p=bsI l x:=by rw[bsW_end (by omega)] at hb;exact hb
 refine go (pr:=((p<(l.length:Int))->(Bnd p l.length))/\((p<(l.length:Int))->(¬((l.getD p.toNat 0)=x))->(Bnd p l.length))/\((p<(l.length:Int))->(¬((l.getD p.toNat 0)=x))->True)/\((p<(l.length:Int))->(¬((l.getD p.toNat 0)=x))->(false=true)->True)) [] h ⟨fun _=>bx,fun _ _=>bx,fun _ _=>trivial,fun _ _ _=>trivial⟩ fun _ _ h=>?_
 exact out ((p:Int),((decide (p<(l.length:Int))) && ((decide ((l.getD p.toNat 0)=x))||(false && false)):Bool),()) h (Prod.ext e1 (congrArg (·,()) (show((decide (p<(l.length:Int))) && ((decide ((l.getD p.toNat 0)=x))||(false && false)))=hasB l x from by unfold hasB;rw[<-e1];simp)))
def C_bs:Con Tryz.prog:=plain bs_c
theorem has_c:ConOk Tryz.prog 97 [(false,(.list .int)),(false,.int)] [.bool] (fun x=>(J_ x.1).length<=1000000) (fun x=>(hasB (J_ x.1) (I_ x.2.1),())):=by
 refine con_of Tryz.f97 14 [C_bs] Tryz.func97 fun o x hd _ _ h=>?_
 obtain⟨(l:List Int),(x:Int),_⟩:=x
 have hl0:=lnI h 0 l
 change l.length<=1000000 at hd
 refine go (pr:=(l.length<=1000000)) [] h hd fun _ _ h=>?_
 exact out ((hasB l x:Bool),()) h rfl
def C_has:Con Tryz.prog:=plain has_c
theorem rpart_c:ConOk Tryz.prog 74 [(false,grT),(false,ptT)] [.int] (fun x=>inR (I_ x.1.1)) (fun x=>(partE (I_ x.1.1) (E_ x.1.2) (J_ x.2.1.1) (J_ x.2.1.2),())):=by
 refine con_of Tryz.f74 58 [C_has,C_right,C_rising] Tryz.func74 fun o x hd _ _ h=>?_
 obtain⟨⟨(n:Int),(E:List (Int×Int))⟩,⟨(V:List Int),(L:List Int)⟩,_⟩:=x
 have hl0:=lnE h 0 E
 have hl1:=lnI h 1 V
 have hl2:=lnI h 2 L
 change inR n at hd
 have hn:=hd
 refine go (pr:=(inR n)) [] h hn fun _ _ h=>?_
 refine go_if h (fun(q1:¬(rightE n E=0))=>?_) (fun(q1:rightE n E=0)=>?_)
 .refine go0 [] h fun _ _ h=>?_
  exact out ((rightE n E:Int),()) h (congrArg (·,()) (show(rightE n E)=partE n E V L from(if_pos q1).symm))
 refine go (pr:=True/\(((decide (risesP V n))=true)->True)) [] h ⟨tv,fun _=>trivial⟩ fun _ _ h=>?_
 refine go_if h (fun(q2:((decide (risesP V n))=false)\/((decide (risesP L (E.length:Int)))=false))=>?_) (fun(q2:((decide (risesP V n))=true)/\((decide (risesP L (E.length:Int)))=true))=>?_)
 .refine go0 [] h fun _ _ h=>?_
  exact out (((4:Int):Int),()) h (congrArg (·,()) (show((4:Int))=partE n E V L from by unfold partE;rw[if_neg (by omega),if_pos (q2.imp of_decide_eq_false of_decide_eq_false)]))
 have hr0:=rightE_0 (n:=n) (E:=E) q1
 have hr1:risesP V n:=of_decide_eq_true q2.1
 have hr2:risesP L (E.length:Int):=of_decide_eq_true q2.2
 have hv9:=rises_len hr1 (by omega)
 have hl9:=rises_len hr2 (by omega)
 refine go0 [] h fun _ _ h=>?_
 refine go_loop (Int) (fun i=>⟨[(2,ep 0),(3,ep 1),(29,eo 2),(30,en (L.length:Int)),(31,en i)],[(0,some (.box 55 [.v (.int .i64 n),.own 3])),(1,some (.box 26 [.own 4,.own 2])),(2,some (.ar .int L)),(3,some (.ar edT E)),(4,some (.ar .int V))],5⟩) (fun i=>0<=i/\i<=(L.length:Int)/\∀j:Nat,(j:Int)<i->(hasB V (E.getD (L.getD j 0).toNat (0,0)).1=true/\hasB V (E.getD (L.getD j 0).toNat (0,0)).2=true)) (fun i=>((L.length:Int)-i).toNat) (0) (rk [3,4099,2,0,1]) h ⟨Int.le_refl _,Int.natCast_nonneg _,fun j hj=>by omega⟩ fun i _ _ _ hK1 hI h=>?_
 obtain⟨i0,i1,i2⟩:=hI
 refine go0 [] h fun _ _ h=>?_
 refine go_if h (fun(q3:i<(L.length:Int))=>?_) (fun(q3:¬(i<(L.length:Int)))=>?_)
 .have hx:=hr2 i.toNat (by omega)
  refine go (pr:=(Bnd i L.length)/\(Bnd (L.getD i.toNat 0) E.length)/\(V.length<=1000000)/\(((hasB V ((E.getD (L.getD i.toNat 0).toNat (0,0)).1))=true)->(Bnd (L.getD i.toNat 0) E.length))/\(((hasB V ((E.getD (L.getD i.toNat 0).toNat (0,0)).1))=true)->(V.length<=1000000))) [] h ⟨bx,bx,by omega,fun _=>bx,fun _=>by omega⟩ fun _ _ h=>?_
  refine go_if h (fun(q4:((hasB V ((E.getD (L.getD i.toNat 0).toNat (0,0)).1))=false)\/((hasB V ((E.getD (L.getD i.toNat 0).toNat (0,0)).2))=false))=>?_) (fun(q4:((hasB V ((E.getD (L.getD i.toNat 0).toNat (0,0)).1))=true)/\((hasB V ((E.getD (L.getD i.toNat 0).toNat (0,0)).2))=true))=>?_)
  .refine go0 [] h fun _ _ h=>?_
   exact out (((4:Int):Int),()) h (congrArg (·,()) (show((4:Int))=partE n E V L from by unfold partE;rw[if_neg (by omega),if_neg (by rintro(q|q);exact q hr1;exact q hr2),if_neg (fun q:okPart E V L=>by have z:=q i.toNat (by omega);rcases q4 with y|y;rw[z.1] at y;cases y;rw[z.2] at y;cases y)]))
  refine go (pr:=(InR .i64 (i+1))) [] h r64 fun _ _ h=>?_
  exact lp_ (hK1 (i+1) (ir 5) h ⟨by omega,by omega,fun j hj=>if z:(j:Int)<i then i2 j z else by rw[show j=i.toNat by omega];exact q4⟩ (by omega))
 refine go0 [] h fun _ _ h=>?_
 exact out (((0:Int):Int),()) h (congrArg (·,()) (show((0:Int))=partE n E V L from by unfold partE;rw[if_neg (by omega),if_neg (by rintro(q|q);exact q hr1;exact q hr2),if_pos (show okPart E V L from fun j hj=>i2 j (by omega))]))
def C_rpart:Con Tryz.prog:=plain rpart_c
theorem rrpart_c:ConOk Tryz.prog 141 [(false,grT),(false,ptT)] [.int] (fun x=>inR (I_ x.1.1)) (fun x=>(partE (I_ x.1.1) (E_ x.1.2) (J_ x.2.1.1) (J_ x.2.1.2),())):=by
 refine con_of Tryz.f141 64 [C_rin,C_rright,C_rrises] Tryz.func141 fun o x hd _ _ h=>?_
 obtain⟨⟨(n:Int),(E:List (Int×Int))⟩,⟨(V:List Int),(L:List Int)⟩,_⟩:=x
 have hl0:=lnE h 0 E
 have hl1:=lnI h 1 V
 have hl2:=lnI h 2 L
 change inR n at hd
 have hn:=hd
 refine go (pr:=(inR n)) [] h hn fun _ _ h=>?_
 refine go_if h (fun(q1:¬(rightE n E=0))=>?_) (fun(q1:rightE n E=0)=>?_)
 .refine go0 [] h fun _ _ h=>?_
  exact out ((rightE n E:Int),()) h (congrArg (·,()) (show(rightE n E)=partE n E V L from(if_pos q1).symm))
 refine go (pr:=True/\(((decide (risesP V n))=true)->True)) [] h ⟨tv,fun _=>trivial⟩ fun _ _ h=>?_
 refine go_if h (fun(q2:((decide (risesP V n))=false)\/((decide (risesP L (E.length:Int)))=false))=>?_) (fun(q2:((decide (risesP V n))=true)/\((decide (risesP L (E.length:Int)))=true))=>?_)
 .refine go0 [] h fun _ _ h=>?_
  exact out (((4:Int):Int),()) h (congrArg (·,()) (show((4:Int))=partE n E V L from by unfold partE;rw[if_neg (by omega),if_pos (q2.imp of_decide_eq_false of_decide_eq_false)]))
 have hr0:=rightE_0 (n:=n) (E:=E) q1
 have hr1:risesP V n:=of_decide_eq_true q2.1
 have hr2:risesP L (E.length:Int):=of_decide_eq_true q2.2
 have hv9:=rises_len hr1 (by omega)
 have hl9:=rises_len hr2 (by omega)
 refine go0 [] h fun _ _ h=>?_
 refine go_loop (Int) (fun i=>⟨[(2,ep 0),(3,ep 1),(6,en i)],[(0,some (.box 55 [.v (.int .i64 n),.own 2])),(1,some (.box 26 [.own 3,.own 4])),(2,some (.ar edT E)),(3,some (.ar .int V)),(4,some (.ar .int L))],5⟩) (fun i=>0<=i/\i<=(L.length:Int)/\∀j:Nat,(j:Int)<i->(hasB V (E.getD (L.getD j 0).toNat (0,0)).1=true/\hasB V (E.getD (L.getD j 0).toNat (0,0)).2=true)) (fun i=>((L.length:Int)-i).toNat) (0) (rk [3,4099,0,1,2]) h ⟨Int.le_refl _,Int.natCast_nonneg _,fun j hj=>by omega⟩ fun i _ _ _ hK1 hI h=>?_
 obtain⟨i0,i1,i2⟩:=hI
 refine go0 [] h fun _ _ h=>?_
 refine go_if h (fun(q3:i<(L.length:Int))=>?_) (fun(q3:¬(i<(L.length:Int)))=>?_)
 .have hx:=hr2 i.toNat (by omega)
  refine go (pr:=(Bnd i L.length)/\(Bnd (L.getD i.toNat 0) E.length)/\True/\(((decide ((E.getD (L.getD i.toNat 0).toNat (0,0)).1∈V))=true)->(Bnd i L.length))/\(((decide ((E.getD (L.getD i.toNat 0).toNat (0,0)).1∈V))=true)->(Bnd (L.getD i.toNat 0) E.length))/\(((decide ((E.getD (L.getD i.toNat 0).toNat (0,0)).1∈V))=true)->True)) [] h ⟨bx,bx,tv,fun _=>bx,fun _=>bx,fun _=>trivial⟩ fun _ _ h=>?_
  refine go_if h (fun(q4:((decide ((E.getD (L.getD i.toNat 0).toNat (0,0)).1∈V))=false)\/((decide ((E.getD (L.getD i.toNat 0).toNat (0,0)).2∈V))=false))=>?_) (fun(q4:((decide ((E.getD (L.getD i.toNat 0).toNat (0,0)).1∈V))=true)/\((decide ((E.getD (L.getD i.toNat 0).toNat (0,0)).2∈V))=true))=>?_)
  .refine go0 [] h fun _ _ h=>?_
   exact out (((4:Int):Int),()) h (congrArg (·,()) (show((4:Int))=partE n E V L from by unfold partE;rw[if_neg (by omega),if_neg (by rintro(q|q);exact q hr1;exact q hr2),if_neg (fun q:okPart E V L=>by have z:=q i.toNat (by omega);rw[hasB_mem hr1,hasB_mem hr1] at z;rcases q4 with y|y;exact(of_decide_eq_false y) (of_decide_eq_true z.1);exact(of_decide_eq_false y) (of_decide_eq_true z.2))]))
  refine go (pr:=(InR .i64 (i+1))) [] h r64 fun _ _ h=>?_
  exact lp_ (hK1 (i+1) (ir 5) h ⟨by omega,by omega,fun j hj=>if z:(j:Int)<i then i2 j z else by rw[show j=i.toNat by omega];rw[hasB_mem hr1,hasB_mem hr1];exact q4⟩ (by omega))
 refine go0 [] h fun _ _ h=>?_
 exact out (((0:Int):Int),()) h (congrArg (·,()) (show((0:Int))=partE n E V L from by unfold partE;rw[if_neg (by omega),if_neg (by rintro(q|q);exact q hr1;exact q hr2),if_pos (show okPart E V L from fun j hj=>i2 j (by omega))]))
def C_rrpart:Con Tryz.prog:=plain rrpart_c
theorem rtwin_c:ConOk Tryz.prog 171 [(false,.int)] [.int] (fun x=>0<=(I_ x.1)/\(I_ x.1)<=1000000) (fun x=>(twinE (I_ x.1),())):=by
 refine con_of Tryz.f171 10 [] Tryz.func171 fun o x hd _ _ h=>?_
 obtain⟨(d:Int),_⟩:=x
 change 0<=d/\d<=1000000 at hd
 obtain⟨h0,h1⟩:=hd
 refine go (pr:=(0<=d/\0<(2:Int))) [] h (⟨by omega,by omega⟩) fun _ _ h=>?_
 refine go_if h (fun(q1:d%2=0)=>?_) (fun(q1:¬(d%2=0))=>?_)
 .refine go (pr:=(InR .i64 (d+1))) [] h r64 fun _ _ h=>?_
  exact out ((d+1:Int),()) h (congrArg (·,()) (show(d+1)=twinE d from(if_pos (by omega)).symm))
 refine go (pr:=(InR .i64 (d-1))) [] h r64 fun _ _ h=>?_
 exact out ((d-1:Int),()) h (congrArg (·,()) (show(d-1)=twinE d from(if_neg (by omega)).symm))
def C_rtwin:Con Tryz.prog:=plain rtwin_c
theorem rtail_c:ConOk Tryz.prog 168 [(false,grT),(false,.int)] [.int] (fun x=>inR (I_ x.1.1)/\0<=(I_ x.2.1)/\(I_ x.2.1)/2<((E_ x.1.2).length:Int)/\(I_ x.2.1)<=1000000) (fun x=>(tailE (E_ x.1.2) (I_ x.2.1),())):=by
 refine con_of Tryz.f168 22 [] Tryz.func168 fun o x hd _ _ h=>?_
 obtain⟨⟨(n:Int),(E:List (Int×Int))⟩,(d:Int),_⟩:=x
 have hl0:=lnE h 0 E
 change inR n/\0<=d/\d/2<(E.length:Int)/\d<=1000000 at hd
 obtain⟨hn,h0,h1,h2⟩:=hd
 refine go (pr:=(0<=d/\0<(2:Int))) [] h (⟨by omega,by omega⟩) fun _ _ h=>?_
 refine go_if h (fun(q1:d%2=0)=>?_) (fun(q1:¬(d%2=0))=>?_)
 .refine go (pr:=(0<=d/\0<(2:Int)/\InR .i64 d)/\(Bnd (d/2) E.length)) [] h ⟨⟨by omega,by omega,⟨by omega,by omega⟩⟩,bx⟩ fun _ _ h=>?_
  exact out (((E.getD (d/2).toNat (0,0)).1:Int),()) h (congrArg (·,()) (show((E.getD (d/2).toNat (0,0)).1)=tailE E d from(if_pos (by omega)).symm))
 refine go (pr:=(0<=d/\0<(2:Int)/\InR .i64 d)/\(Bnd (d/2) E.length)) [] h ⟨⟨by omega,by omega,⟨by omega,by omega⟩⟩,bx⟩ fun _ _ h=>?_
 exact out (((E.getD (d/2).toNat (0,0)).2:Int),()) h (congrArg (·,()) (show((E.getD (d/2).toNat (0,0)).2)=tailE E d from(if_neg (by omega)).symm))
def C_rtail:Con Tryz.prog:=plain rtail_c
theorem rdarts_c:ConOk Tryz.prog 142 [(false,grT),(false,ptT),(false,.int)] [(.list .int)] (fun x=>inR (I_ x.1.1)/\risesP (J_ x.2.1.2) ((E_ x.1.2).length:Int)/\((E_ x.1.2).length:Int)<=100000) (fun x=>(dartsL (E_ x.1.2) (J_ x.2.1.2) (I_ x.2.2.1),())):=by
 refine con_of Tryz.f142 45 [C_rtail] Tryz.func142 fun o x hd _ _ h=>?_
 obtain⟨⟨(n:Int),(E:List (Int×Int))⟩,⟨(V:List Int),(L:List Int)⟩,(v:Int),_⟩:=x
 have hl0:=lnE h 0 E
 have hl1:=lnI h 1 V
 have hl2:=lnI h 2 L
 change inR n/\risesP L (E.length:Int)/\(E.length:Int)<=100000 at hd
 obtain⟨hn,hL,hE⟩:=hd
 have hLl:=rises_len hL (Int.natCast_nonneg _)
 refine go0 [] h fun _ _ h=>?_
 refine go_loop2 Int (List Int) (fun i ou=>⟨[(2,en v),(3,ep 0),(4,ep 1),(7,eo 2),(8,en i)],[(0,some (.box 55 [.v (.int .i64 n),.own 3])),(1,some (.box 26 [.own 4,.own 5])),(2,some (.row 3 .int ou)),(3,some (.ar edT E)),(4,some (.ar .int V)),(5,some (.ar .int L))],6⟩) (fun i ou=>0<=i/\i<=(L.length:Int)/\(ou.length:Int)<=2*i/\ou++dartsL E (L.drop i.toNat) v=dartsL E L v) (fun i ou=>((L.length:Int)-i).toNat) 0 [] [(0,some 3),(1,some 4099),(2,none),(3,some 0),(4,some 1),(5,some 2)] h ⟨Int.le_refl _,Int.natCast_nonneg _,Int.le_refl _,rfl⟩ fun i ou _ _ _ hK1 hI h=>?_
 obtain⟨i0,i1,i2,i3⟩:=hI
 refine go0 [] h fun _ _ h=>?_
 refine go_if h (fun(q1:i<(L.length:Int))=>?_) (fun(q1:¬(i<(L.length:Int)))=>?_)
 .have hlk:=hL i.toNat (by omega)
  refine go0 [] h fun _ _ h=>?_
  refine go_loop2 Int (List Int) (fun s o2=>⟨[(2,en v),(3,ep 0),(4,ep 1),(7,eo 2),(8,en i),(9,en s)],[(0,some (.box 55 [.v (.int .i64 n),.own 3])),(1,some (.box 26 [.own 4,.own 5])),(2,some (.row 3 .int o2)),(3,some (.ar edT E)),(4,some (.ar .int V)),(5,some (.ar .int L))],6⟩) (fun s o2=>0<=s/\s<=2/\(o2.length:Int)<=2*i+s/\o2++(dartsFrom E (L.getD i.toNat 0) v s++dartsL E (L.drop (i+1).toNat) v)=dartsL E L v) (fun s o2=>(2-s).toNat) 0 ou (ir 6) h ⟨Int.le_refl _,by omega,by omega,by rw[<-dartsL_round i0 (by omega)];exact i3⟩ fun s o2 _ _ _ hK2 hI h=>?_
  obtain⟨s0,s1,s2,s3⟩:=hI
  refine go0 [] h fun _ _ h=>?_
  refine go_if h (fun(q2:s<2)=>?_) (fun(q2:¬(s<2))=>?_)
  .refine go (pr:=(Bnd i L.length)/\(InR .i64 (2*(L.getD i.toNat 0)))/\(InR .i64 ((2*(L.getD i.toNat 0))+s))/\(inR n/\0<=((2*(L.getD i.toNat 0))+s)/\((2*(L.getD i.toNat 0))+s)/2<(E.length:Int)/\((2*(L.getD i.toNat 0))+s)<=1000000)) [] h ⟨bx,r64,r64,⟨hn,by omega,by omega,by omega⟩⟩ fun _ _ h=>?_
   refine go_if h (fun(q3:tailE E ((2*(L.getD i.toNat 0))+s)=v)=>?_) (fun(q3:¬(tailE E ((2*(L.getD i.toNat 0))+s)=v))=>?_)
   .refine go (pr:=(Bnd i L.length)/\(InR .i64 (2*(L.getD i.toNat 0)))/\(InR .i64 ((2*(L.getD i.toNat 0))+s))/\(o2.length+([(2*(L.getD i.toNat 0))+s]:List Int).length<=2147483647)/\(InR .i64 (s+1))) [] h ⟨bx,r64,r64,ln,r64⟩ fun _ _ h=>?_
    exact lp_ (hK2 (s+1) (o2++([(2*(L.getD i.toNat 0))+s]:List Int)) (rk [0,1,98310,3,4,5]) h ⟨by omega,by omega,by(try rw[List.length_append,List.length_singleton]);omega,by rw[dartsFrom_round s0 (by omega),if_pos q3] at s3;(try rw[List.nil_append] at s3);(try simp only[List.append_assoc] at s3 ⊢);exact s3⟩ (by omega))
   refine go (pr:=(InR .i64 (s+1))) [] h r64 fun _ _ h=>?_
   exact lp_ (hK2 (s+1) o2 (ir 6) h ⟨by omega,by omega,by(try rw[List.length_append,List.length_singleton]);omega,by rw[dartsFrom_round s0 (by omega),if_neg q3] at s3;(try rw[List.nil_append] at s3);(try simp only[List.append_assoc] at s3 ⊢);exact s3⟩ (by omega))
  refine go (pr:=(InR .i64 (i+1))) [] h r64 fun _ _ h=>?_
  exact lp_ (hK1 (i+1) o2 (ir 6) h ⟨by omega,by omega,by omega,by rw[dartsFrom_end (by omega),List.nil_append] at s3;exact s3⟩ (by omega))
 refine go0 [] h fun _ _ h=>?_
 exact out ((ou:List Int),()) h (congrArg (·,()) (show(ou)=dartsL E L v from by rw[dartsL_end (by omega),List.append_nil] at i3;exact i3))
def C_rdarts:Con Tryz.prog:=plain rdarts_c
end Go.Proofs.YtnfdimfepbbbpaaGreatDoor
namespace Go.Proofs.YtnfdimfepbbbpaaGreatDoor
open Go.RowKit
end Go.Proofs.YtnfdimfepbbbpaaGreatDoor
