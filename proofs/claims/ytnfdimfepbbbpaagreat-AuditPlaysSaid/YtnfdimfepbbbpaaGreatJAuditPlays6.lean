/-
  Texts joined by program: WkK, WkV, WkVa, WkRc, VTL1, VTB1, VTB2, VTB3, VTB4, VTB5, VTB6, VTB7, VTB9, VTB8, VTB10, VTB12, VTB11, WkVb, WkVd, WkVe.
-/
import Derived.Test.YtnfdimfepbbbpaaGreatJAuditPlays5
import Derived.Test.YtnfdimfepbbbpaaGreatProg
set_option linter.unusedSimpArgs false
set_option linter.unusedVariables false
set_option maxRecDepth 100000
set_option maxHeartbeats 8000000
namespace Go.Proofs.YtnfdimfepbbbpaaGreat
open Go.RowKit
open Go.Proofs.YtnfdimfepbbbpaaGreat.Deep
def uB {α:Type}(m:List (Int×α)):Prop:=m.Pairwise fun p q=>p.1<q.1
theorem tA {α:Type}:uB ([]:List (Int×α)):=List.Pairwise.nil
theorem IX {α:Type}{x:Int}{v:α}:∀ {m:List (Int×α)},uB m->(∀q∈m,q.1≠x)->uB (kT (k:=.int) (x,v) m)
 |[],_,_=>List.pairwise_singleton _ _
 |p::m,h,hn=>by
  have hp:=List.pairwise_cons.1 h
  have h1:=hn p List.mem_cons_self
  show uB (if ilt x p.1=true then(x,v)::p::m else p::kT (k:=.int) (x,v) m)
  split
  .rename_i q
   have q:x<p.1:=of_decide_eq_true (show decide (x<p.1)=true from q)
   refine List.pairwise_cons.2 ⟨fun y hy=>?_,h⟩
   rcases List.mem_cons.1 hy with rfl|hy
   .exact q
   have:=hp.1 y hy
   exact Int.lt_trans q this
  rename_i q
  have q:¬x<p.1:=fun z=>q (show decide (x<p.1)=true from decide_eq_true z)
  refine List.pairwise_cons.2 ⟨fun y hy=>?_,IX hp.2 fun y hy=>hn y (List.mem_cons_of_mem _ hy)⟩
  rcases(wF (k:=.int)).1 hy with rfl|hy
  .show p.1<x
   omega
  exact hp.1 y hy
theorem rW {α:Type}{m:List (Int×α)}(h:uB m)(x:Int)(v:α):uB (cB m x v):=by
 show uB (kT (k:=.int) (x,v) (kS (k:=.int) m x))
 refine IX (h.sublist List.filter_sublist) fun q hq=>?_
 have h2:(!decide (q.1=x))=true:=(List.mem_filter.1 hq).2
 intro e
 have h3:(!decide (q.1=x))=false:=by rw[e];simp
 rw[h3] at h2;cases h2
theorem j5 {α:Type}{p:Int×α}{m:List (Int×α)}(x:Int):ah (p::m) x=if p.1=x then some p.2 else ah m x:=by
 show((p::m).find? fun q=>decide (q.1=x)).map (·.2)=_
 rw[List.find?_cons]
 by_cases q:p.1=x
 .rw[if_pos q,decide_eq_true q];rfl
 rw[if_neg q,decide_eq_false q];rfl
theorem wv {α:Type}{p:Int×α}{m:List (Int×α)}(h:uB (p::m)){x:Int}(hx:x<=p.1):ah m x=none:=by
 rw[l6]
 intro v hv
 have:p.1<x:=(List.pairwise_cons.1 h).1 (x,v) hv
 omega
theorem IY {α:Type}:∀ {a b:List (Int×α)},uB a->uB b->(∀x,ah a x=ah b x)->a=b
 |[],[],_,_,_=>rfl
 |[],q::b,_,_,h=>by have:=h q.1;rw[j5,if_pos rfl] at this;cases this
 |p::a,[],_,_,h=>by have:=h p.1;rw[j5,if_pos rfl] at this;cases this
 |p::a,q::b,ha,hb,h=>by
  have h1:=h p.1
  rw[j5,j5,if_pos rfl] at h1
  have h2:=h q.1
  rw[j5,j5,if_pos rfl] at h2
  have e:p.1=q.1:=by
   rcases Int.lt_trichotomy p.1 q.1 with z|z|z
   .rw[if_neg (by omega),wv hb (by omega)] at h1;cases h1
   .exact z
   rw[if_neg (by omega),wv ha (by omega)] at h2;cases h2
  rw[if_pos e.symm] at h1
  have e2:p=q:=Prod.ext e (Option.some.inj h1)
  subst e2
  rw[IY (List.pairwise_cons.1 ha).2 (List.pairwise_cons.1 hb).2 fun x=>?_]
  have h3:=h x
  rw[j5,j5] at h3
  by_cases z:p.1=x
  .rw[wv ha (by omega),wv hb (by omega)]
  rwa[if_neg z,if_neg z] at h3
theorem SX {α β:Type}{m:List (Int×α)}(h:uB m)(f:α->β):uB (m.map fun q=>(q.1,f q.2)):=List.pairwise_map.2 h
theorem O9 {α β:Type}(m:List (Int×α))(f:α->β)(x:Int):ah (m.map fun q=>(q.1,f q.2)) x=(ah m x).map f:=eR (k:=.int) f m x
theorem Cz {m:List (Int×Int)}{vs:List Int}{c:Int}(h:uB m):∀k,uB (qJ m vs c k)
 |0=>h
 |k+1=>rW (Cz h k) _ _
theorem CA {num:List (Int×Int)}{W:List (Int×List Int)}:∀k,uB (Cx num W k)
 |0=>tA
 |k+1=>by
  show uB (KX _ _ _)
  unfold KX
  split
  .exact rW (Cz (CA k) _) _ _
  exact Cz (CA k) _
theorem ES {n:Int}{E:List (Int×Int)}{V L:List Int}{T S:List (List Int)}:uB (aQ n E V L T S):=by
 unfold aQ
 split
 .exact CA _
 exact tA
theorem Pa {α:Type}{m:List (Int×α)}(h:uB m):KN m:=by
 unfold KN
 rw[List.nodup_iff_pairwise_ne,List.pairwise_map]
 exact h.imp fun q=>Int.ne_of_lt q
def zo (ds:List Int):Nat->List (Int×Int)
 |0=>[]
 |k+1=>cB (zo ds k) (ds.getD k 0/2) (k:Int)
def jF (left on:List (Int×Int))(L:List Int):Nat->S4
 |0=>([],[],[],0)
 |k+1=>if(ah on (L.getD k 0)).isSome=true then jF left on L k else CU (jF left on L k) ((ah left (2*L.getD k 0)).getD 0) ((ah left (2*L.getD k 0+1)).getD 0)
def KY (left:List (Int×Int))(ds:List Int)(s:S4):Nat->S4
 |0=>s
 |k+1=>cQ (cQ (KY left ds s k) ((ah left (ds.getD k 0)).getD 0)) ((ah left (aq (ds.getD k 0))).getD 0)
def dF (left:List (Int×Int))(L ds:List Int):S4:=KY left ds (jF left (zo ds ds.length) L L.length) ds.length
def KZ (s:S4)(head r:Int):Int:=if r=head\/GJ s r head=true then 1 else 2
def dY (n:Int)(E:List (Int×Int))(V L:List Int)(T S:List (List Int))(ds:List Int):List (Int×Int):=
 if mV n E V L ds=true/\bA n E V L T S=0 then(aQ n E V L T S).map fun q=>(q.1,KZ (dF (aQ n E V L T S) L ds) ((ah (aQ n E V L T S) (ds.getD 0 0)).getD 0) q.2) else[]
theorem Pb {ds:List Int}{i:Int}(h:0<=i):zo ds (i+1).toNat=cB (zo ds i.toNat) (ds.getD i.toNat 0/2) i:=by
 rw[show(i+1).toNat=i.toNat+1 by omega]
 show cB _ _ ((i.toNat:Nat):Int)=_
 rw[Int.toNat_of_nonneg h]
theorem IZ (ds:List Int):∀k,(zo ds k).length<=k
 |0=>Nat.le_refl _
 |k+1=>by
  have:=IZ ds k
  have:=dh (zo ds k) (ds.getD k 0/2) (k:Int)
  show(cB _ _ _).length<=_
  omega
theorem Wt {left on:List (Int×Int)}{L:List Int}{i:Int}(h0:0<=i)(h:(ah on (L.getD i.toNat 0)).isSome=true):jF left on L (i+1).toNat=jF left on L i.toNat:=by
 rw[show(i+1).toNat=i.toNat+1 by omega];exact if_pos h
theorem Z2 {left on:List (Int×Int)}{L:List Int}{i:Int}(h0:0<=i)(h:(ah on (L.getD i.toNat 0)).isSome=false):jF left on L (i+1).toNat=CU (jF left on L i.toNat) ((ah left (2*L.getD i.toNat 0)).getD 0) ((ah left (2*L.getD i.toNat 0+1)).getD 0):=by
 rw[show(i+1).toNat=i.toNat+1 by omega];exact if_neg (by rw[h];decide)
theorem Pd {left:List (Int×Int)}{ds:List Int}{s:S4}{i:Int}(h:0<=i):KY left ds s (i+1).toNat=cQ (cQ (KY left ds s i.toNat) ((ah left (ds.getD i.toNat 0)).getD 0)) ((ah left (aq (ds.getD i.toNat 0))).getD 0):=by
 rw[show(i+1).toNat=i.toNat+1 by omega];rfl
theorem Wu {s:S4}{x y:Int}:(CU s x y).2.1.length<=s.2.1.length+2:=by
 have h1:=pG s.1 s.2.1 x
 have h2:=pG (bQ s.1 s.2.1 x) (bX s.1 s.2.1 x) y
 show(Ou s.1 s.2.1 x y).length<=_
 unfold Ou
 omega
theorem A7 {left on:List (Int×Int)}{L:List Int}:∀k,pH (jF left on L k)/\(jF left on L k).2.1.length<=2*k
 |0=>⟨pH.nil,Nat.le_refl _⟩
 |k+1=>by
  obtain⟨h1,h2⟩:=A7 (left:=left) (on:=on) (L:=L) k
  unfold jF
  split
  .exact⟨h1,by omega⟩
  exact⟨(h1.jn _ _).1,by have:=Wu (s:=jF left on L k) (x:=(ah left (2*L.getD k 0)).getD 0) (y:=(ah left (2*L.getD k 0+1)).getD 0);omega⟩
theorem CB {s:S4}{x:Int}:(cQ s x).2.1.length<=s.2.1.length+1:=(pG s.1 s.2.1 x).2
theorem CC {left:List (Int×Int)}{ds:List Int}{s:S4}(h:pH s):∀k,pH (KY left ds s k)/\(KY left ds s k).2.1.length<=s.2.1.length+2*k
 |0=>⟨h,Nat.le_refl _⟩
 |k+1=>by
  obtain⟨h1,h2⟩:=CC (left:=left) (ds:=ds) h k
  have a1:=CB (s:=KY left ds s k) (x:=(ah left (ds.getD k 0)).getD 0)
  have a2:=CB (s:=cQ (KY left ds s k) ((ah left (ds.getD k 0)).getD 0)) (x:=(ah left (aq (ds.getD k 0))).getD 0)
  exact⟨((h1.add _).1.add _).1,by show(cQ _ _).2.1.length<=_;omega⟩
theorem I1 (left:List (Int×Int))(L ds:List Int):pH (dF left L ds)/\(dF left L ds).2.1.length<=2*L.length+2*ds.length:=by
 obtain⟨h1,h2⟩:=A7 (left:=left) (on:=zo ds ds.length) (L:=L) L.length
 obtain⟨h3,h4⟩:=CC (left:=left) (ds:=ds) h1 ds.length
 exact⟨h3,by show(KY _ _ _ _).2.1.length<=_;omega⟩
structure Pe (left:List (Int×Int))(s0:S4)(head:Int)(lf:Int->Bool)(cnt:Nat)(s:S4)(out:List (Int×Int)):Prop where
 ok:pH s
 rl:∀a b,Rl s a b↔Rl s0 a b
 len:s.2.1.length=s0.2.1.length
 rs:uB out
 out:∀x,ah out x=if lf x=true then none else(ah left x).map (KZ s0 head)
section
variable {left:List (Int×Int)}{s0 s:S4}{head:Int}{lf:Int->Bool}{cnt:Nat}{out:List (Int×Int)}{x v:Int}
theorem Pe.start (h:pH s0):Pe left s0 head (fun z=>(ah left z).isSome) cnt s0 []:=
 ⟨h,fun _ _=>Iff.rfl,rfl,tA,fun x=>by
  cases hq:ah left x with
  |none=>rfl
  |some v=>rfl⟩
theorem I2 (h:pH s)(h0:pH s0)(hr:∀a b,Rl s a b↔Rl s0 a b)(a b:Int):GJ s a b=GJ s0 a b:=by
 have e1:=(h.sm a b).2.2
 have e2:=(h0.sm a b).2.2
 rw[hr] at e1
 have:=e1.trans e2.symm
 cases h1:GJ s a b<;>cases h2:GJ s0 a b<;>simp_all
theorem Pe.Wv (h:Pe left s0 head lf cnt s out)(hk:KN left):out.length<=left.length:=by
 have:=(Pa h.rs).length_le_of_subset (l₂:=left.map (·.1)) fun y hy=>mem_keys.2 (by
  have h1:=mem_keys.1 hy
  rw[h.out] at h1
  split at h1
  .cases h1
  rwa[Option.isSome_map] at h1)
 rwa[List.length_map,List.length_map] at this
theorem Pe.step (h:Pe left s0 head lf cnt s out)(h0:pH s0){jt:Nat}{s':S4}{r:Int}(hl:lf x=true)(hv:ah left x=some v)(hs:pH s'/\(∀a b,Rl s' a b↔Rl s a b)/\s'.2.1.length=s.2.1.length)(hr:r=KZ s0 head v)(FF:List (Int×Int))(ho:FF=cB out x r\/FF=cB (cB out x 2) x r):
  Pe left s0 head (fun z=>lf z && !decide (z=x)) jt s' FF:=by
 have qG:∀y,ah FF y=if x=y then some r else ah out y:=fun y=>by
  rcases ho with rfl|rfl
  .exact bO ..
  rw[bO]
  split
  .rfl
  rename_i q;rw[bO,if_neg q]
 refine⟨hs.1,fun a b=>(hs.2.1 a b).trans (h.rl a b),hs.2.2.trans h.len,?_,fun y=>?_⟩
 .rcases ho with rfl|rfl
  .exact rW h.rs _ _
  exact rW (rW h.rs _ _) _ _
 rw[qG]
 by_cases q:x=y
 .subst q
  rw[if_pos rfl,if_neg (by simp),hv,hr];rfl
 rw[if_neg q,h.out]
 have:decide (y=x)=false:=decide_eq_false fun z=>q z.symm
 rw[this]
 simp
theorem Pe.fin (h:Pe left s0 head lf cnt s out)(hl:∀x,lf x=false)(hr:uB left):out=left.map fun q=>(q.1,KZ s0 head q.2):=
 IY h.rs (SX hr _) fun x=>by rw[h.out,hl,if_neg (by decide),O9]
end
theorem A8 {n:Int}{E:List (Int×Int)}{V L:List Int}{T S:List (List Int)}{ds:List Int}(h1:mV n E V L ds=true)(h2:bA n E V L T S=0):dY n E V L T S ds=(aQ n E V L T S).map fun q=>(q.1,KZ (dF (aQ n E V L T S) L ds) ((ah (aQ n E V L T S) (ds.getD 0 0)).getD 0) q.2):=if_pos ⟨h1,h2⟩
theorem yt {n:Int}{E:List (Int×Int)}{V L:List Int}{T S:List (List Int)}{ds:List Int}(h:¬(mV n E V L ds=true/\bA n E V L T S=0)):dY n E V L T S ds=[]:=if_neg h
theorem ET {R:List (List Int)}:∀ {k:Nat} {x v:Int},ah (e6 R k) x=some v->0<=v/\v<(k:Int)
 |0,x,v,h=>by cases h
 |k+1,x,v,h=>by
  have h:ah (qJ (e6 R k) (R.getD k []) (k:Int) (R.getD k []).length) x=some v:=h
  rw[kL (Nat.le_refl _)] at h
  split at h
  .cases h;omega
  have:=ET h;omega
theorem I3 {num:List (Int×Int)}{W:List (Int×List Int)}:∀ {k:Nat} {x v:Int},ah (Cx num W k) x=some v->∃y,v=(ah num y).getD 0
 |0,x,v,h=>by cases h
 |k+1,x,v,h=>by
  have h:ah (KX num (Cx num W k) (W.getD k (0,[]))) x=some v:=h
  have h1:ah (qJ (Cx num W k) (W.getD k (0,[])).2 ((ah num (W.getD k (0,[])).1).getD 0) (W.getD k (0,[])).2.length) x=some v->∃y,v=(ah num y).getD 0:=fun h=>by
   rw[kL (Nat.le_refl _)] at h
   split at h
   .cases h;exact⟨_,rfl⟩
   exact I3 h
  unfold KX at h
  split at h
  .rw[bO] at h
   split at h
   .cases h;exact⟨_,rfl⟩
   exact h1 h
  exact h1 h
theorem Pf {n:Int}{E:List (Int×Int)}{V L:List Int}{T S:List (List Int)}(hS:S.length<=10000){x v:Int}(h:ah (aQ n E V L T S) x=some v):0<=v/\v<=100000:=by
 by_cases hp:bA n E V L T S=0
 .rw[tw hp] at h
  obtain⟨y,rfl⟩:=I3 h
  have hl:=IW hp
  obtain⟨hf,_⟩:=bH hp
  obtain⟨h1,_,hW⟩:=bS (bf hf)
  obtain⟨hr,hV,hL,_⟩:=aD h1
  obtain⟨r1,r2,r3,_⟩:=aN hr
  have:=ay hV r1
  have:=ay hL (by omega)
  have:=hW.len
  cases hq:ah (e6 (cA n E V L T S) (cA n E V L T S).length) y with
  |none=>exact⟨Int.le_refl _,by decide⟩
  |some z=>
   have:=ET hq
   show 0<=z/\z<=100000
   omega
 rw[uA hp] at h;cases h
theorem Ww {n:Int}{E:List (Int×Int)}{V L:List Int}{T S:List (List Int)}(hS:S.length<=10000)(x:Int):0<=(ah (aQ n E V L T S) x).getD 0/\(ah (aQ n E V L T S) x).getD 0<=100000:=by
 cases hq:ah (aQ n E V L T S) x with
 |none=>exact⟨Int.le_refl _,by decide⟩
 |some z=>exact Pf hS hq
theorem Pg {n:Int}{E:List (Int×Int)}{V L:List Int}{T S:List (List Int)}:(aQ n E V L T S).length<=100000000:=by
 by_cases hp:bA n E V L T S=0
 .rw[tw hp]
  obtain⟨hf,_⟩:=bH hp
  have hw:=bf hf
  obtain⟨h1,_,hW⟩:=bS hw
  obtain⟨hr,hV,hL,_⟩:=aD h1
  obtain⟨r1,r2,r3,_⟩:=aN hr
  have:=ay hV r1
  have:=ay hL (by omega)
  have:=hW.len
  have h2:=Cy (num:=e6 (cA n E V L T S) (cA n E V L T S).length) (pM (fun w Bj=>(iF hw w Bj).2)) (aa n E V L T).1.length
  refine Nat.le_trans h2 (Nat.le_trans (Nat.mul_le_mul (show(aa n E V L T).1.length<=10000 by omega) (show 2*L.length+1<=10000 by omega)) (by decide))
 rw[uA hp];exact Nat.zero_le _
def GQ (T:List (List Int))(sd:List (Int×Int))(V:List Int):Nat->List (Int×Int)
 |0=>[]
 |k+1=>cB (GQ T sd V k) (V.getD k 0) ((ah sd (if 0<(T.getD (V.getD k 0).toNat []).length then(T.getD (V.getD k 0).toNat []).getD 0 0 else -1-V.getD k 0)).getD 0)
def UO (sd:List (Int×Int))(L:List Int):Nat->List (Int×Int)
 |0=>[]
 |k+1=>cB (UO sd L k) (L.getD k 0) ((ah sd (2*L.getD k 0)).getD 0)
def Ph (E:List (Int×Int))(ds:List Int)(m:List (Int×Int)):Nat->List (Int×Int)
 |0=>m
 |k+1=>cB (Ph E ds m k) (ak E (ds.getD k 0)) 0
def Yf (ds:List Int)(m:List (Int×Int)):Nat->List (Int×Int)
 |0=>m
 |k+1=>cB (Yf ds m k) (ds.getD k 0/2) 0
def vu (n:Int)(E:List (Int×Int))(V L:List Int)(T S:List (List Int))(ds:List Int):Bool:=mV n E V L ds && decide (bA n E V L T S=0)
def si (n:Int)(E:List (Int×Int))(V L:List Int)(T S:List (List Int))(ds:List Int):List (Int×Int):=if vu n E V L T S ds=true then Ph E ds (GQ T (dY n E V L T S ds) V V.length) ds.length else[]
def alE (n:Int)(E:List (Int×Int))(V L:List Int)(T S:List (List Int))(ds:List Int):List (Int×Int):=if vu n E V L T S ds=true then Yf ds (UO (dY n E V L T S ds) L L.length) ds.length else[]
theorem wz (T:List (List Int))(sd:List (Int×Int))(V:List Int):∀k,(GQ T sd V k).length<=k
 |0=>Nat.le_refl _
 |k+1=>Nat.le_trans (dh _ _ _) (Nat.succ_le_succ (wz T sd V k))
theorem wA (sd:List (Int×Int))(L:List Int):∀k,(UO sd L k).length<=k
 |0=>Nat.le_refl _
 |k+1=>Nat.le_trans (dh _ _ _) (Nat.succ_le_succ (wA sd L k))
theorem I4 (E:List (Int×Int))(ds:List Int)(m:List (Int×Int)):∀k,(Ph E ds m k).length<=m.length+k
 |0=>Nat.le_refl _
 |k+1=>Nat.le_trans (dh _ _ _) (Nat.succ_le_succ (I4 E ds m k))
theorem I5 (ds:List Int)(m:List (Int×Int)):∀k,(Yf ds m k).length<=m.length+k
 |0=>Nat.le_refl _
 |k+1=>Nat.le_trans (dh _ _ _) (Nat.succ_le_succ (I5 ds m k))
theorem SY {T:List (List Int)}{sd:List (Int×Int)}{V:List Int}{i:Int}(h0:0<=i)(h:0<((T.getD (V.getD i.toNat 0).toNat []).length:Int)):GQ T sd V (i+1).toNat=cB (GQ T sd V i.toNat) (V.getD i.toNat 0) ((ah sd ((T.getD (V.getD i.toNat 0).toNat []).getD 0 0)).getD 0):=by
 rw[show(i+1).toNat=i.toNat+1 by omega]
 show cB _ _ ((ah sd (if _ then _ else _)).getD 0)=_
 rw[if_pos (by omega)]
theorem Wx {T:List (List Int)}{sd:List (Int×Int)}{V:List Int}{i:Int}(h0:0<=i)(h:¬0<((T.getD (V.getD i.toNat 0).toNat []).length:Int)):GQ T sd V (i+1).toNat=cB (GQ T sd V i.toNat) (V.getD i.toNat 0) ((ah sd (-1-V.getD i.toNat 0)).getD 0):=by
 rw[show(i+1).toNat=i.toNat+1 by omega]
 show cB _ _ ((ah sd (if _ then _ else _)).getD 0)=_
 rw[if_neg (by omega)]
theorem Pj {sd:List (Int×Int)}{L:List Int}{i:Int}(h0:0<=i):UO sd L (i+1).toNat=cB (UO sd L i.toNat) (L.getD i.toNat 0) ((ah sd (2*L.getD i.toNat 0)).getD 0):=by
 rw[show(i+1).toNat=i.toNat+1 by omega];rfl
theorem Pk {E:List (Int×Int)}{ds:List Int}{m:List (Int×Int)}{i:Int}(h0:0<=i):Ph E ds m (i+1).toNat=cB (Ph E ds m i.toNat) (ak E (ds.getD i.toNat 0)) 0:=by
 rw[show(i+1).toNat=i.toNat+1 by omega];rfl
theorem Pm {ds:List Int}{m:List (Int×Int)}{i:Int}(h0:0<=i):Yf ds m (i+1).toNat=cB (Yf ds m i.toNat) (ds.getD i.toNat 0/2) 0:=by
 rw[show(i+1).toNat=i.toNat+1 by omega];rfl
end Go.Proofs.YtnfdimfepbbbpaaGreat
namespace Go.Proofs.YtnfdimfepbbbpaaGreat
open Go.RowKit
open Go.Proofs.YtnfdimfepbbbpaaGreat.Deep
def UP (a b:List Int)(i:Nat):Prop:=a.take (a.length-i)=b.drop i/\a.drop (a.length-i)=b.take i
instance (a b:List Int) (i:Nat):Decidable (UP a b i):=by unfold UP;infer_instance
def Pn (a b:List Int):Prop:=a.length=b.length/\(a.length=0\/∃i,i<b.length/\UP a b i)
instance (a b:List Int):Decidable (Pn a b):=by unfold Pn;infer_instance
def pN (a b:List Int):Bool:=decide (Pn a b)
theorem Po {a b:List Int}{i:Int}(h0:0<=i)(h1:i<=(a.length:Int)):UP a b i.toNat↔a.take ((a.length:Int)-i).toNat=b.drop i.toNat/\a.drop ((a.length:Int)-i).toNat=b.take i.toNat:=by
 rw[show((a.length:Int)-i).toNat=a.length-i.toNat by omega];rfl
theorem Pp {a b:List Int}(h:¬(a.length:Int)=(b.length:Int)):false=pN a b:=(decide_eq_false fun q=>h (by rw[q.1])).symm
theorem Pq {a b:List Int}(h:(a.length:Int)=(b.length:Int)){i:Nat}(hi:i<b.length)(ht:UP a b i):true=pN a b:=(decide_eq_true ⟨by omega,.inr ⟨i,hi,ht⟩⟩).symm
theorem Pr {a b:List Int}(h:(a.length:Int)=(b.length:Int))(hb:∀j:Nat,j<b.length->¬UP a b j):decide ((a.length:Int)=0)=pN a b:=by
 unfold pN
 refine decide_eq_decide.2 ⟨fun q=>⟨by omega,.inl (by omega)⟩,fun q=>?_⟩
 rcases q.2 with z|⟨i,hi,ht⟩
 .omega
 exact absurd ht (hb i hi)
def GR (L l:List Int)(k:Nat):List Int:=(l.take k).filter fun d=>hasB L (d/2)
theorem I6 {L l:List Int}{i:Int}(h0:0<=i)(h1:i<(l.length:Int))(h:hasB L (l.getD i.toNat 0/2)=true):GR L l (i+1).toNat=GR L l i.toNat++[l.getD i.toNat 0]:=by
 unfold GR
 rw[show(i+1).toNat=i.toNat+1 by omega,b6 (show i.toNat<l.length by omega) 0,List.filter_append,List.filter_cons_of_pos (p:=fun d=>hasB L (d/2)) h];rfl
theorem Pt {L l:List Int}{i:Int}(h0:0<=i)(h1:i<(l.length:Int))(h:hasB L (l.getD i.toNat 0/2)=false):GR L l (i+1).toNat=GR L l i.toNat:=by
 unfold GR
 rw[show(i+1).toNat=i.toNat+1 by omega,b6 (show i.toNat<l.length by omega) 0,List.filter_append,List.filter_cons_of_neg (p:=fun d=>hasB L (d/2)) (by show ¬hasB L _=true;rw[h];decide)];simp
theorem I7 (L l:List Int)(k:Nat):(GR L l k).length<=k:=Nat.le_trans (List.length_filter_le _ _) (by rw[List.length_take];exact Nat.min_le_left _ _)
theorem I8 (L l:List Int):GR L l l.length=l.filter fun d=>hasB L (d/2):=by unfold GR;rw[List.take_length]
def Lz (n:Int)(E:List (Int×Int))(W:List (Int×List Int)):Nat->List (List Int)
 |0=>[]
 |k+1=>Lz n E W k++fP n E (W.getD k (0,[])).2
def bn (n:Int)(E:List (Int×Int))(V L:List Int)(T S:List (List Int)):List (List Int):=if bA n E V L T S=0 then Lz n E (aa n E V L T).1 (aa n E V L T).1.length else[]
theorem Pu {n:Int}{E:List (Int×Int)}{W:List (Int×List Int)}{i:Int}(h:0<=i):Lz n E W (i+1).toNat=Lz n E W i.toNat++fP n E (W.getD i.toNat (0,[])).2:=by
 rw[show(i+1).toNat=i.toNat+1 by omega];rfl
theorem yu (n:Int)(E:List (Int×Int))(ds:List Int):(fP n E ds).length<=ds.length:=by
 unfold fP
 split
 .exact(qw _).2
 exact Nat.zero_le _
theorem CD {n:Int}{E:List (Int×Int)}{W:List (Int×List Int)}{N:Nat}(hN:∀k,(W.getD k (0,[])).2.length<=N):∀k,(Lz n E W k).length<=k*N
 |0=>by simp[Lz]
 |k+1=>by
  have h:=CD (n:=n) (E:=E) hN k
  have h1:=yu n E (W.getD k (0,[])).2
  have h2:=hN k
  show(Lz n E W k++_).length<=_
  rw[List.length_append,Nat.succ_mul];omega
theorem GU {n:Int}{E:List (Int×Int)}{ds l:List Int}(h:l∈fP n E ds):l.length<=ds.length/\∀x∈l,x∈ds:=by
 unfold fP at h
 split at h
 .exact⟨OE _ (Nat.le_refl _) l h,(wj _ (Nat.le_refl _)).2 l h⟩
 cases h
theorem CE {n:Int}{E:List (Int×Int)}{W:List (Int×List Int)}:∀ {k:Nat},k<=W.length->∀l∈Lz n E W k,∃w∈W,l∈fP n E w.2
 |0,_,l,h=>by cases h
 |k+1,hk,l,h=>by
  rcases List.mem_append.1 h with q|q
  .exact CE (by omega) l q
  exact⟨_,af (by omega),q⟩
theorem mY {n:Int}{E:List (Int×Int)}{V L:List Int}{T S:List (List Int)}(h:bA n E V L T S=0):bn n E V L T S=Lz n E (aa n E V L T).1 (aa n E V L T).1.length:=if_pos h
theorem rX {n:Int}{E:List (Int×Int)}{V L:List Int}{T S:List (List Int)}(h:¬bA n E V L T S=0):bn n E V L T S=[]:=if_neg h
theorem yw {n:Int}{E:List (Int×Int)}{V L:List Int}{T S:List (List Int)}{l:List Int}(h:l∈bn n E V L T S):l.length<=2*L.length/\(∀d∈l,aU L d)/\L.length<=1024/\∀d∈l,0<=d/\d<=1000000:=by
 by_cases hp:bA n E V L T S=0
 .rw[mY hp] at h
  obtain⟨w,hw,hl⟩:=CE (Nat.le_refl _) l h
  have lU:=bf (bH hp).1
  obtain⟨gw,_,_⟩:=bS lU
  obtain⟨d1,d2⟩:=iF lU w hw
  obtain⟨m1,m2⟩:=GU hl
  obtain⟨hr,hV,hL,_⟩:=aD gw
  obtain⟨r1,r2,r3,_⟩:=aN hr
  have:=ay hL (by omega)
  refine⟨by omega,fun d hd=>d1 d (m2 d hd),by omega,fun d hd=>?_⟩
  obtain⟨_,x1,_,x3⟩:=cv gw (d1 d (m2 d hd))
  exact⟨x1,x3⟩
 rw[rX hp] at h;cases h
theorem yx {n:Int}{E:List (Int×Int)}{V L:List Int}{T S:List (List Int)}:(bn n E V L T S).length<=100000000:=by
 by_cases hp:bA n E V L T S=0
 .rw[mY hp]
  have hw:=bf (bH hp).1
  obtain⟨h1,_,hW⟩:=bS hw
  obtain⟨hr,hV,hL,_⟩:=aD h1
  obtain⟨r1,r2,r3,_⟩:=aN hr
  have:=ay hV r1
  have:=ay hL (by omega)
  have:=hW.len
  have h2:=CD (n:=n) (E:=E) (pM (fun w Bj=>(iF hw w Bj).2)) (aa n E V L T).1.length
  exact Nat.le_trans h2 (Nat.le_trans (Nat.mul_le_mul (show(aa n E V L T).1.length<=10000 by omega) (show 2*L.length<=10000 by omega)) (by decide))
 rw[rX hp];exact Nat.zero_le _
def lK (n:Int)(E:List (Int×Int))(V L:List Int)(T S:List (List Int)):Int:=if aA n E V L≠0 then aA n E V L else bA n E V L T S
def bR (n:Int)(E:List (Int×Int))(V L:List Int)(T S U R:List (List Int)):Int:=if lK n E V L T S≠0 then lK n E V L T S else bA n E (fD n E).1 (fD n E).2 U R
theorem tB {n:Int}{E:List (Int×Int)}{V L:List Int}{T S:List (List Int)}(h:lK n E V L T S=0):aA n E V L=0/\bA n E V L T S=0:=by
 unfold lK at h
 split at h
 .rename_i q;exact absurd h q
 rename_i q;exact⟨Classical.not_not.1 q,h⟩
theorem pO {n:Int}{E:List (Int×Int)}{V L:List Int}{T S U R:List (List Int)}(h:bR n E V L T S U R=0):lK n E V L T S=0/\bA n E (fD n E).1 (fD n E).2 U R=0:=by
 unfold bR at h
 split at h
 .rename_i q;exact absurd h q
 rename_i q;exact⟨Classical.not_not.1 q,h⟩
def K0 (V L:List Int)(T U:List (List Int))(i:Nat):Bool:=pN ((U.getD (V.getD i 0).toNat []).filter fun d=>hasB L (d/2)) (T.getD (V.getD i 0).toNat [])
def cM (n:Int)(E:List (Int×Int))(V L:List Int)(T S U R:List (List Int)):Int×Bool:=
 if bR n E V L T S U R≠0 then(0,false)
 else match(List.range V.length).find? fun i=>!K0 V L T U i with
  |some i=>(V.getD i 0,true)
  |none=>(0,false)
theorem pP {N:Nat}{p:Nat->Bool}{i:Nat}(hi:i<N)(h:p i=true)(hb:∀j,j<i->p j=false):(List.range N).find? p=some i:=by
 rw[List.find?_range_eq_some]
 exact⟨h,List.mem_range.2 hi,fun j hj=>by rw[hb j hj];rfl⟩
theorem tC {N:Nat}{p:Nat->Bool}(hb:∀j,j<N->p j=false):(List.range N).find? p=none:=by
 rw[List.find?_eq_none]
 exact fun j hj=>by rw[hb j (List.mem_range.1 hj)];decide
theorem yy {n:Int}{E:List (Int×Int)}{V L:List Int}{T S U R:List (List Int)}(h:bR n E V L T S U R≠0):cM n E V L T S U R=(0,false):=if_pos h
theorem GV {n:Int}{E:List (Int×Int)}{V L:List Int}{T S U R:List (List Int)}(h:bR n E V L T S U R=0){i:Int}(h0:0<=i)(hi:i<(V.length:Int))(ht:K0 V L T U i.toNat=false)(hb:∀j:Nat,(j:Int)<i->K0 V L T U j=true):cM n E V L T S U R=(V.getD i.toNat 0,true):=by
 unfold cM
 rw[if_neg (by rw[h];exact fun q=>q rfl),pP (i:=i.toNat) (by omega) (by rw[ht];rfl) fun j hj=>by rw[hb j (by omega)];rfl]
theorem K1 {n:Int}{E:List (Int×Int)}{V L:List Int}{T S U R:List (List Int)}(h:bR n E V L T S U R=0)(hb:∀j:Nat,j<V.length->K0 V L T U j=true):cM n E V L T S U R=(0,false):=by
 unfold cM
 rw[if_neg (by rw[h];exact fun q=>q rfl),tC fun j hj=>by rw[hb j hj];rfl]
def lsF (held now:List (Int×Int)):Int×Bool:=match held.find? fun q=>decide (¬(ah now q.1).getD 0=q.2) with
 |some q=>(q.1,true)
 |none=>(0,false)
structure LA (held now:List (Int×Int))(lf:Int->Bool)(least:Int)(bad:Bool):Prop where
 no:bad=false->least=0/\∀k v,ah held k=some v->lf k=false->(ah now k).getD 0=v
 yes:bad=true->(∃v,ah held least=some v/\¬(ah now least).getD 0=v)/\∀k v,ah held k=some v->lf k=false->¬(ah now k).getD 0=v->least<=k
section
variable {held now:List (Int×Int)}{lf:Int->Bool}{least:Int}{bad:Bool}{x v:Int}
theorem LA.start:LA held now (fun z=>(ah held z).isSome) 0 false:=
 ⟨fun _=>⟨rfl,fun k v h1 h2=>by rw[h1] at h2;cases h2⟩,fun q=>by cases q⟩
theorem Pv (h:(lf x && !decide (x=v))=false):lf x=false\/x=v:=by
 by_cases q:x=v
 .exact .inr q
 rw[decide_eq_false q] at h;simp at h;exact .inl h
theorem LA.stay (h:LA held now lf least bad)(hv:ah held x=some v)(hd:(ah now x).getD 0=v\/(bad=true/\¬x<least)):LA held now (fun z=>lf z && !decide (z=x)) least bad:=by
 refine⟨fun q=>⟨(h.no q).1,fun k u h1 h2=>?_⟩,fun q=>⟨(h.yes q).1,fun k u h1 h2 h3=>?_⟩⟩
 .rcases Pv h2 with z|z
  .exact(h.no q).2 k u h1 z
  subst z
  rw[hv] at h1;cases h1
  rcases hd with y|⟨y,_⟩
  .exact y
  rw[q] at y;cases y
 rcases Pv h2 with z|z
 .exact(h.yes q).2 k u h1 z h3
 subst z
 rw[hv] at h1;cases h1
 rcases hd with y|⟨_,y⟩
 .exact absurd y h3
 omega
theorem LA.take (h:LA held now lf least bad)(hv:ah held x=some v)(hd:¬(ah now x).getD 0=v)(hb:bad=false\/x<least):LA held now (fun z=>lf z && !decide (z=x)) x true:=by
 refine⟨fun q=>(by cases q),fun _=>⟨⟨v,hv,hd⟩,fun k u h1 h2 h3=>?_⟩⟩
 rcases Pv h2 with z|z
 .rcases hb with y|y
  .exact absurd ((h.no y).2 k u h1 z) h3
  cases hq:bad with
  |false=>exact absurd ((h.no hq).2 k u h1 z) h3
  |true=>have:=(h.yes hq).2 k u h1 z h3;omega
 omega
theorem Pw {α:Type}{m:List (Int×α)}(h:uB m):∀ {q:Int×α},q∈m->ah m q.1=some q.2:=by
 induction m with
 |nil=>intro q hq;cases hq
 |cons p m ih=>
  intro q hq
  rw[j5]
  rcases List.mem_cons.1 hq with rfl|hq
  .rw[if_pos rfl]
  have:=(List.pairwise_cons.1 h).1 q hq
  rw[if_neg (by omega)]
  exact ih (List.pairwise_cons.1 h).2 hq
theorem rY {p:Int×Int->Bool}:∀ {m:List (Int×Int)},uB m->∀ {q:Int×Int},q∈m->p q=true->(∀y∈m,p y=true->q.1<=y.1)->m.find? p=some q
 |[],_,q,hq,_,_=>by cases hq
 |y::m,h,q,hq,h1,h2=>by
  rw[List.find?_cons]
  rcases List.mem_cons.1 hq with rfl|hq
  .rw[h1]
  cases hy:p y with
  |true=>
   have a:=h2 y List.mem_cons_self hy
   have b:=(List.pairwise_cons.1 h).1 q hq
   omega
  |false=>exact rY (List.pairwise_cons.1 h).2 hq h1 fun z hz=>h2 z (List.mem_cons_of_mem _ hz)
theorem LA.fin (h:LA held now lf least bad)(hl:∀x,lf x=false)(hr:uB held):lsF held now=(least,bad):=by
 unfold lsF
 cases hb:bad with
 |false=>
  obtain⟨h1,h2⟩:=h.no hb
  have:held.find? (fun q=>decide (¬(ah now q.1).getD 0=q.2))=none:=by
   rw[List.find?_eq_none]
   intro q hq
   have:=h2 q.1 q.2 (Pw hr hq) (hl _)
   simp[this]
  rw[this,h1]
 |true=>
  obtain⟨⟨v,h1,h2⟩,h3⟩:=h.yes hb
  have:held.find? (fun q=>decide (¬(ah now q.1).getD 0=q.2))=some (least,v):=by
   refine rY hr (lz h1) (by simpa using h2) fun y hy hp=>?_
   exact h3 y.1 y.2 (Pw hr hy) (hl _) (by simpa using hp)
  rw[this]
end
theorem I9 (T:List (List Int))(sd:List (Int×Int))(V:List Int):∀k,uB (GQ T sd V k)
 |0=>tA
 |k+1=>rW (I9 T sd V k) _ _
theorem Ja {E:List (Int×Int)}{ds:List Int}{m:List (Int×Int)}(h:uB m):∀k,uB (Ph E ds m k)
 |0=>h
 |k+1=>rW (Ja h k) _ _
theorem Jb {n:Int}{E:List (Int×Int)}{V L:List Int}{T S:List (List Int)}{ds:List Int}:uB (si n E V L T S ds):=by
 unfold si
 split
 .exact Ja (I9 _ _ _ _) _
 exact tA
def LB (n:Int)(E:List (Int×Int))(V L:List Int)(T S U R:List (List Int))(l:List Int):Int×Bool:=lsF (si n E V L T S l) (si n E (fD n E).1 (fD n E).2 U R l)
def cR (n:Int)(E:List (Int×Int))(V L:List Int)(T S U R:List (List Int)):List Int×Int×Bool:=
 if bR n E V L T S U R≠0\/(cM n E V L T S U R).2=true then([],0,false)
 else match(List.range (bn n E V L T S).length).find? fun i=>(LB n E V L T S U R ((bn n E V L T S).getD i [])).2 with
  |some i=>((bn n E V L T S).getD i [],(LB n E V L T S U R ((bn n E V L T S).getD i [])).1,true)
  |none=>([],0,false)
section
variable {n:Int}{E:List (Int×Int)}{V L:List Int}{T S U R:List (List Int)}
theorem n0 (h:bR n E V L T S U R≠0\/(cM n E V L T S U R).2=true):cR n E V L T S U R=([],0,false):=if_pos h
theorem yz (h:bR n E V L T S U R=0)(h2:(cM n E V L T S U R).2=false){i:Int}(h0:0<=i)(hi:i<((bn n E V L T S).length:Int)){least:Int}(ht:LB n E V L T S U R ((bn n E V L T S).getD i.toNat [])=(least,true))(hb:∀j:Nat,(j:Int)<i->(LB n E V L T S U R ((bn n E V L T S).getD j [])).2=false):
  cR n E V L T S U R=((bn n E V L T S).getD i.toNat [],least,true):=by
 unfold cR
 rw[if_neg (by rw[h,h2];rintro(q|q);exact q rfl;cases q),pP (i:=i.toNat) (by omega) (by rw[ht]) fun j hj=>hb j (by omega)]
 show(_,(LB n E V L T S U R _).1,true)=_
 rw[ht]
theorem A9 (h:bR n E V L T S U R=0)(h2:(cM n E V L T S U R).2=false)(hb:∀j:Nat,j<(bn n E V L T S).length->(LB n E V L T S U R ((bn n E V L T S).getD j [])).2=false):cR n E V L T S U R=([],0,false):=by
 unfold cR
 rw[if_neg (by rw[h,h2];rintro(q|q);exact q rfl;cases q),tC hb]
end
def fI (n:Int)(E:List (Int×Int))(V L:List Int)(T S U R:List (List Int)):Int:=
 if bR n E V L T S U R≠0 then bR n E V L T S U R else if(cM n E V L T S U R).2=true then 5 else if(cR n E V L T S U R).2.2=true then 7 else 0
end Go.Proofs.YtnfdimfepbbbpaaGreat
namespace Go.Proofs.YtnfdimfepbbbpaaGreat
open Go.RowKit
open Go.Proofs.YtnfdimfepbbbpaaGreat.Deep
theorem SZ (a b:List Int):zg a b=pN a b:=by
 unfold zg pN
 refine decide_eq_decide.2 ⟨fun h=>⟨h.1,h.2.imp id fun⟨i,hi,e⟩=>⟨i,hi,?_⟩⟩,fun h=>⟨h.1,h.2.imp id fun⟨i,hi,e⟩=>⟨i,hi,?_⟩⟩⟩
 .rw[AG hi] at e
  have hl:a.length-i=(b.drop i).length:=by rw[List.length_drop,h.1]
  unfold UP
  rw[hl,e]
  exact⟨List.take_left ..,List.drop_left ..⟩
 rw[AG hi,<-e.1,<-e.2]
 exact(List.take_append_drop _ a).symm
end Go.Proofs.YtnfdimfepbbbpaaGreat
namespace Go.Proofs.YtnfdimfepbbbpaaGreat
open Go.RowKit
open Go.Proofs.YtnfdimfepbbbpaaGreat.Deep
def tD (n:Int)(E:List (Int×Int))(V L:List Int)(T S:List (List Int)):Int:=if bh n E≠0 then bh n E else pK n E V L T S
def zq (n:Int)(E:List (Int×Int))(V L:List Int)(T S U R:List (List Int)):Int:=if tD n E V L T S≠0 then tD n E V L T S else pK n E (upto n) (upto (E.length:Int)) U R
theorem Ba {n:Int}{E:List (Int×Int)}{V L:List Int}{T S:List (List Int)}(h:tD n E V L T S=0):bh n E=0:=by
 unfold tD at h
 split at h
 .rename_i q;exact absurd h q
 rename_i q;exact Classical.not_not.1 q
def QM (E:List (Int×Int))(W:List (Int×List Int)):Nat->List (List Int)
 |0=>[]
 |k+1=>QM E W k++OI E (W.getD k (0,[])).2
def eu (E:List (Int×Int))(V L:List Int)(T:List (List Int)):List (List Int):=QM E (ax E V L T) (ax E V L T).length
theorem Px {E:List (Int×Int)}{W:List (Int×List Int)}{i:Int}(h:0<=i):QM E W (i+1).toNat=QM E W i.toNat++OI E (W.getD i.toNat (0,[])).2:=by
 rw[show(i+1).toNat=i.toNat+1 by omega];rfl
theorem Jc (E:List (Int×Int))(ds:List Int):(OI E ds).length<=ds.length:=by
 unfold OI
 split
 .exact(qw _).2
 exact Nat.zero_le _
theorem Jd {E:List (Int×Int)}{W:List (Int×List Int)}{N:Nat}(hN:∀k,(W.getD k (0,[])).2.length<=N):∀k,(QM E W k).length<=k*N
 |0=>by simp[QM]
 |k+1=>by
  have h:=Jd (E:=E) hN k
  have h1:=Jc E (W.getD k (0,[])).2
  have h2:=hN k
  show(QM E W k++_).length<=_
  rw[List.length_append,Nat.succ_mul];omega
def Fo (V L:List Int)(T U:List (List Int)):Int:=match(List.range V.length).find? fun i=>!K0 V L T U i with
 |some i=>V.getD i 0
 |none=> -1
section
variable {V L:List Int}{T U:List (List Int)}
theorem S5 {i:Int}(h0:0<=i)(hi:i<(V.length:Int))(ht:K0 V L T U i.toNat=false)(hb:∀j:Nat,(j:Int)<i->K0 V L T U j=true):Fo V L T U=V.getD i.toNat 0:=by
 unfold Fo
 rw[pP (i:=i.toNat) (by omega) (by rw[ht];rfl) fun j hj=>by rw[hb j (by omega)];rfl]
theorem Wy (hb:∀j:Nat,j<V.length->K0 V L T U j=true):Fo V L T U= -1:=by
 unfold Fo
 rw[tC fun j hj=>by rw[hb j hj];rfl]
end
def Wz (n:Int)(E:List (Int×Int))(V L:List Int)(T S U R:List (List Int))(l:List Int)(v:Int):Bool:=
 decide (¬Fm E L (e8 E V L T S) l v=Fm E (upto (E.length:Int)) (e8 E (upto n) (upto (E.length:Int)) U R) l v)
def Fp (n:Int)(E:List (Int×Int))(V L:List Int)(T S U R:List (List Int))(l:List Int):Option Nat:=(List.range V.length).find? fun k=>Wz n E V L T S U R l (V.getD k 0)
def CF (n:Int)(E:List (Int×Int))(V L:List Int)(T S U R:List (List Int)):List Int×Int:=
 match(List.range (eu E V L T).length).find? fun i=>(Fp n E V L T S U R ((eu E V L T).getD i [])).isSome with
 |some i=>((eu E V L T).getD i [],V.getD ((Fp n E V L T S U R ((eu E V L T).getD i [])).getD 0) 0)
 |none=>([],-1)
section
variable {n:Int}{E:List (Int×Int)}{V L:List Int}{T S U R:List (List Int)}{l:List Int}
theorem WA (h:∀j,j<V.length->Wz n E V L T S U R l (V.getD j 0)=false):Fp n E V L T S U R l=none:=tC h
theorem S6 {k:Int}(h0:0<=k)(h1:k<(V.length:Int))(h2:Wz n E V L T S U R l (V.getD k.toNat 0)=true)(h3:∀j:Nat,(j:Int)<k->Wz n E V L T S U R l (V.getD j 0)=false):Fp n E V L T S U R l=some k.toNat:=
 pP (by omega) h2 fun j hj=>h3 j (by omega)
theorem Py (h:∀j,j<(eu E V L T).length->Fp n E V L T S U R ((eu E V L T).getD j [])=none):CF n E V L T S U R=([],-1):=by
 unfold CF
 rw[tC fun j hj=>by rw[h j hj];rfl]
theorem Je {i k:Int}(h0:0<=i)(h1:i<((eu E V L T).length:Int))(h2:∀j:Nat,(j:Int)<i->Fp n E V L T S U R ((eu E V L T).getD j [])=none)(h3:Fp n E V L T S U R ((eu E V L T).getD i.toNat [])=some k.toNat):CF n E V L T S U R=((eu E V L T).getD i.toNat [],V.getD k.toNat 0):=by
 unfold CF
 rw[pP (i:=i.toNat) (by omega) (by rw[h3];rfl) fun j hj=>by rw[h2 j (by omega)];rfl]
 dsimp only
 rw[h3];rfl
end
def Pz (n:Int)(E:List (Int×Int))(V L:List Int):Int:=if(E.length:Int)>60\/(V.length:Int)>60\/(L.length:Int)>60\/(n>60/\n<=1024) then 0 else 1
def vg (T:List (List Int))(N:Nat):Bool:=decide (∃j,j<T.length/\N<(T.getD j []).length)
def LC (n:Int)(E:List (Int×Int))(V L:List Int)(T:List (List Int)):Int:=if Pz n E V L=0\/(T.length:Int)>100\/vg T 200=true then 0 else 1
def zu (n:Int)(E:List (Int×Int))(V L:List Int)(T S:List (List Int)):Int:=if LC n E V L T=0\/(S.length:Int)>60\/vg S 60=true then 0 else 1
def vz (n:Int)(E:List (Int×Int))(V L:List Int)(T S:List (List Int))(V' L':List Int):Int:=if zu n E V L T S=0\/Pz n E V' L'=0\/(E.length:Int)>14\/n>16 then 0 else 1
def Z3 (n:Int)(E:List (Int×Int))(V L:List Int)(T S U R:List (List Int)):Bool:=decide (vz n E V L T S [] []=1/\zu n E [] [] U R=1)
theorem EU {T:List (List Int)}{N:Nat}{i:Int}(h0:0<=i)(h1:i<(T.length:Int))(h:(N:Int)<((T.getD i.toNat []).length:Int)):vg T N=true:=decide_eq_true ⟨i.toNat,by omega,by omega⟩
theorem Jf {T:List (List Int)}{N:Nat}{i:Int}(h1:(T.length:Int)<=i)(h:∀j:Nat,(j:Int)<i->¬(N:Int)<((T.getD j []).length:Int)):vg T N=false:=decide_eq_false fun⟨j,hj,q⟩=>h j (by omega) (by omega)
theorem EV {T:List (List Int)}{N:Nat}(h:vg T N=false):∀l∈T,l.length<=N:=fun l hl=>by
 obtain⟨j,hj,e⟩:=aB (z:=([]:List Int)).1 hl
 refine Nat.le_of_not_lt fun q=>?_
 have:vg T N=true:=decide_eq_true ⟨j,hj,by rw[e];exact q⟩
 rw[h] at this;cases this
theorem PA {n:Int}{E:List (Int×Int)}{V L:List Int}{T S:List (List Int)}(h:zu n E V L T S=1):av T/\av S:=by
 unfold zu at h
 split at h
 .cases h
 rename_i q
 have h6:¬LC n E V L T=0:=fun z=>q (.inl z)
 unfold LC at h6
 split at h6
 .exact absurd rfl h6
 rename_i w
 have l1:=EV (T:=T) (N:=200) (by cases hq:vg T 200;rfl;exact absurd (.inr (.inr hq)) w)
 have l2:=EV (T:=S) (N:=60) (by cases hq:vg S 60;rfl;exact absurd (.inr (.inr hq)) q)
 have w1:¬(T.length:Int)>100:=fun z=>w (.inr (.inl z))
 have w2:¬(S.length:Int)>60:=fun z=>q (.inr (.inl z))
 exact⟨⟨by omega,fun l hl=>Nat.le_trans (l1 l hl) (by decide)⟩,by omega,fun l hl=>Nat.le_trans (l2 l hl) (by decide)⟩
theorem WB {n:Int}{E:List (Int×Int)}{V L:List Int}{T S U R:List (List Int)}(h:Z3 n E V L T S U R=true):av T/\av S/\av U/\av R:=by
 obtain⟨h1,h2⟩:=of_decide_eq_true (p:=vz n E V L T S [] []=1/\zu n E [] [] U R=1) h
 unfold vz at h1
 split at h1
 .cases h1
 rename_i q
 have h8:zu n E V L T S=1:=by
  have:¬zu n E V L T S=0:=fun z=>q (.inl z)
  unfold zu at this ⊢
  split at this
  .exact absurd rfl this
  rename_i w;rw[if_neg w]
 obtain⟨a,b⟩:=PA h8
 obtain⟨c,d⟩:=PA h2
 exact⟨a,b,c,d⟩
theorem Z4:aS Tryz.prog 77 [(false,gX),(false,fR)] [.int] (fun x=>bz (I_ x.1.1)) (fun x=>(Pz (I_ x.1.1) (E_ x.1.2) (J_ x.2.1.1) (J_ x.2.1.2),())):=by
 refine aF Tryz.f77 31 [] Tryz.func77 fun o x hd _ _ h=>?_
 obtain⟨⟨(n:Int),(E:List (Int×Int))⟩,⟨(V:List Int),(L:List Int)⟩,_⟩:=x
 have e7:=gL h 0 E
 have eZ:=cg h 1 V
 have fS:=cg h 2 L
 change bz n at hd
 refine aC [] h fun _ _ h=>?_
 refine ag h (fun(q1:((((60:Int)<(E.length:Int))\/((60:Int)<(V.length:Int)))\/((60:Int)<(L.length:Int)))\/(((60:Int)<n)/\(n<=1024)))=>?_) (fun(q1:(((¬((60:Int)<(E.length:Int)))/\(¬((60:Int)<(V.length:Int))))/\(¬((60:Int)<(L.length:Int))))/\((¬((60:Int)<n))\/(¬(n<=1024))))=>?_)
 .refine aC [] h fun _ _ h=>?_
  exact out (((0:Int):Int),()) h (by show _=(Pz n E V L,());unfold Pz;rw[if_pos (by have:=q1;omega)]<;>rfl)
 refine aC [] h fun _ _ h=>?_
 exact out (((1:Int):Int),()) h (by show _=(Pz n E V L,());unfold Pz;rw[if_neg (by have:=q1;omega)]<;>rfl)
def UQ:cE Tryz.prog:=plain Z4
theorem Z5:aS Tryz.prog 39 [(false,gX),(false,fR),(false,(.list (.list .int)))] [.int] (fun x=>bz (I_ x.1.1)) (fun x=>(LC (I_ x.1.1) (E_ x.1.2) (J_ x.2.1.1) (J_ x.2.1.2) (K_ x.2.2.1),())):=by
 refine aF Tryz.f39 29 [UQ] Tryz.func39 fun o x hd _ _ h=>?_
 obtain⟨⟨(n:Int),(E:List (Int×Int))⟩,⟨(V:List Int),(L:List Int)⟩,(T:List (List Int)),_⟩:=x
 have e7:=gL h 0 E
 have eZ:=cg h 1 V
 have fS:=cg h 2 L
 have jm:=eP h 3 T
 change bz n at hd
 have hn:=hd
 refine go (pr:=(bz n)) [] h hn fun _ _ h=>?_
 refine ag h (fun(q1:(Pz n E V L=0)\/((100:Int)<(T.length:Int)))=>?_) (fun(q1:(¬(Pz n E V L=0))/\(¬((100:Int)<(T.length:Int))))=>?_)
 .refine aC [] h fun _ _ h=>?_
  exact out (((0:Int):Int),()) h (by show _=(LC n E V L T,());unfold LC;rw[if_pos (q1.elim .inl fun q=>.inr (.inl (by omega)))]<;>rfl)
 refine aC [] h fun _ _ h=>?_
 refine go_loop (Int) (fun i=>⟨[(2,eo 0),(7,en i)],[(0,some (.ar (.list .int) T))],1⟩) (fun i=>0<=i/\i<=(T.length:Int)/\∀j:Nat,(j:Int)<i->¬((200:Nat):Int)<((T.getD j []).length:Int)) (fun i=>((T.length:Int)-i).toNat) (0) (rk [3]) h ⟨Int.le_refl _,Int.natCast_nonneg _,fun j hj=>by omega⟩ fun i _ _ _ cq hI h=>?_
 obtain⟨i0,i1,i2⟩:=hI
 refine aC [] h fun _ _ h=>?_
 refine ag h (fun(q2:i<(T.length:Int))=>?_) (fun(q2:¬(i<(T.length:Int)))=>?_)
 .refine go (pr:=(aV i T.length)) [] h bx fun _ _ h=>?_
  refine ag h (fun(q3:(200:Int)<((T.getD i.toNat []).length:Int))=>?_) (fun(q3:¬((200:Int)<((T.getD i.toNat []).length:Int)))=>?_)
  .refine aC [] h fun _ _ h=>?_
   exact out (((0:Int):Int),()) h (by show _=(LC n E V L T,());unfold LC;rw[if_pos (.inr (.inr (EU i0 (by omega) (by have:=q3;omega))))]<;>rfl)
  refine go (pr:=(aX .i64 (i+1))) [] h bw fun _ _ h=>?_
  exact bZ (cq (i+1) (ir 1) h ⟨by omega,by omega,fun j hj=>if z:(j:Int)<i then i2 j z else by rw[show j=i.toNat by omega];have:=q3;omega⟩ (by omega))
 refine aC [] h fun _ _ h=>?_
 exact out (((1:Int):Int),()) h (by show _=(LC n E V L T,());unfold LC;rw[if_neg (by rintro(q|q|q);exact q1.1 q;(have:=q1.2;omega);rw[Jf (by omega) i2] at q;cases q)]<;>rfl)
def Z6:cE Tryz.prog:=plain Z5
theorem Z7:aS Tryz.prog 19 [(false,gX),(false,fR),(false,(.pair (.list (.list .int)) (.list (.list .int))))] [.int] (fun x=>bz (I_ x.1.1)) (fun x=>(zu (I_ x.1.1) (E_ x.1.2) (J_ x.2.1.1) (J_ x.2.1.2) (K_ x.2.2.1.1) (K_ x.2.2.1.2),())):=by
 refine aF Tryz.f19 34 [Z6] Tryz.func19 fun o x hd _ _ h=>?_
 obtain⟨⟨(n:Int),(E:List (Int×Int))⟩,⟨(V:List Int),(L:List Int)⟩,⟨(T:List (List Int)),(S:List (List Int))⟩,_⟩:=x
 have e7:=gL h 0 E
 have eZ:=cg h 1 V
 have fS:=cg h 2 L
 have jm:=eP h 3 T
 have tE:=eP h 4 S
 change bz n at hd
 have hn:=hd
 refine go (pr:=(bz n)) [] h hn fun _ _ h=>?_
 refine ag h (fun(q1:(LC n E V L T=0)\/((60:Int)<(S.length:Int)))=>?_) (fun(q1:(¬(LC n E V L T=0))/\(¬((60:Int)<(S.length:Int))))=>?_)
 .refine aC [] h fun _ _ h=>?_
  exact out (((0:Int):Int),()) h (by show _=(zu n E V L T S,());unfold zu;rw[if_pos (q1.elim .inl fun q=>.inr (.inl (by omega)))]<;>rfl)
 refine aC [] h fun _ _ h=>?_
 refine go_loop (Int) (fun i=>⟨[(5,ep 0),(7,en i)],[(0,some (.box 30 [.own 1,.own 2])),(1,some (.ar (.list .int) T)),(2,some (.ar (.list .int) S))],3⟩) (fun i=>0<=i/\i<=(S.length:Int)/\∀j:Nat,(j:Int)<i->¬((60:Nat):Int)<((S.getD j []).length:Int)) (fun i=>((S.length:Int)-i).toNat) (0) (rk [8197,3,4]) h ⟨Int.le_refl _,Int.natCast_nonneg _,fun j hj=>by omega⟩ fun i _ _ _ cq hI h=>?_
 obtain⟨i0,i1,i2⟩:=hI
 refine aC [] h fun _ _ h=>?_
 refine ag h (fun(q2:i<(S.length:Int))=>?_) (fun(q2:¬(i<(S.length:Int)))=>?_)
 .refine go (pr:=(aV i S.length)) [] h bx fun _ _ h=>?_
  refine ag h (fun(q3:(60:Int)<((S.getD i.toNat []).length:Int))=>?_) (fun(q3:¬((60:Int)<((S.getD i.toNat []).length:Int)))=>?_)
  .refine aC [] h fun _ _ h=>?_
   exact out (((0:Int):Int),()) h (by show _=(zu n E V L T S,());unfold zu;rw[if_pos (.inr (.inr (EU i0 (by omega) (by have:=q3;omega))))]<;>rfl)
  refine go (pr:=(aX .i64 (i+1))) [] h bw fun _ _ h=>?_
  exact bZ (cq (i+1) (ir 3) h ⟨by omega,by omega,fun j hj=>if z:(j:Int)<i then i2 j z else by rw[show j=i.toNat by omega];have:=q3;omega⟩ (by omega))
 refine aC [] h fun _ _ h=>?_
 exact out (((1:Int):Int),()) h (by show _=(zu n E V L T S,());unfold zu;rw[if_neg (by rintro(q|q|q);exact q1.1 q;(have:=q1.2;omega);rw[Jf (by omega) i2] at q;cases q)]<;>rfl)
def UR:cE Tryz.prog:=plain Z7
theorem WC:aS Tryz.prog 76 [(false,(.pair gX (.pair fR (.pair (.list (.list .int)) (.list (.list .int))))))] [.int] (fun x=>bz (I_ x.1.1.1)) (fun x=>(zu (I_ x.1.1.1) (E_ x.1.1.2) (J_ x.1.2.1.1) (J_ x.1.2.1.2) (K_ x.1.2.2.1) (K_ x.1.2.2.2),())):=by
 refine aF Tryz.f76 10 [UR] Tryz.func76 fun o x hd _ _ h=>?_
 obtain⟨⟨⟨(n:Int),(E:List (Int×Int))⟩,⟨⟨(V:List Int),(L:List Int)⟩,⟨(T:List (List Int)),(S:List (List Int))⟩⟩⟩,_⟩:=x
 have e7:=gL h 0 E
 have eZ:=cg h 1 V
 have fS:=cg h 2 L
 have jm:=eP h 3 T
 have tE:=eP h 4 S
 change bz n at hd
 have hn:=hd
 refine go (pr:=(bz n)) [] h hn fun _ _ h=>?_
 exact out ((zu n E V L T S:Int),()) h rfl
def WD:cE Tryz.prog:=plain WC
theorem WE:aS Tryz.prog 38 [(false,(.pair gX (.pair fR (.pair (.list (.list .int)) (.list (.list .int)))))),(false,fR)] [.int] (fun x=>bz (I_ x.1.1.1)) (fun x=>(vz (I_ x.1.1.1) (E_ x.1.1.2) (J_ x.1.2.1.1) (J_ x.1.2.1.2) (K_ x.1.2.2.1) (K_ x.1.2.2.2) (J_ x.2.1.1) (J_ x.2.1.2),())):=by
 refine aF Tryz.f38 28 [WD,UQ] Tryz.func38 fun o x hd _ _ h=>?_
 obtain⟨⟨⟨(n:Int),(E:List (Int×Int))⟩,⟨⟨(V:List Int),(L:List Int)⟩,⟨(T:List (List Int)),(S:List (List Int))⟩⟩⟩,⟨(V9:List Int),(L9:List Int)⟩,_⟩:=x
 have e7:=gL h 0 E
 have eZ:=cg h 1 V
 have fS:=cg h 2 L
 have jm:=eP h 3 T
 have tE:=eP h 4 S
 have GX:=cg h 5 V9
 have QN:=cg h 6 L9
 change bz n at hd
 have hn:=hd
 refine go (pr:=(bz n)/\((¬(zu n E V L T S=0))->(bz n))) [] h ⟨hn,fun _=>hn⟩ fun _ _ h=>?_
 refine ag h (fun(q1:(((zu n E V L T S=0)\/(Pz n E V9 L9=0))\/((14:Int)<(E.length:Int)))\/((16:Int)<n))=>?_) (fun(q1:(((¬(zu n E V L T S=0))/\(¬(Pz n E V9 L9=0)))/\(¬((14:Int)<(E.length:Int))))/\(¬((16:Int)<n)))=>?_)
 .refine aC [] h fun _ _ h=>?_
  exact out (((0:Int):Int),()) h (by show _=(vz n E V L T S V9 L9,());unfold vz;rw[if_pos (by have:=q1;omega)]<;>rfl)
 refine aC [] h fun _ _ h=>?_
 exact out (((1:Int):Int),()) h (by show _=(vz n E V L T S V9 L9,());unfold vz;rw[if_neg (by have:=q1;omega)]<;>rfl)
def WG:cE Tryz.prog:=plain WE
theorem WH:aS Tryz.prog 18 [(false,(.pair gX (.pair fR (.pair (.list (.list .int)) (.list (.list .int))))))] [.int] (fun x=>bz (I_ x.1.1.1)) (fun x=>(vz (I_ x.1.1.1) (E_ x.1.1.2) (J_ x.1.2.1.1) (J_ x.1.2.1.2) (K_ x.1.2.2.1) (K_ x.1.2.2.2) [] [],())):=by
 refine aF Tryz.f18 6 [WG] Tryz.func18 fun o x hd _ _ h=>?_
 obtain⟨⟨⟨(n:Int),(E:List (Int×Int))⟩,⟨⟨(V:List Int),(L:List Int)⟩,⟨(T:List (List Int)),(S:List (List Int))⟩⟩⟩,_⟩:=x
 have e7:=gL h 0 E
 have eZ:=cg h 1 V
 have fS:=cg h 2 L
 have jm:=eP h 3 T
 have tE:=eP h 4 S
 change bz n at hd
 have hn:=hd
 refine go (pr:=(bz n)) [] h hn fun _ _ h=>?_
 exact out ((vz n E V L T S [] []:Int),()) h rfl
def WI:cE Tryz.prog:=plain WH
theorem WJ:aS Tryz.prog 6 [(false,(.pair gX (.pair fR (.pair (.list (.list .int)) (.list (.list .int)))))),(false,(.pair (.list (.list .int)) (.list (.list .int))))] [.bool] (fun x=>bz (I_ x.1.1.1)) (fun x=>(Z3 (I_ x.1.1.1) (E_ x.1.1.2) (J_ x.1.2.1.1) (J_ x.1.2.1.2) (K_ x.1.2.2.1) (K_ x.1.2.2.2) (K_ x.2.1.1) (K_ x.2.1.2),())):=by
 refine aF Tryz.f6 16 [WI,UR] Tryz.func6 fun o x hd _ _ h=>?_
 obtain⟨⟨⟨(n:Int),(E:List (Int×Int))⟩,⟨⟨(V:List Int),(L:List Int)⟩,⟨(T:List (List Int)),(S:List (List Int))⟩⟩⟩,⟨(U:List (List Int)),(R:List (List Int))⟩,_⟩:=x
 have e7:=gL h 0 E
 have eZ:=cg h 1 V
 have fS:=cg h 2 L
 have jm:=eP h 3 T
 have tE:=eP h 4 S
 have GX:=eP h 5 U
 have QN:=eP h 6 R
 change bz n at hd
 have hn:=hd
 refine go (pr:=(bz n)/\((vz n E V L T S [] []=1)->(bz n))) [] h ⟨hn,fun _=>hn⟩ fun _ _ h=>?_
 exact out (((decide (vz n E V L T S [] []=1)) && (decide (zu n E [] [] U R=1)):Bool),()) h (by unfold Z3;simp only[Bool.decide_and]<;>rfl)
def WK:cE Tryz.prog:=plain WJ
theorem S7:aS Tryz.prog 118 [(false,(.list .int)),(false,.int)] [.int] (fun _=>True) (fun x=>(jY (J_ x.1) (I_ x.2.1),())):=by
 refine aF Tryz.f118 19 [] Tryz.func118 fun o x hd _ _ h=>?_
 obtain⟨(l:List Int),(x:Int),_⟩:=x
 have e7:=cg h 0 l
 refine aC [] h fun _ _ h=>?_
 refine go_loop (Int) (fun i=>⟨[(0,eo 0),(1,en x),(5,en i)],[(0,some (.ar .int l))],1⟩) (fun i=>0<=i/\i<=(l.length:Int)/\∀j:Nat,(j:Int)<i->¬l.getD j 0=x) (fun i=>((l.length:Int)-i).toNat) (0) (ir 1) h ⟨Int.le_refl _,Int.natCast_nonneg _,fun j hj=>by omega⟩ fun i _ _ _ cq hI h=>?_
 obtain⟨i0,i1,i2⟩:=hI
 refine aC [] h fun _ _ h=>?_
 refine ag h (fun(q1:i<(l.length:Int))=>?_) (fun(q1:¬(i<(l.length:Int)))=>?_)
 .refine go (pr:=(aV i l.length)) [] h bx fun _ _ h=>?_
  refine ag h (fun(q2:(l.getD i.toNat 0)=x)=>?_) (fun(q2:¬((l.getD i.toNat 0)=x))=>?_)
  .refine aC [] h fun _ _ h=>?_
   exact out ((i:Int),()) h (by rw[RS i0 (by omega) q2 i2])
  refine go (pr:=(aX .i64 (i+1))) [] h bw fun _ _ h=>?_
  exact bZ (cq (i+1) (ir 1) h ⟨by omega,by omega,fun j hj=>if z:(j:Int)<i then i2 j z else by rw[show j=i.toNat by omega];exact q2⟩ (by omega))
 refine aC [] h fun _ _ h=>?_
 exact out (((-1:Int):Int),()) h (by rw[VU (fun j hj=>i2 j (by omega))])
def Jg:cE Tryz.prog:=plain S7
theorem WL:aS Tryz.prog 91 [(false,(.list .int))] [.bool] (fun _=>True) (fun x=>(decide (J_ x.1).Nodup,())):=by
 refine aF Tryz.f91 18 [Jg] Tryz.func91 fun o x hd _ _ h=>?_
 obtain⟨(l:List Int),_⟩:=x
 have e7:=cg h 0 l
 refine aC [] h fun _ _ h=>?_
 refine go_loop (Int) (fun i=>⟨[(0,eo 0),(3,en i)],[(0,some (.ar .int l))],1⟩) (fun i=>0<=i/\i<=(l.length:Int)/\∀j:Nat,(j:Int)<i->¬jY l (l.getD j 0)<(j:Int)) (fun i=>((l.length:Int)-i).toNat) (0) (ir 1) h ⟨Int.le_refl _,Int.natCast_nonneg _,fun j hj=>by omega⟩ fun i _ _ _ cq hI h=>?_
 obtain⟨i0,i1,i2⟩:=hI
 refine aC [] h fun _ _ h=>?_
 refine ag h (fun(q1:i<(l.length:Int))=>?_) (fun(q1:¬(i<(l.length:Int)))=>?_)
 .refine go (pr:=(aV i l.length)/\True) [] h ⟨bx,tv⟩ fun _ _ h=>?_
  refine ag h (fun(q2:jY l (l.getD i.toNat 0)<i)=>?_) (fun(q2:¬(jY l (l.getD i.toNat 0)<i))=>?_)
  .refine aC [] h fun _ _ h=>?_
   exact out ((false:Bool),()) h (by rw[VV i0 (by omega) q2])
  refine go (pr:=(aX .i64 (i+1))) [] h bw fun _ _ h=>?_
  exact bZ (cq (i+1) (ir 1) h ⟨by omega,by omega,fun j hj=>if z:(j:Int)<i then i2 j z else by rw[show j=i.toNat by omega,Int.toNat_of_nonneg i0];exact q2⟩ (by omega))
 refine aC [] h fun _ _ h=>?_
 exact out ((true:Bool),()) h (by rw[RU (i:=i) (by omega) i2])
def WM:cE Tryz.prog:=plain WL
theorem WN:aS Tryz.prog 54 [(false,(.list .int)),(false,.int)] [(.list .int)] (fun x=>0<=(I_ x.2.1)/\(I_ x.2.1)<=1000000/\(J_ x.1).length<=1000000) (fun x=>(qK (J_ x.1) (I_ x.2.1) (J_ x.1).length,())):=by
 refine aF Tryz.f54 26 [] Tryz.func54 fun o x hd _ _ h=>?_
 obtain⟨(l:List Int),(at_:Int),_⟩:=x
 have e7:=cg h 0 l
 change 0<=at_/\at_<=1000000/\l.length<=1000000 at hd
 obtain⟨t0,t1,hl⟩:=hd
 refine aC [] h fun _ _ h=>?_
 refine aK Int (List Int) (fun i ou=>⟨[(0,eo 0),(1,en at_),(5,eo 1),(6,en i)],[(0,some (.ar .int l)),(1,some (.row 3 .int ou))],2⟩) (fun i ou=>0<=i/\i<=(l.length:Int)/\ou=qK l at_ i.toNat) (fun i ou=>((l.length:Int)-i).toNat) 0 [] [(0,some 0),(1,none)] h ⟨Int.le_refl _,Int.natCast_nonneg _,rfl⟩ fun i ou _ _ _ cq hI h=>?_
 obtain⟨i0,i1,i2⟩:=hI
 refine aC [] h fun _ _ h=>?_
 refine ag h (fun(q1:i<(l.length:Int))=>?_) (fun(q1:¬(i<(l.length:Int)))=>?_)
 .have uS:=jA (l:=l) at_ i.toNat
  rw[<-i2] at uS
  have hm0:=Int.emod_nonneg (at_+i) (show(l.length:Int)≠0 by omega)
  have hm1:=Int.emod_lt_of_pos (at_+i) (show 0<(l.length:Int) by omega)
  refine go (pr:=(aX .i64 (at_+i))/\(0<=at_+i/\0<(l.length:Int))/\(aV ((at_+i)%(l.length:Int)) l.length)/\(ou.length+([(l.getD ((at_+i)%(l.length:Int)).toNat 0)]:List Int).length<=2147483647)/\(aX .i64 (i+1))) [] h ⟨bw,⟨by omega,by omega⟩,bx,ln,bw⟩ fun _ _ h=>?_
  exact bZ (cq (i+1) (ou++([(l.getD ((at_+i)%(l.length:Int)).toNat 0)]:List Int)) (rk [0,61442]) h ⟨by omega,by omega,by rw[KL i0,<-i2]⟩ (by omega))
 have oz:i.toNat=l.length:=by omega
 rw[oz] at i2
 refine aC [] h fun _ _ h=>?_
 exact out ((ou:List Int),()) h (by rw[i2])
def WO:cE Tryz.prog:=plain WN
theorem WQ:aS Tryz.prog 53 [(false,(.list .int)),(false,(.list .int))] [.bool] (fun _=>True) (fun x=>(decide ((J_ x.1)=(J_ x.2.1)),())):=by
 refine aF Tryz.f53 26 [] Tryz.func53 fun o x hd _ _ h=>?_
 obtain⟨(l:List Int),(m:List Int),_⟩:=x
 have e7:=cg h 0 l
 have eZ:=cg h 1 m
 refine aC [] h fun _ _ h=>?_
 refine ag h (fun(q1:¬((l.length:Int)=(m.length:Int)))=>?_) (fun(q1:(l.length:Int)=(m.length:Int))=>?_)
 .refine aC [] h fun _ _ h=>?_
  exact out ((false:Bool),()) h (by rw[N5 q1])
 have hle:=q1
 refine aC [] h fun _ _ h=>?_
 refine go_loop (Int) (fun i=>⟨[(0,eo 0),(1,eo 1),(5,en i)],[(0,some (.ar .int l)),(1,some (.ar .int m))],2⟩) (fun i=>0<=i/\i<=(l.length:Int)/\∀j:Nat,(j:Int)<i->l.getD j 0=m.getD j 0) (fun i=>((l.length:Int)-i).toNat) (0) (ir 2) h ⟨Int.le_refl _,Int.natCast_nonneg _,fun j hj=>by omega⟩ fun i _ _ _ cq hI h=>?_
 obtain⟨i0,i1,i2⟩:=hI
 refine aC [] h fun _ _ h=>?_
 refine ag h (fun(q2:i<(l.length:Int))=>?_) (fun(q2:¬(i<(l.length:Int)))=>?_)
 .refine go (pr:=(aV i l.length)/\(aV i m.length)) [] h ⟨bx,bx⟩ fun _ _ h=>?_
  refine ag h (fun(q3:¬((l.getD i.toNat 0)=(m.getD i.toNat 0)))=>?_) (fun(q3:(l.getD i.toNat 0)=(m.getD i.toNat 0))=>?_)
  .refine aC [] h fun _ _ h=>?_
   exact out ((false:Bool),()) h (by rw[UG i0 q3])
  refine go (pr:=(aX .i64 (i+1))) [] h bw fun _ _ h=>?_
  exact bZ (cq (i+1) (ir 2) h ⟨by omega,by omega,fun j hj=>if z:(j:Int)<i then i2 j z else by rw[show j=i.toNat by omega];exact q3⟩ (by omega))
 refine aC [] h fun _ _ h=>?_
 exact out ((true:Bool),()) h (by rw[N6 hle (i:=i) (by omega) i2])
def WR:cE Tryz.prog:=plain WQ
theorem S8:aS Tryz.prog 30 [(false,(.list .int)),(false,(.list .int))] [.bool] (fun x=>(J_ x.2.1).length<=1000000) (fun x=>(zg (J_ x.1) (J_ x.2.1),())):=by
 refine aF Tryz.f30 25 [WR,WO] Tryz.func30 fun o x hd _ _ h=>?_
 obtain⟨(l:List Int),(b:List Int),_⟩:=x
 have e7:=cg h 0 l
 have eZ:=cg h 1 b
 change b.length<=1000000 at hd
 refine aC [] h fun _ _ h=>?_
 refine ag h (fun(q1:¬((l.length:Int)=(b.length:Int)))=>?_) (fun(q1:(l.length:Int)=(b.length:Int))=>?_)
 .refine aC [] h fun _ _ h=>?_
  exact out ((false:Bool),()) h (by rw[N8 q1])
 have hle:=q1
 refine aC [] h fun _ _ h=>?_
 refine go_loop (Int) (fun i=>⟨[(0,eo 0),(1,eo 1),(5,en i)],[(0,some (.ar .int l)),(1,some (.ar .int b))],2⟩) (fun i=>0<=i/\i<=(b.length:Int)/\∀j:Nat,(j:Int)<i->¬l=qK b (j:Int) b.length) (fun i=>((b.length:Int)-i).toNat) (0) (ir 2) h ⟨Int.le_refl _,Int.natCast_nonneg _,fun j hj=>by omega⟩ fun i _ _ _ cq hI h=>?_
 obtain⟨i0,i1,i2⟩:=hI
 refine aC [] h fun _ _ h=>?_
 refine ag h (fun(q2:i<(b.length:Int))=>?_) (fun(q2:¬(i<(b.length:Int)))=>?_)
 .refine go (pr:=(0<=i/\i<=1000000/\b.length<=1000000)/\True) [] h ⟨⟨by omega,by omega,by omega⟩,tv⟩ fun _ _ h=>?_
  refine ag h (fun(q3:(decide (l=qK b i b.length))=true)=>?_) (fun(q3:(decide (l=qK b i b.length))=false)=>?_)
  .refine aC [] h fun _ _ h=>?_
   exact out ((true:Bool),()) h (by rw[N9 hle i0 (by omega) (of_decide_eq_true q3)])
  refine go (pr:=(aX .i64 (i+1))) [] h bw fun _ _ h=>?_
  exact bZ (cq (i+1) (ir 2) h ⟨by omega,by omega,fun j hj=>if z:(j:Int)<i then i2 j z else by rw[show(j:Int)=i by omega];exact of_decide_eq_false q3⟩ (by omega))
 refine aC [] h fun _ _ h=>?_
 exact out ((decide ((l.length:Int)=0):Bool),()) h (by rw[<-Oa hle (fun j hj=>i2 j (by omega))])
def S9:cE Tryz.prog:=plain S8
theorem Ta:aS Tryz.prog 119 [(false,gX),(false,(.list (.list .int))),(false,.int),(false,.int)] [.int] (fun x=>bz (I_ x.1.1)/\av (K_ x.2.1)/\Et (E_ x.1.2) (K_ x.2.1) (I_ x.2.2.1)/\-1<=(I_ x.2.2.2.1)/\(I_ x.2.2.2.1)<=1) (fun x=>(RV (E_ x.1.2) (K_ x.2.1) (I_ x.2.2.1) (I_ x.2.2.2.1),())):=by
 refine aF Tryz.f119 32 [Jg,qx] Tryz.func119 fun o x hd _ _ h=>?_
 obtain⟨⟨(n:Int),(E:List (Int×Int))⟩,(T:List (List Int)),(d:Int),(m:Int),_⟩:=x
 have e7:=gL h 0 E
 have eZ:=eP h 1 T
 change bz n/\av T/\Et E T d/\-1<=m/\m<=1 at hd
 obtain⟨hn,cw,⟨d0,d1,d2,t0,t1,t2⟩,m0,m1⟩:=hd
 have abP:=cw.2 _ (af (l:=T) (i:=(ak E d).toNat) (d:=[]) (by omega))
 have DV:=RT.2 t2
 have XT:=(Zw (l:=(T.getD (ak E d).toNat [])) (x:=d)).2
 have hm0:=Int.emod_nonneg (jY (T.getD (ak E d).toNat []) d+m+((T.getD (ak E d).toNat []).length:Int)) (show((T.getD (ak E d).toNat []).length:Int)≠0 by omega)
 have hm1:=Int.emod_lt_of_pos (jY (T.getD (ak E d).toNat []) d+m+((T.getD (ak E d).toNat []).length:Int)) (show 0<((T.getD (ak E d).toNat []).length:Int) by omega)
 refine go (pr:=(bz n/\0<=d/\d/2<(E.length:Int)/\d<=1000000)/\(aV (ak E d) T.length)/\True/\(aX .i64 ((jY (T.getD (ak E d).toNat []) d)+m))/\(aX .i64 (((jY (T.getD (ak E d).toNat []) d)+m)+((T.getD (ak E d).toNat []).length:Int)))/\(0<=((jY (T.getD (ak E d).toNat []) d)+m)+((T.getD (ak E d).toNat []).length:Int)/\0<((T.getD (ak E d).toNat []).length:Int))/\(aV ((((jY (T.getD (ak E d).toNat []) d)+m)+((T.getD (ak E d).toNat []).length:Int))%((T.getD (ak E d).toNat []).length:Int)) (T.getD (ak E d).toNat []).length)) [] h ⟨⟨hn,by omega,by omega,by omega⟩,bx,tv,bw,bw,⟨by omega,by omega⟩,bx⟩ fun _ _ h=>?_
 exact out ((((T.getD (ak E d).toNat []).getD ((((jY (T.getD (ak E d).toNat []) d)+m)+((T.getD (ak E d).toNat []).length:Int))%((T.getD (ak E d).toNat []).length:Int)).toNat 0):Int),()) h rfl
def Tb:cE Tryz.prog:=plain Ta
theorem PB:aS Tryz.prog 93 [(false,gX),(false,(.list (.list .int))),(false,.int)] [.int] (fun x=>bz (I_ x.1.1)/\av (K_ x.2.1)/\Et (E_ x.1.2) (K_ x.2.1) (aq (I_ x.2.2.1))/\0<=(I_ x.2.2.1)/\(I_ x.2.2.1)<=1000000) (fun x=>(fF (E_ x.1.2) (K_ x.2.1) (I_ x.2.2.1),())):=by
 refine aF Tryz.f93 12 [Tb,Cq] Tryz.func93 fun o x hd _ _ h=>?_
 obtain⟨⟨(n:Int),(E:List (Int×Int))⟩,(T:List (List Int)),(d:Int),_⟩:=x
 have e7:=gL h 0 E
 have eZ:=eP h 1 T
 change bz n/\av T/\Et E T (aq d)/\0<=d/\d<=1000000 at hd
 obtain⟨hn,cw,tI,d0,d1⟩:=hd
 refine go (pr:=(0<=d/\d<=1000000)/\(bz n/\av T/\Et E T (aq d)/\-1<=(-1:Int)/\(-1:Int)<=1)) [] h ⟨⟨by omega,by omega⟩,⟨hn,cw,tI,by omega,by omega⟩⟩ fun _ _ h=>?_
 exact out ((RV E T (aq d) (-1:Int):Int),()) h rfl
def PC:cE Tryz.prog:=plain PB
theorem K3:aS Tryz.prog 47 [(false,gX),(false,fR),(false,(.list (.list .int)))] [.int] (fun x=>bz (I_ x.1.1)) (fun x=>((bT (I_ x.1.1) (E_ x.1.2) (J_ x.2.1.1) (J_ x.2.1.2) (K_ x.2.2.1)).2,())):=by
 refine aF Tryz.f47 64 [EI,lI,WM,OU] Tryz.func47 fun o x hd _ _ h=>?_
 obtain⟨⟨(n:Int),(E:List (Int×Int))⟩,⟨(V:List Int),(L:List Int)⟩,(T:List (List Int)),_⟩:=x
 have e7:=gL h 0 E
 have eZ:=cg h 1 V
 have fS:=cg h 2 L
 have jm:=eP h 3 T
 change bz n at hd
 have hn:=hd
 refine go (pr:=(bz n)) [] h hn fun _ _ h=>?_
 refine ag h (fun(q1:¬(aA n E V L=0))=>?_) (fun(q1:aA n E V L=0)=>?_)
 .refine aC [] h fun _ _ h=>?_
  exact out ((aA n E V L:Int),()) h (by rw[AI q1])
 have gw:=q1
 obtain⟨jZ,hV,hL,_⟩:=aD gw
 obtain⟨r1,r2,r3,_⟩:=aN jZ
 refine aC [] h fun _ _ h=>?_
 refine ag h (fun(q2:¬((T.length:Int)=n))=>?_) (fun(q2:(T.length:Int)=n)=>?_)
 .refine aC [] h fun _ _ h=>?_
  exact out (((5:Int):Int),()) h (by rw[xW gw q2])
 have hT:=q2
 refine aC [] h fun _ _ h=>?_
 refine go_loop (Int) (fun v=>⟨[(2,eo 0),(3,ep 1),(4,ep 2),(8,en v)],[(0,some (.ar (.list .int) T)),(1,some (.box 24 [.v (.int .i64 n),.own 3])),(2,some (.box 27 [.own 4,.own 5])),(3,some (.ar fA E)),(4,some (.ar .int V)),(5,some (.ar .int L))],6⟩) (fun v=>0<=v/\v<=n/\∀j:Nat,(j:Int)<v->VOk E L T (j:Int)) (fun v=>(n-v).toNat) (0) (rk [3,4,4100,0,1,2]) h ⟨Int.le_refl _,by omega,fun j hj=>by omega⟩ fun v _ _ _ cq hI h=>?_
 obtain⟨v0,v1,v2⟩:=hI
 refine aC [] h fun _ _ h=>?_
 refine ag h (fun(q3:v<n)=>?_) (fun(q3:¬(v<n))=>?_)
 .have vj:=ay (jW (E:=E) (v:=v) hL) (by omega)
  by_cases z1:((aR E L v).length:Int)=((T.getD v.toNat []).length:Int)
  .refine go (pr:=(bz n/\bP L (E.length:Int)/\(E.length:Int)<=100000)/\(aV v T.length)/\(((aR E L v).length:Int)=((T.getD v.toNat []).length:Int))/\(aV v T.length)/\True) [(40,false)] h ⟨⟨hn,hL,by omega⟩,bx,z1,bx,tv⟩ fun _ _ h=>?_
   refine ag h (fun(q4:(decide (T.getD v.toNat []).Nodup)=false)=>?_) (fun(q4:(decide (T.getD v.toNat []).Nodup)=true)=>?_)
   .refine aC [] h fun _ _ h=>?_
    exact out (((5:Int):Int),()) h (by rw[Gx gw v0 (by omega) (fun w=>of_decide_eq_false q4 w.2.1)])
   have Lv:=q4
   refine aC [] h fun _ _ h=>?_
   refine go_loop (Int) (fun i=>⟨[(2,eo 0),(3,ep 1),(4,ep 2),(8,en v),(9,eo 3),(10,en i)],[(0,some (.ar (.list .int) T)),(1,some (.box 24 [.v (.int .i64 n),.own 4])),(2,some (.box 27 [.own 5,.own 6])),(3,some (.ro .int (aR E L v))),(4,some (.ar fA E)),(5,some (.ar .int V)),(6,some (.ar .int L))],7⟩) (fun i=>0<=i/\i<=((aR E L v).length:Int)/\∀j:Nat,(j:Int)<i->(aR E L v).getD j 0∈(T.getD v.toNat [])) (fun i=>(((aR E L v).length:Int)-i).toNat) (0) (rk [0,1,2,28678,3,4,5]) h ⟨Int.le_refl _,Int.natCast_nonneg _,fun j hj=>by omega⟩ fun i _ _ _ fQ hI h=>?_
   obtain⟨i0,i1,i2⟩:=hI
   refine aC [] h fun _ _ h=>?_
   refine ag h (fun(q5:i<((aR E L v).length:Int))=>?_) (fun(q5:¬(i<((aR E L v).length:Int)))=>?_)
   .refine go (pr:=(aV v T.length)/\(aV i (aR E L v).length)/\True) [] h ⟨bx,bx,tv⟩ fun _ _ h=>?_
    refine ag h (fun(q6:(decide (((aR E L v).getD i.toNat 0)∈(T.getD v.toNat [])))=false)=>?_) (fun(q6:(decide (((aR E L v).getD i.toNat 0)∈(T.getD v.toNat [])))=true)=>?_)
    .refine aC [] h fun _ _ h=>?_
     exact out (((5:Int):Int),()) h (by rw[Gx gw v0 (by omega) (fun w=>of_decide_eq_false q6 (w.2.2 _ (af (l:=(aR E L v)) (i:=i.toNat) (d:=0) (by omega))))])
    refine go (pr:=(aX .i64 (i+1))) [] h bw fun _ _ h=>?_
    exact bZ (fQ (i+1) (ir 7) h ⟨by omega,by omega,fun j hj=>if z:(j:Int)<i then i2 j z else by rw[show j=i.toNat by omega];exact of_decide_eq_true q6⟩ (by omega))
   refine go (pr:=(aX .i64 (v+1))) [] h bw fun _ _ h=>?_
   exact bZ (cq (v+1) (rk [0,1,2,4,5,6]) h ⟨by omega,by omega,fun j hj=>if z:(j:Int)<v then v2 j z else by rw[show(j:Int)=v by omega];exact⟨z1,of_decide_eq_true Lv,fun d hd=>by obtain⟨k,hk,e⟩:=aB (z:=(0:Int)).1 hd;rw[<-e];exact i2 k (by omega)⟩⟩ (by omega))
  refine go (pr:=(bz n/\bP L (E.length:Int)/\(E.length:Int)<=100000)/\(aV v T.length)/\(¬(((aR E L v).length:Int)=((T.getD v.toNat []).length:Int)))) [(40,true)] h ⟨⟨hn,hL,by omega⟩,bx,z1⟩ fun _ _ h=>?_
  exact out (((5:Int):Int),()) h (by rw[Gx gw v0 (by omega) (fun w=>z1 w.1)])
 refine aC [] h fun _ _ h=>?_
 exact out (((0:Int):Int),()) h (by rw[Zx gw hT (fun j hj=>v2 j (by omega))])
def Bb:cE Tryz.prog:=plain K3
theorem K5:aS Tryz.prog 49 [(false,gX),(false,fR),(false,(.list (.list .int)))] [(.list (.pair .int (.list .int)))] (fun x=>bz (I_ x.1.1)/\av (K_ x.2.2.1)/\aA (I_ x.1.1) (E_ x.1.2) (J_ x.2.1.1) (J_ x.2.1.2)=0/\bW (I_ x.1.1) (E_ x.1.2) (J_ x.2.1.2) (K_ x.2.2.1)) (fun x=>(ax (E_ x.1.2) (J_ x.2.1.1) (J_ x.2.1.2) (K_ x.2.2.1),())):=by
 refine aF Tryz.f49 91 [PC] Tryz.func49 fun o x hd _ _ h=>?_
 obtain⟨⟨(n:Int),(E:List (Int×Int))⟩,⟨(V:List Int),(L:List Int)⟩,(T:List (List Int)),_⟩:=x
 have e7:=gL h 0 E
 have eZ:=cg h 1 V
 have fS:=cg h 2 L
 have jm:=eP h 3 T
 change bz n/\av T/\aA n E V L=0/\bW n E L T at hd
 obtain⟨hn,cw,hp,hT⟩:=hd
 obtain⟨jZ,hV,hL,_⟩:=aD hp
 obtain⟨r1,r2,r3,_⟩:=aN jZ
 have zw:=ay hV r1
 have vf:=ay hL (by omega)
 have Z8:=hT.len
 refine go (pr:=(aX .i64 ((V.length:Int)-1))) [] h bw fun _ _ h=>?_
 refine aK Int (List (Int×List Int)) (fun i ou=>⟨[(2,eo 0),(3,ep 1),(4,ep 2),(7,eo 3),(8,en i)],[(0,some (.ar (.list .int) T)),(1,some (.box 24 [.v (.int .i64 n),.own 4])),(2,some (.box 27 [.own 5,.own 6])),(3,some (.row 88 (.pair .int (.list .int)) ou)),(4,some (.ar fA E)),(5,some (.ar .int V)),(6,some (.ar .int L))],7⟩) (fun i ou=> -1<=i/\i<(V.length:Int)/\ou=tK V T (V.length-(i+1).toNat)) (fun i ou=>(i+1).toNat) ((V.length:Int)-1) [] [(0,some 3),(1,some 4),(2,some 4100),(3,none),(4,some 0),(5,some 1),(6,some 2)] h ⟨by omega,by omega,by rw[show V.length-((V.length:Int)-1+1).toNat=0 by omega];rfl⟩ fun i ou _ _ _ cq hI h=>?_
 obtain⟨h0,h1,h2⟩:=hI
 refine aC [] h fun _ _ h=>?_
 refine ag h (fun(q1:(0:Int)<=i)=>?_) (fun(q1:¬((0:Int)<=i))=>?_)
 .have i0:0<=i:=by omega
  have i1:=h1
  obtain⟨v0,v1,_⟩:=hV i.toNat (by omega)
  have CV:=nS V T (V.length-(i+1).toNat)
  rw[<-h2] at CV
  refine go (pr:=(aV i V.length)/\(aV (V.getD i.toNat 0) T.length)) [] h ⟨bx,bx⟩ fun _ _ h=>?_
  refine ag h (fun(q2:((T.getD (V.getD i.toNat 0).toNat []).length:Int)=0)=>?_) (fun(q2:¬(((T.getD (V.getD i.toNat 0).toNat []).length:Int)=0))=>?_)
  .refine go (pr:=(aV i V.length)/\(aX .i64 ((-1)-(V.getD i.toNat 0)))/\(ou.length+([((-1)-(V.getD i.toNat 0),[])]:List (Int×List Int)).length<=2147483647)/\(aX .i64 (i-1))) [] h ⟨bx,bw,ln,bw⟩ fun _ _ h=>?_
   exact bZ (cq (i-1) (ou++([((-1)-(V.getD i.toNat 0),[])]:List (Int×List Int))) (rk [0,1,2,86023,4,5,6]) h ⟨by omega,by omega,by rw[sY i0 i1,if_pos (by omega),<-h2]⟩ (by omega))
  refine go (pr:=(aX .i64 (i-1))) [] h bw fun _ _ h=>?_
  exact bZ (cq (i-1) ou (ir 7) h ⟨by omega,by omega,by rw[sY i0 i1,if_neg (by omega),<-h2]⟩ (by omega))
 have hi:V.length-(i+1).toNat=V.length:=by omega
 rw[hi] at h2
 have CV:=nS V T V.length
 rw[<-h2] at CV
 refine aC [] h fun _ _ h=>?_
 refine aK Int (List (Int×List Int)) (fun i o2=>⟨[(2,eo 0),(3,ep 1),(4,ep 2),(7,eo 3),(9,en i)],[(0,some (.ar (.list .int) T)),(1,some (.box 24 [.v (.int .i64 n),.own 4])),(2,some (.box 27 [.own 5,.own 6])),(3,some (.row 88 (.pair .int (.list .int)) o2)),(4,some (.ar fA E)),(5,some (.ar .int V)),(6,some (.ar .int L))],7⟩) (fun i o2=>0<=i/\i<=2*(L.length:Int)/\o2=tK V T V.length++v7 (fF E T) (dA L L.length) (dA L L.length).length i.toNat) (fun i o2=>(2*(L.length:Int)-i).toNat) 0 ou (ir 7) h ⟨Int.le_refl _,by omega,by rw[h2];exact(List.append_nil _).symm⟩ fun i o2 _ _ _ fQ hI h=>?_
 obtain⟨i0,i1,i2⟩:=hI
 refine go (pr:=(aX .i64 (2*(L.length:Int)))) [] h bw fun _ _ h=>?_
 refine ag h (fun(q3:i<2*(L.length:Int))=>?_) (fun(q3:¬(i<2*(L.length:Int)))=>?_)
 .have hdt:(2*(L.getD (i/2).toNat 0)+i%2)=(dA L L.length).getD i.toNat 0:=Zy i0 (by omega)
  have Jh:aU L (2*(L.getD (i/2).toNat 0)+i%2):=by rw[hdt];exact(cO _).1 (af (by rw[jX];omega))
  have US:=Ev hp hT Jh
  have abQ:=US.2.1
  obtain⟨tI,y0,y1⟩:=Eu hp hT Jh
  have Yg:=(aG.1 hL).2 _ (af (l:=L) (i:=(i/2).toNat) (d:=0) (by omega))
  have IS:=Io (f:=(fF E T)) (ds:=(dA L L.length)) (N:=(dA L L.length).length) i.toNat
  have MN:=nS V T V.length
  have Z9:o2.length<=V.length+i.toNat:=by rw[i2,List.length_append];omega
  refine go (pr:=(0<=i/\0<(2:Int)/\aX .i64 i)/\(aV (i/2) L.length)/\(aX .i64 (2*(L.getD (i/2).toNat 0)))/\(0<=i/\0<(2:Int))/\(aX .i64 ((2*(L.getD (i/2).toNat 0))+(i%2)))/\(bz n/\av T/\Et E T (aq ((2*(L.getD (i/2).toNat 0))+(i%2)))/\0<=((2*(L.getD (i/2).toNat 0))+(i%2))/\((2*(L.getD (i/2).toNat 0))+(i%2))<=1000000)) [] h ⟨⟨by omega,by omega,⟨by omega,by omega⟩⟩,bx,bw,⟨by omega,by omega⟩,bw,⟨hn,cw,tI,by omega,by omega⟩⟩ fun _ _ h=>?_
  refine sK Nat Int (List Int) Bool (fun j x yU ok=>⟨[(2,eo 0),(3,ep 1),(4,ep 2),(7,eo 3),(9,en i),(10,en ((2*(L.getD (i/2).toNat 0))+(i%2))),(11,eo 4),(12,some ⟨[],.one (.b (.raw ok))⟩),(13,en x)],[(0,some (.ar (.list .int) T)),(1,some (.box 24 [.v (.int .i64 n),.own 5])),(2,some (.box 27 [.own 6,.own 7])),(3,some (.row 88 (.pair .int (.list .int)) o2)),(4,some (.row 3 .int yU)),(5,some (.ar fA E)),(6,some (.ar .int V)),(7,some (.ar .int L))],8⟩) (fun j x yU ok=>j+1<=(eL (fF E T) (2*(L.getD (i/2).toNat 0)+i%2) (dA L L.length).length)/\x=jq (fF E T) (j+1) (2*(L.getD (i/2).toNat 0)+i%2)/\yU=kM (fF E T) (2*(L.getD (i/2).toNat 0)+i%2) (j+1)/\ok=iT (fF E T) (2*(L.getD (i/2).toNat 0)+i%2) (j+1)) (fun j x yU ok=>(eL (fF E T) (2*(L.getD (i/2).toNat 0)+i%2) (dA L L.length).length)-j) 0 (fF E T (2*(L.getD (i/2).toNat 0)+i%2)) [(2*(L.getD (i/2).toNat 0)+i%2)] true (rk [0,1,2,3,73735,4,5,6]) h ⟨US.1,rfl,rfl,rfl⟩ fun j x yU ok _ _ _ sj hI h=>?_
  obtain⟨k1,k2,k3,k4⟩:=hI
  refine aC [] h fun _ _ h=>?_
  refine ag h (fun(q4:¬(x=(2*(L.getD (i/2).toNat 0))+(i%2)))=>?_) (fun(q4:x=(2*(L.getD (i/2).toNat 0))+(i%2))=>?_)
  .have Q1:aU L x:=by rw[k2];exact US.2.2.2.2 _
   obtain⟨tI,z0,z1⟩:=Eu hp hT Q1
   have hjn:j+1≠(eL (fF E T) (2*(L.getD (i/2).toNat 0)+i%2) (dA L L.length).length):=fun e=>by have:=US.2.2.1;rw[<-e,<-k2] at this;exact q4 this
   have abj:yU.length=j+1:=by rw[k3,fG]
   refine go (pr:=(yU.length+([x]:List Int).length<=2147483647)/\(bz n/\av T/\Et E T (aq x)/\0<=x/\x<=1000000)) [] h ⟨ln,⟨hn,cw,tI,by omega,by omega⟩⟩ fun _ _ h=>?_
   exact bZ (sj (j+1) (fF E T x) (yU++([x]:List Int)) (ok && (decide ((2*(L.getD (i/2).toNat 0))+(i%2)<x))) (rk [0,1,2,3,24584,5,6,7]) h ⟨by omega,by rw[k2];rfl,by rw[AH,<-k2,<-k3],by rw[Gy,<-k2,<-k4]⟩ (by omega))
  have CG:j+1=(eL (fF E T) (2*(L.getD (i/2).toNat 0)+i%2) (dA L L.length).length):=Classical.byContradiction fun e=>US.2.2.2.1 (j+1) (by omega) (by omega) (by rw[<-k2];omega)
  have abj:yU.length=j+1:=by rw[k3,fG]
  refine aC [] h fun _ _ h=>?_
  refine ag h (fun(q5:ok=true)=>?_) (fun(q5:ok=false)=>?_)
  .refine go (pr:=(o2.length+([((2*(L.getD (i/2).toNat 0))+(i%2),yU)]:List (Int×List Int)).length<=2147483647)/\(aX .i64 (i+1))) [] h ⟨ln,bw⟩ fun _ _ h=>?_
   exact bZ (fQ (i+1) (o2++([((2*(L.getD (i/2).toNat 0))+(i%2),yU)]:List (Int×List Int))) (rk [0,1,2,36872,5,6,7]) h ⟨by omega,by omega,by rw[RY i0 hdt (by rw[<-CG,<-k4];exact q5),i2,List.append_assoc,<-CG,<-k3]⟩ (by omega))
  refine go (pr:=(aX .i64 (i+1))) [] h bw fun _ _ h=>?_
  exact bZ (fQ (i+1) o2 (rk [0,1,2,3,5,6,7]) h ⟨by omega,by omega,by rw[VY i0 hdt (by rw[<-CG,<-k4];exact q5),i2]⟩ (by omega))
 have oz:i.toNat=(dA L L.length).length:=by rw[jX];omega
 rw[oz] at i2
 refine aC [] h fun _ _ h=>?_
 exact out ((o2:List (Int×List Int)),()) h (by rw[i2];rfl)
def mZ:cE Tryz.prog:=plain K5
theorem K6:aS Tryz.prog 94 [(false,gX),(false,fR),(false,(.list .int)),(false,.int)] [(.list .int)] (fun x=>aA (I_ x.1.1) (E_ x.1.2) (J_ x.2.1.1) (J_ x.2.1.2)=0/\(J_ x.2.2.1).length=1/\¬(J_ x.2.2.1).getD 0 0=(I_ x.2.2.2.1)) (fun x=>(spread (E_ x.1.2) (J_ x.2.1.2) ((J_ x.2.2.1).getD 0 0) (I_ x.2.2.2.1),())):=by
 refine aF Tryz.f94 89 [lI] Tryz.func94 fun o x hd _ _ h=>?_
 obtain⟨⟨(n:Int),(E:List (Int×Int))⟩,⟨(V:List Int),(L:List Int)⟩,(fr:List Int),(but:Int),_⟩:=x
 have e7:=gL h 0 E
 have eZ:=cg h 1 V
 have fS:=cg h 2 L
 have jm:=cg h 3 fr
 change aA n E V L=0/\fr.length=1/\¬fr.getD 0 0=but at hd
 obtain⟨hp,XT,uY⟩:=hd
 obtain⟨x0,rfl⟩:∃x0,fr=[x0]:=List.length_eq_one_iff.1 XT
 change ¬x0=but at uY
 obtain⟨jZ,hV,hL,_⟩:=aD hp
 obtain⟨r1,r2,r3,_⟩:=aN jZ
 have vf:=ay hL (by omega)
 refine go (pr:=(([]:List Int).length+[x0].length<=2147483647)) [] h ln fun _ _ h=>?_
 refine aK Int (List Int) (fun i m=>⟨[(3,en but),(4,ep 0),(5,ep 1),(9,eo 2),(10,en i)],[(0,some (.box 24 [.v (.int .i64 n),.own 3])),(1,some (.box 27 [.own 4,.own 5])),(2,some (.row 3 .int m)),(3,some (.ar fA E)),(4,some (.ar .int V)),(5,some (.ar .int L))],6⟩) (fun i m=>0<=i/\i<=(m.length:Int)/\Sp (zb E L) x0 but (x0::kG E L) m/\Ku E L but (2*L.length+1-i.toNat) i.toNat m=spread E L x0 but) (fun i m=>(2*(L.length:Int)+1-i).toNat) 0 [x0] (rk [4,4100,24580,0,1,2]) h ⟨Int.le_refl _,Int.natCast_nonneg _,s9 uY,rfl⟩ fun i m _ _ _ cq hI h=>?_
 obtain⟨h0,h1,zJ,WS⟩:=hI
 refine aC [] h fun _ _ h=>?_
 refine ag h (fun(q1:i<(m.length:Int))=>?_) (fun(q1:¬(i<(m.length:Int)))=>?_)
 .have uS:=rS zJ
  refine aC [] h fun _ _ h=>?_
  refine aK Int (List Int) (fun k m2=>⟨[(3,en but),(4,ep 0),(5,ep 1),(9,eo 2),(10,en i),(11,en k)],[(0,some (.box 24 [.v (.int .i64 n),.own 3])),(1,some (.box 27 [.own 4,.own 5])),(2,some (.row 3 .int m2)),(3,some (.ar fA E)),(4,some (.ar .int V)),(5,some (.ar .int L))],6⟩) (fun k m2=>0<=k/\k<=(L.length:Int)/\m2=dO E but i.toNat (L.take k.toNat) m) (fun k m2=>((L.length:Int)-k).toNat) 0 m (ir 6) h ⟨Int.le_refl _,Int.natCast_nonneg _,rfl⟩ fun k m2 _ _ _ fQ hI h=>?_
  obtain⟨k0,k1,oT⟩:=hI
  refine aC [] h fun _ _ h=>?_
  refine ag h (fun(q2:k<(L.length:Int))=>?_) (fun(q2:¬(k<(L.length:Int)))=>?_)
  .obtain⟨uC,zl,_⟩:=mD (i:=i.toNat) (but:=but) (qt (E:=E) (L:=L) (a:=x0)) (l:=L.take k.toNat) (fun x hx=>List.mem_of_mem_take hx) zJ (by omega)
   rw[<-oT] at uC zl
   have WT:=rS uC
   have hr3:m.length<=m2.length:=by obtain⟨r9,e9⟩:=zl;rw[e9,List.length_append];omega
   have qG:=(aG.1 hL).2 _ (af (l:=L) (i:=k.toNat) (d:=0) (by omega))
   have abk:(m2++[(E.getD (L.getD k.toNat 0).toNat (0,0)).2]).length=m2.length+1:=by simp
   refine go (pr:=(aV k L.length)/\(aV (L.getD k.toNat 0) E.length)/\(aV i m2.length)/\((((E.getD (L.getD k.toNat 0).toNat (0,0)).1=(m2.getD i.toNat 0))/\(¬((E.getD (L.getD k.toNat 0).toNat (0,0)).2=but)))->True)) [] h ⟨bx,bx,bx,fun _=>trivial⟩ fun _ _ h=>?_
   refine ag h (fun(q3:(((E.getD (L.getD k.toNat 0).toNat (0,0)).1=(m2.getD i.toNat 0))/\(¬((E.getD (L.getD k.toNat 0).toNat (0,0)).2=but)))/\((decide ((E.getD (L.getD k.toNat 0).toNat (0,0)).2∈m2))=false))=>?_) (fun(q3:((¬((E.getD (L.getD k.toNat 0).toNat (0,0)).1=(m2.getD i.toNat 0)))\/((E.getD (L.getD k.toNat 0).toNat (0,0)).2=but))\/((decide ((E.getD (L.getD k.toNat 0).toNat (0,0)).2∈m2))=true))=>?_)
   .refine go (pr:=(m2.length+([(E.getD (L.getD k.toNat 0).toNat (0,0)).2]:List Int).length<=2147483647)/\(aV i (m2++([(E.getD (L.getD k.toNat 0).toNat (0,0)).2]:List Int)).length)/\((((E.getD (L.getD k.toNat 0).toNat (0,0)).2=((m2++([(E.getD (L.getD k.toNat 0).toNat (0,0)).2]:List Int)).getD i.toNat 0))/\(¬((E.getD (L.getD k.toNat 0).toNat (0,0)).1=but)))->True)) [] h ⟨ln,bx,fun _=>trivial⟩ fun _ _ h=>?_
    refine ag h (fun(q4:(((E.getD (L.getD k.toNat 0).toNat (0,0)).2=((m2++([(E.getD (L.getD k.toNat 0).toNat (0,0)).2]:List Int)).getD i.toNat 0))/\(¬((E.getD (L.getD k.toNat 0).toNat (0,0)).1=but)))/\((decide ((E.getD (L.getD k.toNat 0).toNat (0,0)).1∈(m2++([(E.getD (L.getD k.toNat 0).toNat (0,0)).2]:List Int))))=false))=>?_) (fun(q4:((¬((E.getD (L.getD k.toNat 0).toNat (0,0)).2=((m2++([(E.getD (L.getD k.toNat 0).toNat (0,0)).2]:List Int)).getD i.toNat 0)))\/((E.getD (L.getD k.toNat 0).toNat (0,0)).1=but))\/((decide ((E.getD (L.getD k.toNat 0).toNat (0,0)).1∈(m2++([(E.getD (L.getD k.toNat 0).toNat (0,0)).2]:List Int))))=true))=>?_)
    .refine go (pr:=((m2++([(E.getD (L.getD k.toNat 0).toNat (0,0)).2]:List Int)).length+([(E.getD (L.getD k.toNat 0).toNat (0,0)).1]:List Int).length<=2147483647)/\(aX .i64 (k+1))) [] h ⟨ln,bw⟩ fun _ _ h=>?_
     exact bZ (fQ (k+1) ((m2++([(E.getD (L.getD k.toNat 0).toNat (0,0)).2]:List Int))++([(E.getD (L.getD k.toNat 0).toNat (0,0)).1]:List Int)) (rk [0,1,270342,3,4,5]) h ⟨by omega,by omega,by rw[v8 k0 (by omega),<-oT];exact(vc (iE q3) (iE q4)).symm⟩ (by omega))
    refine go (pr:=(aX .i64 (k+1))) [] h bw fun _ _ h=>?_
    exact bZ (fQ (k+1) (m2++([(E.getD (L.getD k.toNat 0).toNat (0,0)).2]:List Int)) (rk [0,1,163846,3,4,5]) h ⟨by omega,by omega,by rw[v8 k0 (by omega),<-oT];exact(vc (iE q3) (jC q4)).symm⟩ (by omega))
   refine go (pr:=(aV i m2.length)/\((((E.getD (L.getD k.toNat 0).toNat (0,0)).2=(m2.getD i.toNat 0))/\(¬((E.getD (L.getD k.toNat 0).toNat (0,0)).1=but)))->True)) [] h ⟨bx,fun _=>trivial⟩ fun _ _ h=>?_
   refine ag h (fun(q5:(((E.getD (L.getD k.toNat 0).toNat (0,0)).2=(m2.getD i.toNat 0))/\(¬((E.getD (L.getD k.toNat 0).toNat (0,0)).1=but)))/\((decide ((E.getD (L.getD k.toNat 0).toNat (0,0)).1∈m2))=false))=>?_) (fun(q5:((¬((E.getD (L.getD k.toNat 0).toNat (0,0)).2=(m2.getD i.toNat 0)))\/((E.getD (L.getD k.toNat 0).toNat (0,0)).1=but))\/((decide ((E.getD (L.getD k.toNat 0).toNat (0,0)).1∈m2))=true))=>?_)
   .refine go (pr:=(m2.length+([(E.getD (L.getD k.toNat 0).toNat (0,0)).1]:List Int).length<=2147483647)/\(aX .i64 (k+1))) [] h ⟨ln,bw⟩ fun _ _ h=>?_
    exact bZ (fQ (k+1) (m2++([(E.getD (L.getD k.toNat 0).toNat (0,0)).1]:List Int)) (rk [0,1,245766,3,4,5]) h ⟨by omega,by omega,by rw[v8 k0 (by omega),<-oT];exact(vc (jC q3) (iE q5)).symm⟩ (by omega))
   refine go (pr:=(aX .i64 (k+1))) [] h bw fun _ _ h=>?_
   exact bZ (fQ (k+1) m2 (ir 6) h ⟨by omega,by omega,by rw[v8 k0 (by omega),<-oT];exact(vc (jC q3) (jC q5)).symm⟩ (by omega))
  rw[List.take_of_length_le (by omega)] at oT
  obtain⟨uC,zl,_⟩:=mD (i:=i.toNat) (but:=but) (qt (E:=E) (L:=L) (a:=x0)) (l:=L) (fun x hx=>hx) zJ (by omega)
  rw[<-oT] at uC zl
  have WT:=rS uC
  have hr3:m.length<=m2.length:=by obtain⟨r9,e9⟩:=zl;rw[e9,List.length_append];omega
  refine go (pr:=(aX .i64 (i+1))) [] h bw fun _ _ h=>?_
  exact bZ (cq (i+1) m2 (ir 6) h ⟨by omega,by omega,uC,by rw[oT,<-Ew h0 (by omega) (by omega)];exact WS⟩ (by omega))
 refine aC [] h fun _ _ h=>?_
 exact out ((m:List Int),()) h (by rw[Od (by omega)] at WS;rw[WS];rfl)
def K7:cE Tryz.prog:=plain K6
theorem WU:aS Tryz.prog 95 [(false,gX),(false,fR),(false,(.list .int))] [fR] (fun x=>aA (I_ x.1.1) (E_ x.1.2) (J_ x.2.1.1) (J_ x.2.1.2)=0) (fun x=>((Kz (J_ x.2.1.1) (J_ x.2.2.1),KA (E_ x.1.2) (J_ x.2.1.2) (J_ x.2.2.1)),())):=by
 refine aF Tryz.f95 72 [lI] Tryz.func95 fun o x hd _ _ h=>?_
 obtain⟨⟨(n:Int),(E:List (Int×Int))⟩,⟨(V:List Int),(L:List Int)⟩,(l:List Int),_⟩:=x
 have e7:=gL h 0 E
 have eZ:=cg h 1 V
 have fS:=cg h 2 L
 have jm:=cg h 3 l
 change aA n E V L=0 at hd
 have hp:=hd
 obtain⟨hr,hVr,hLr,eE⟩:=aD hp
 obtain⟨hn0,zB,hEn,_⟩:=aN hr
 have hVn:=ay hVr hn0
 have UD:=ay hLr (by omega)
 refine aC [] h fun _ _ h=>?_
 refine aK Int (List Int) (fun i vs=>⟨[(2,eo 0),(3,ep 1),(4,ep 2),(6,ep 3),(7,ep 4),(8,en i)],[(0,some (.ar .int l)),(1,some (.box 24 [.v (.int .i64 n),.own 5])),(2,some (.box 27 [.own 6,.own 7])),(3,some (.box 27 [.v (.slice none 0 0),.v (.slice none 0 0)])),(4,some (.box 27 [.own 8,.v (.slice none 0 0)])),(5,some (.ar fA E)),(6,some (.ar .int V)),(7,some (.ar .int L)),(8,some (.row 3 .int vs))],9⟩) (fun i vs=>0<=i/\i<=(V.length:Int)/\vs=(V.take i.toNat).filter (fun v=>decide (v∈l))) (fun i vs=>((V.length:Int)-i).toNat) 0 [] [(0,some 3),(1,some 4),(2,some 4100),(3,some 8196),(4,some 12292),(5,some 0),(6,some 1),(7,some 2),(8,none)] h ⟨by omega,by omega,rfl⟩ fun i vs _ _ _ cq hI h=>?_
 obtain⟨i0,i1,hv⟩:=hI
 have n1:vs.length<=i.toNat:=by rw[hv];exact D8
 refine aC [] h fun _ _ h=>?_
 refine ag h (fun(q1:i<(V.length:Int))=>?_) (fun(q1:¬(i<(V.length:Int)))=>?_)
 .refine go (pr:=(aV i V.length)/\True) [] h ⟨bx,tv⟩ fun _ _ h=>?_
  refine ag h (fun(q2:(decide ((V.getD i.toNat 0)∈l))=true)=>?_) (fun(q2:(decide ((V.getD i.toNat 0)∈l))=false)=>?_)
  .refine go (pr:=(aV i V.length)/\(vs.length+([(V.getD i.toNat 0)]:List Int).length<=2147483647)/\(aX .i64 (i+1))) [] h ⟨bx,ln,bw⟩ fun _ _ h=>?_
   exact bZ (cq (i+1) (vs++([(V.getD i.toNat 0)]:List Int)) (rk [0,1,2,3,4,5,6,7,81929]) h ⟨by omega,by omega,by rw[hv];exact(D7 i0 q1 q2).symm⟩ (QI))
  refine go (pr:=(aX .i64 (i+1))) [] h bw fun _ _ h=>?_
  exact bZ (cq (i+1) vs (ir 9) h ⟨by omega,by omega,by rw[hv];exact(Ie i0 q1 q2).symm⟩ (QI))
 refine aC [] h fun _ _ h=>?_
 refine aK Int (List Int) (fun j es=>⟨[(2,eo 0),(3,ep 1),(4,ep 2),(6,ep 3),(7,ep 4),(9,en j)],[(0,some (.ar .int l)),(1,some (.box 24 [.v (.int .i64 n),.own 5])),(2,some (.box 27 [.own 6,.own 7])),(3,some (.box 27 [.v (.slice none 0 0),.v (.slice none 0 0)])),(4,some (.box 27 [.own 8,.own 9])),(5,some (.ar fA E)),(6,some (.ar .int V)),(7,some (.ar .int L)),(8,some (.row 3 .int vs)),(9,some (.row 3 .int es))],10⟩) (fun j es=>0<=j/\j<=(L.length:Int)/\es=(L.take j.toNat).filter (fun e=>decide ((E.getD e.toNat (0,0)).1∈l) && decide ((E.getD e.toNat (0,0)).2∈l))) (fun j es=>((L.length:Int)-j).toNat) 0 [] [(0,some 0),(1,some 1),(2,some 2),(3,some 3),(4,some 4),(5,some 5),(6,some 6),(7,some 7),(8,some 8),(9,none)] h ⟨by omega,by omega,rfl⟩ fun j es _ _ _ fQ hI h=>?_
 obtain⟨j0,j1,hw⟩:=hI
 have n2:es.length<=j.toNat:=by rw[hw];exact D8
 refine aC [] h fun _ _ h=>?_
 refine ag h (fun(q3:j<(L.length:Int))=>?_) (fun(q3:¬(j<(L.length:Int)))=>?_)
 .obtain⟨⟨f1,f2,f3⟩,⟨f4,f5,f6,f7⟩,_⟩:=rO hp rfl j0 q3
  refine go (pr:=(aV j L.length)/\(aV (L.getD j.toNat 0) E.length)/\True/\(((decide ((E.getD (L.getD j.toNat 0).toNat (0,0)).1∈l))=true)->True)) [] h ⟨bx,bx,tv,fun _=>trivial⟩ fun _ _ h=>?_
  refine ag h (fun(q4:((decide ((E.getD (L.getD j.toNat 0).toNat (0,0)).1∈l))=true)/\((decide ((E.getD (L.getD j.toNat 0).toNat (0,0)).2∈l))=true))=>?_) (fun(q4:((decide ((E.getD (L.getD j.toNat 0).toNat (0,0)).1∈l))=false)\/((decide ((E.getD (L.getD j.toNat 0).toNat (0,0)).2∈l))=false))=>?_)
  .refine go (pr:=(aV j L.length)/\(es.length+([(L.getD j.toNat 0)]:List Int).length<=2147483647)/\(aX .i64 (j+1))) [] h ⟨bx,ln,bw⟩ fun _ _ h=>?_
   exact bZ (fQ (j+1) (es++([(L.getD j.toNat 0)]:List Int)) (rk [0,1,2,3,4,5,6,7,8,139274]) h ⟨by omega,by omega,by rw[hw];exact(D7 (p:=(fun e=>decide ((E.getD e.toNat (0,0)).1∈l) && decide ((E.getD e.toNat (0,0)).2∈l))) j0 q3 (RK q4)).symm⟩ (QI))
  refine go (pr:=(aX .i64 (j+1))) [] h bw fun _ _ h=>?_
  exact bZ (fQ (j+1) es (ir 10) h ⟨by omega,by omega,by rw[hw];exact(Ie (p:=(fun e=>decide ((E.getD e.toNat (0,0)).1∈l) && decide ((E.getD e.toNat (0,0)).2∈l))) j0 q3 (VQ q4)).symm⟩ (QI))
 refine aC [] h fun _ _ h=>?_
 exact out (((vs,es):(List Int)×List Int),()) h (by rw[List.take_of_length_le (by omega)] at hv hw;rw[hv,hw];rfl)
def WV:cE Tryz.prog:=plain WU
theorem K8:aS Tryz.prog 50 [(false,gX),(false,fR)] [(.list fR)] (fun x=>aA (I_ x.1.1) (E_ x.1.2) (J_ x.2.1.1) (J_ x.2.1.2)=0) (fun x=>((dW (E_ x.1.2) (J_ x.2.1.1) (J_ x.2.1.2) (J_ x.2.1.1).length).2,())):=by
 refine aF Tryz.f50 43 [lI,K7,WV] Tryz.func50 fun o x hd _ _ h=>?_
 obtain⟨⟨(n:Int),(E:List (Int×Int))⟩,⟨(V:List Int),(L:List Int)⟩,_⟩:=x
 have e7:=gL h 0 E
 have eZ:=cg h 1 V
 have fS:=cg h 2 L
 change aA n E V L=0 at hd
 have hp:=hd
 obtain⟨jZ,hV,hL,_⟩:=aD hp
 obtain⟨r1,r2,r3,_⟩:=aN jZ
 have zw:=ay hV r1
 have vf:=ay hL (by omega)
 have hVm:=pg hV
 refine aC [] h fun _ _ h=>?_
 refine fB Int (List Int) (List (List Int×List Int)) (fun i dn ou=>⟨[(2,ep 0),(3,ep 1),(5,eo 2),(6,eo 3),(7,en i)],[(0,some (.box 24 [.v (.int .i64 n),.own 4])),(1,some (.box 27 [.own 5,.own 6])),(2,some (.row 27 fR ou)),(3,some (.row 3 .int dn)),(4,some (.ar fA E)),(5,some (.ar .int V)),(6,some (.ar .int L))],7⟩) (fun i dn ou=>0<=i/\i<=(V.length:Int)/\(dn,ou)=dW E V L i.toNat) (fun i dn ou=>((V.length:Int)-i).toNat) 0 [] [] [(0,some 3),(1,some 4099),(2,none),(3,none),(4,some 0),(5,some 1),(6,some 2)] h ⟨Int.le_refl _,Int.natCast_nonneg _,rfl⟩ fun i dn ou _ _ _ cq hI h=>?_
 obtain⟨i0,i1,i2⟩:=hI
 refine aC [] h fun _ _ h=>?_
 refine ag h (fun(q1:i<(V.length:Int))=>?_) (fun(q1:¬(i<(V.length:Int)))=>?_)
 .have hvn:¬(V.getD i.toNat 0)= -1:=hVm _ (af (l:=V) (i:=i.toNat) (d:=0) (by omega))
  have Tc:=Cf (E:=E) (L:=L) hVm i.toNat (by omega)
  rw[<-i2] at Tc
  change dn.length<=_/\ou.length<=_ at Tc
  have WW:i.toNat*(2*L.length+1)<=10000*10000:=Nat.mul_le_mul (show i.toNat<=10000 by omega) (show 2*L.length+1<=10000 by omega)
  have Kf:=x9 (E:=E) (L:=L) hvn
  refine go (pr:=(aV i V.length)/\True) [] h ⟨bx,tv⟩ fun _ _ h=>?_
  refine ag h (fun(q2:(decide ((V.getD i.toNat 0)∈dn))=true)=>?_) (fun(q2:(decide ((V.getD i.toNat 0)∈dn))=false)=>?_)
  .refine go (pr:=(aX .i64 (i+1))) [] h bw fun _ _ h=>?_
   exact bZ (cq (i+1) dn ou (ir 7) h ⟨by omega,by omega,by rw[Ex i0,<-i2];exact(if_pos (of_decide_eq_true q2)).symm⟩ (by omega))
  refine go (pr:=(aV i V.length)/\(aA n E V L=0/\([(V.getD i.toNat 0)]:List Int).length=1/\¬([(V.getD i.toNat 0)]:List Int).getD 0 0=(-1:Int))/\(dn.length+(spread E L (V.getD i.toNat 0) (-1:Int)).length<=2147483647)/\(aA n E V L=0)/\(ou.length+([(Kz V (spread E L (V.getD i.toNat 0) (-1:Int)),KA E L (spread E L (V.getD i.toNat 0) (-1:Int)))]:List ((List Int)×List Int)).length<=2147483647)/\(aX .i64 (i+1))) [] h ⟨bx,⟨hp,rfl,hvn⟩,ln,hp,ln,bw⟩ fun _ _ h=>?_
  exact bZ (cq (i+1) (dn++(spread E L (V.getD i.toNat 0) (-1:Int))) (ou++([(Kz V (spread E L (V.getD i.toNat 0) (-1:Int)),KA E L (spread E L (V.getD i.toNat 0) (-1:Int)))]:List ((List Int)×List Int))) (rk [0,1,131079,98311,4,5,6]) h ⟨by omega,by omega,by rw[Ex i0,<-i2];exact(if_neg (of_decide_eq_false q2)).symm⟩ (by omega))
 have oz:i.toNat=V.length:=by omega
 rw[oz] at i2
 refine aC [] h fun _ _ h=>?_
 exact out ((ou:List ((List Int)×List Int)),()) h (by rw[<-i2])
def Bc:cE Tryz.prog:=plain K8
theorem Td:aS Tryz.prog 96 [(false,gX),(false,(.pair .int (.list .int)))] [.int] (fun x=>bz (I_ x.1.1)/\-1000000<=(I_ x.2.1.1)/\(I_ x.2.1.1)<=1000000/\(0<=(I_ x.2.1.1)->(I_ x.2.1.1)/2<((E_ x.1.2).length:Int))) (fun x=>(jD (E_ x.1.2) ((I_ x.2.1.1),(J_ x.2.1.2)),())):=by
 refine aF Tryz.f96 15 [qx] Tryz.func96 fun o x hd _ _ h=>?_
 obtain⟨⟨(n:Int),(E:List (Int×Int))⟩,⟨(k:Int),(ds:List Int)⟩,_⟩:=x
 have e7:=gL h 0 E
 have eZ:=cg h 1 ds
 change bz n/\-1000000<=k/\k<=1000000/\(0<=k->k/2<(E.length:Int)) at hd
 obtain⟨hn,k0,k1,k2⟩:=hd
 refine aC [] h fun _ _ h=>?_
 refine ag h (fun(q1:k<0)=>?_) (fun(q1:¬(k<0))=>?_)
 .refine go (pr:=(aX .i64 ((-1)-k))) [] h bw fun _ _ h=>?_
  exact out (((-1)-k:Int),()) h (by unfold jD;rw[if_pos (show(k,ds).1<0 from q1)])
 have k3:=k2 (by omega)
 refine go (pr:=(bz n/\0<=k/\k/2<(E.length:Int)/\k<=1000000)) [] h (⟨hn,by omega,by omega,by omega⟩) fun _ _ h=>?_
 exact out ((ak E k:Int),()) h (by unfold jD;rw[if_neg (show ¬(k,ds).1<0 from q1)])
def Ji:cE Tryz.prog:=plain Td
theorem WX:aS Tryz.prog 92 [(false,gX),(false,fR),(false,(.list (.list .int)))] [(.list .int)] (fun x=>bz (I_ x.1.1)/\av (K_ x.2.2.1)/\aA (I_ x.1.1) (E_ x.1.2) (J_ x.2.1.1) (J_ x.2.1.2)=0/\bW (I_ x.1.1) (E_ x.1.2) (J_ x.2.1.2) (K_ x.2.2.1)) (fun x=>(CT (E_ x.1.2) (J_ x.2.1.1) (J_ x.2.1.2) (K_ x.2.2.1),())):=by
 refine aF Tryz.f92 66 [mZ,Ji,lI,Bc] Tryz.func92 fun o x hd _ _ h=>?_
 obtain⟨⟨(n:Int),(E:List (Int×Int))⟩,⟨(V:List Int),(L:List Int)⟩,(T:List (List Int)),_⟩:=x
 have e7:=gL h 0 E
 have eZ:=cg h 1 V
 have fS:=cg h 2 L
 have jm:=eP h 3 T
 change bz n/\av T/\aA n E V L=0/\bW n E L T at hd
 obtain⟨hn,cw,hp,hT⟩:=hd
 obtain⟨jZ,hV,hL,_⟩:=aD hp
 obtain⟨r1,r2,r3,_⟩:=aN jZ
 have zw:=ay hV r1
 have vf:=ay hL (by omega)
 have nk:=gD hp hT
 have Jj:=gq nk
 obtain⟨_,_,hW⟩:=bS (V:=V) (by rw[fH nk]:(aa n E V L T).2=0)
 rw[<-Jj] at hW
 have K9:=tc hp
 have vA:=fo hp
 rw[<-K9] at vA
 have Jk:=vA.len
 have GK:=hW.len
 refine go (pr:=(bz n/\av T/\aA n E V L=0/\bW n E L T)/\(aA n E V L=0)) [] h ⟨⟨hn,cw,hp,hT⟩,hp⟩ fun _ _ h=>?_
 refine aK Int (List Int) (fun i ou=>⟨[(3,ep 0),(7,eo 1),(8,eo 2),(9,eo 3),(10,en i)],[(0,some (.box 24 [.v (.int .i64 n),.own 4])),(1,some (.ro (.pair .int (.list .int)) (ax E V L T))),(2,some (.ro fR ((dW E V L V.length).2))),(3,some (.row 3 .int ou)),(4,some (.ar fA E))],5⟩) (fun i ou=>0<=i/\i<=((dW E V L V.length).2.length:Int)/\ou=RZ E (dW E V L V.length).2 (ax E V L T) i.toNat) (fun i ou=>(((dW E V L V.length).2.length:Int)-i).toNat) 0 [] [(0,some 4),(1,some 24580),(2,some 40964),(3,none),(4,some 0)] h ⟨Int.le_refl _,Int.natCast_nonneg _,rfl⟩ fun i ou _ _ _ cq hI h=>?_
 obtain⟨i0,i1,i2⟩:=hI
 refine aC [] h fun _ _ h=>?_
 refine ag h (fun(q1:i<(((dW E V L V.length).2).length:Int))=>?_) (fun(q1:¬(i<(((dW E V L V.length).2).length:Int)))=>?_)
 .obtain⟨qb1,qb2⟩:=vA.bd i.toNat
  have CV:=Cg (E:=E) (P:=(dW E V L V.length).2) (W:=(ax E V L T)) i.toNat
  rw[<-i2] at CV
  refine go (pr:=(aV i ((dW E V L V.length).2).length)/\(aX .i64 (2-(((((dW E V L V.length).2).getD i.toNat ([],[])).1).length:Int)))/\(aV i ((dW E V L V.length).2).length)/\(aX .i64 ((2-(((((dW E V L V.length).2).getD i.toNat ([],[])).1).length:Int))+(((((dW E V L V.length).2).getD i.toNat ([],[])).2).length:Int)))) [] h ⟨bx,bw,bx,bw⟩ fun _ _ h=>?_
  refine aK Int Int (fun k m=>⟨[(3,ep 0),(7,eo 1),(8,eo 2),(9,eo 3),(10,en i),(11,en m),(12,en k)],[(0,some (.box 24 [.v (.int .i64 n),.own 4])),(1,some (.ro (.pair .int (.list .int)) (ax E V L T))),(2,some (.ro fR ((dW E V L V.length).2))),(3,some (.row 3 .int ou)),(4,some (.ar fA E))],5⟩) (fun k m=>0<=k/\k<=((ax E V L T).length:Int)/\m=2-(((dW E V L V.length).2.getD i.toNat ([],[])).1.length:Int)+(((dW E V L V.length).2.getD i.toNat ([],[])).2.length:Int)-jE E (ax E V L T) ((dW E V L V.length).2.getD i.toNat ([],[])).1 k.toNat) (fun k m=>(((ax E V L T).length:Int)-k).toNat) 0 ((2-(((dW E V L V.length).2.getD i.toNat ([],[])).1.length:Int))+(((dW E V L V.length).2.getD i.toNat ([],[])).2.length:Int)) (ir 5) h ⟨Int.le_refl _,Int.natCast_nonneg _,by show _=_-0;omega⟩ fun k m _ _ _ fQ hI h=>?_
  obtain⟨k0,k1,hm⟩:=hI
  refine aC [] h fun _ _ h=>?_
  refine ag h (fun(q2:k<((ax E V L T).length:Int))=>?_) (fun(q2:¬(k<((ax E V L T).length:Int)))=>?_)
  .have rT:((ax E V L T).getD k.toNat (0,[]))∈(ax E V L T):=af (by omega)
   have My:=u9 hp hW rT
   have hk2:0<=((ax E V L T).getD k.toNat (0,[])).1->((ax E V L T).getD k.toNat (0,[])).1/2<(E.length:Int):=fun z=>(hW.key _ rT).elim (fun q=>by have:=(aG.1 hV).2 _ q.2;omega) fun q=>(cv hp q.2).2.2.1
   have QE:=Oe (E:=E) (W:=(ax E V L T)) (vs:=((dW E V L V.length).2.getD i.toNat ([],[])).1) k.toNat
   refine go (pr:=(aV i ((dW E V L V.length).2).length)/\(aV k (ax E V L T).length)/\(bz n/\-1000000<=((ax E V L T).getD k.toNat (0,[])).1/\((ax E V L T).getD k.toNat (0,[])).1<=1000000/\(0<=((ax E V L T).getD k.toNat (0,[])).1->((ax E V L T).getD k.toNat (0,[])).1/2<(E.length:Int)))/\True) [] h ⟨bx,bx,⟨hn,by omega,by omega,hk2⟩,tv⟩ fun _ _ h=>?_
   refine ag h (fun(q3:(decide (jD E ((ax E V L T).getD k.toNat (0,[]))∈(((dW E V L V.length).2).getD i.toNat ([],[])).1))=true)=>?_) (fun(q3:(decide (jD E ((ax E V L T).getD k.toNat (0,[]))∈(((dW E V L V.length).2).getD i.toNat ([],[])).1))=false)=>?_)
   .refine go (pr:=(aX .i64 (m-1))/\(aX .i64 (k+1))) [] h ⟨bw,bw⟩ fun _ _ h=>?_
    exact bZ (fQ (k+1) (m-1) (ir 5) h ⟨by omega,by omega,by rw[R4 k0 q3];omega⟩ (by omega))
   refine go (pr:=(aX .i64 (k+1))) [] h bw fun _ _ h=>?_
   exact bZ (fQ (k+1) m (ir 5) h ⟨by omega,by omega,by rw[VZ k0 q3];omega⟩ (by omega))
  have ru:k.toNat=(ax E V L T).length:=by omega
  have QA:jE E (ax E V L T) ((dW E V L V.length).2.getD i.toNat ([],[])).1 k.toNat=jE E (ax E V L T) ((dW E V L V.length).2.getD i.toNat ([],[])).1 (ax E V L T).length:=by rw[ru]
  have QE:=Oe (E:=E) (W:=(ax E V L T)) (vs:=((dW E V L V.length).2.getD i.toNat ([],[])).1) k.toNat
  refine go (pr:=(0<(2:Int)/\aX .i64 m)/\(ou.length+([Int.tdiv m 2]:List Int).length<=2147483647)/\(aX .i64 (i+1))) [(62,true)] h ⟨⟨by omega,⟨by omega,by omega⟩⟩,ln,bw⟩ fun _ _ h=>?_
  exact bZ (cq (i+1) (ou++([Int.tdiv m 2]:List Int)) (rk [0,1,2,32773,4]) h ⟨by omega,by omega,by rw[Of i0,<-i2,<-QA,<-hm]⟩ (by omega))
 have oz:i.toNat=(dW E V L V.length).2.length:=by omega
 rw[oz] at i2
 refine aC [] h fun _ _ h=>?_
 exact out ((ou:List Int),()) h (by rw[i2];rfl)
def WY:cE Tryz.prog:=plain WX
theorem WZ:aS Tryz.prog 48 [(false,gX),(false,fR),(false,(.list (.list .int)))] [.bool] (fun x=>bz (I_ x.1.1)/\av (K_ x.2.2.1)) (fun x=>(vq (I_ x.1.1) (E_ x.1.2) (J_ x.2.1.1) (J_ x.2.1.2) (K_ x.2.2.1),())):=by
 refine aF Tryz.f48 29 [Bb,WY] Tryz.func48 fun o x hd _ _ h=>?_
 obtain⟨⟨(n:Int),(E:List (Int×Int))⟩,⟨(V:List Int),(L:List Int)⟩,(T:List (List Int)),_⟩:=x
 have e7:=gL h 0 E
 have eZ:=cg h 1 V
 have fS:=cg h 2 L
 have jm:=eP h 3 T
 change bz n/\av T at hd
 obtain⟨hn,cw⟩:=hd
 refine go (pr:=(bz n)) [] h hn fun _ _ h=>?_
 refine ag h (fun(q1:¬((bT n E V L T).2=0))=>?_) (fun(q1:(bT n E V L T).2=0)=>?_)
 .refine aC [] h fun _ _ h=>?_
  exact out ((false:Bool),()) h (congrArg (·,()) (decide_eq_false fun q=>q1 q.1).symm)
 have nk:=q1
 obtain⟨hp,hT,_⟩:=fN nk
 have EW:(CT E V L T).length=(dW E V L V.length).2.length:=Cg _
 have abR:=(Cf (E:=E) (L:=L) (fun v hv=>pg (aD hp).2.1 v hv) V.length (Nat.le_refl _)).2
 have zw:=ay (aD hp).2.1 (aN (aD hp).1).1
 have hnn:=(aN (aD hp).1).2.1
 refine go (pr:=(bz n/\av T/\aA n E V L=0/\bW n E L T)) [] h (⟨hn,cw,hp,hT⟩) fun _ _ h=>?_
 refine go_loop (Int) (fun i=>⟨[(7,eo 0),(8,en i)],[(0,some (.ro .int (CT E V L T)))],1⟩) (fun i=>0<=i/\i<=((CT E V L T).length:Int)/\∀j:Nat,(j:Int)<i->(CT E V L T).getD j 0=0) (fun i=>(((CT E V L T).length:Int)-i).toNat) (0) (rk [45060]) h ⟨Int.le_refl _,Int.natCast_nonneg _,fun j hj=>by omega⟩ fun i _ _ _ cq hI h=>?_
 obtain⟨i0,i1,i2⟩:=hI
 refine aC [] h fun _ _ h=>?_
 refine ag h (fun(q2:i<((CT E V L T).length:Int))=>?_) (fun(q2:¬(i<((CT E V L T).length:Int)))=>?_)
 .refine go (pr:=(aV i (CT E V L T).length)) [] h bx fun _ _ h=>?_
  refine ag h (fun(q3:¬(((CT E V L T).getD i.toNat 0)=0))=>?_) (fun(q3:((CT E V L T).getD i.toNat 0)=0)=>?_)
  .refine aC [] h fun _ _ h=>?_
   exact out ((false:Bool),()) h (congrArg (·,()) (decide_eq_false fun q=>q3 (q.2 _ (af (l:=(CT E V L T)) (i:=i.toNat) (d:=0) (by omega)))).symm)
  refine go (pr:=(aX .i64 (i+1))) [] h bw fun _ _ h=>?_
  exact bZ (cq (i+1) (ir 1) h ⟨by omega,by omega,fun j hj=>if z:(j:Int)<i then i2 j z else by rw[show j=i.toNat by omega];exact q3⟩ (by omega))
 refine aC [] h fun _ _ h=>?_
 exact out ((true:Bool),()) h (by rw[V0 nk (i:=i) (by omega) i2])
def W0:cE Tryz.prog:=plain WZ
theorem W4:aS Tryz.prog 120 [(false,(.list (.pair .int (.list .int)))),(false,.int)] [.int,.bool] (fun _=>True) (fun x=>((qL (show List (Int×List Int) from x.1) (I_ x.2.1)).1,(qL (show List (Int×List Int) from x.1) (I_ x.2.1)).2,())):=by
 refine aF Tryz.f120 34 [lI] Tryz.func120 fun o x hd _ _ h=>?_
 obtain⟨(W:List (Int×List Int)),(d:Int),_⟩:=x
 have e7:(W.length:Int)<=9223372036854775807:=xB h 0 (t:=(.pair .int (.list .int))) (l:=W)
 refine aC [] h fun _ _ h=>?_
 refine go_loop (Int) (fun i=>⟨[(0,eo 0),(1,en d),(6,en i)],[(0,some (.ar (.pair .int (.list .int)) W))],1⟩) (fun i=>0<=i/\i<=(W.length:Int)/\∀j:Nat,(j:Int)<i->¬((W.getD j (0,[])).1=d\/d∈(W.getD j (0,[])).2)) (fun i=>((W.length:Int)-i).toNat) (0) (ir 1) h ⟨Int.le_refl _,Int.natCast_nonneg _,fun j hj=>by omega⟩ fun i _ _ _ cq hI h=>?_
 obtain⟨i0,i1,i2⟩:=hI
 refine aC [] h fun _ _ h=>?_
 refine ag h (fun(q1:i<(W.length:Int))=>?_) (fun(q1:¬(i<(W.length:Int)))=>?_)
 .by_cases z1:(W.getD i.toNat (0,[])).1=d
  .refine go (pr:=(aV i W.length)/\((W.getD i.toNat (0,[])).1=d)/\(aV i W.length)) [(20,true)] h ⟨bx,z1,bx⟩ fun _ _ h=>?_
   exact out (((W.getD i.toNat (0,[])).1:Int),(true:Bool),()) h (by rw[Ey i0 (by omega) (.inl z1) i2])
  refine go (pr:=(aV i W.length)/\(¬((W.getD i.toNat (0,[])).1=d))/\(aV i W.length)/\True) [(20,false)] h ⟨bx,z1,bx,tv⟩ fun _ _ h=>?_
  refine ag h (fun(q2:(decide (d∈(W.getD i.toNat (0,[])).2))=true)=>?_) (fun(q2:(decide (d∈(W.getD i.toNat (0,[])).2))=false)=>?_)
  .refine go (pr:=(aV i W.length)) [] h bx fun _ _ h=>?_
   exact out (((W.getD i.toNat (0,[])).1:Int),(true:Bool),()) h (by rw[Ey i0 (by omega) (.inr q2) i2])
  refine go (pr:=(aX .i64 (i+1))) [] h bw fun _ _ h=>?_
  exact bZ (cq (i+1) (ir 1) h ⟨by omega,by omega,fun j hj=>if z:(j:Int)<i then i2 j z else by rw[show j=i.toNat by omega];exact fun q=>q.elim (fun w=>z1 w) fun w=>absurd (decide_eq_true w) (by rw[q2];decide)⟩ (by omega))
 refine aC [] h fun _ _ h=>?_
 exact out (((0:Int):Int),(false:Bool),()) h (by rw[R5 (fun j hj=>i2 j (by omega))])
def W5:cE Tryz.prog:=plain W4
theorem aaa:aS Tryz.prog 51 [(false,(.list (.pair .int (.list .int)))),(false,.int)] [.int] (fun _=>True) (fun x=>(dK (show List (Int×List Int) from x.1) (I_ x.2.1),())):=by
 refine aF Tryz.f51 20 [] Tryz.func51 fun o x hd _ _ h=>?_
 obtain⟨(W:List (Int×List Int)),(key:Int),_⟩:=x
 have e7:(W.length:Int)<=9223372036854775807:=xB h 0 (t:=(.pair .int (.list .int))) (l:=W)
 refine aC [] h fun _ _ h=>?_
 refine go_loop (Int) (fun i=>⟨[(0,eo 0),(1,en key),(5,en i)],[(0,some (.ar (.pair .int (.list .int)) W))],1⟩) (fun i=>0<=i/\i<=(W.length:Int)/\∀j:Nat,(j:Int)<i->decide ((W.getD j (0,[])).1=key)=false) (fun i=>((W.length:Int)-i).toNat) (0) (ir 1) h ⟨Int.le_refl _,Int.natCast_nonneg _,fun j hj=>by omega⟩ fun i _ _ _ cq hI h=>?_
 obtain⟨i0,i1,i2⟩:=hI
 refine aC [] h fun _ _ h=>?_
 refine ag h (fun(q1:i<(W.length:Int))=>?_) (fun(q1:¬(i<(W.length:Int)))=>?_)
 .refine go (pr:=(aV i W.length)) [] h bx fun _ _ h=>?_
  refine ag h (fun(q2:(W.getD i.toNat (0,[])).1=key)=>?_) (fun(q2:¬((W.getD i.toNat (0,[])).1=key))=>?_)
  .refine aC [] h fun _ _ h=>?_
   exact out ((i:Int),()) h (by unfold dK;rw[yh i0 (by omega) (decide_eq_true q2) i2])
  refine go (pr:=(aX .i64 (i+1))) [] h bw fun _ _ h=>?_
  exact bZ (cq (i+1) (ir 1) h ⟨by omega,by omega,fun j hj=>if z:(j:Int)<i then i2 j z else by rw[show j=i.toNat by omega];exact decide_eq_false q2⟩ (by omega))
 refine aC [] h fun _ _ h=>?_
 exact out (((-1:Int):Int),()) h (by rw[Wa (i:=i) (by omega) i2])
def aab:cE Tryz.prog:=plain aaa
theorem W6:aS Tryz.prog 52 [(false,gX),(false,(.list fR)),(false,(.pair .int (.list .int)))] [.int] (fun x=>bz (I_ x.1.1)/\-1000000<=(I_ x.2.2.1.1)/\(I_ x.2.2.1.1)<=1000000/\(0<=(I_ x.2.2.1.1)->(I_ x.2.2.1.1)/2<((E_ x.1.2).length:Int))) (fun x=>(kR (E_ x.1.2) (show List ((List Int)×List Int) from x.2.1) ((I_ x.2.2.1.1),(J_ x.2.2.1.2)),())):=by
 refine aF Tryz.f52 24 [Ji,lI] Tryz.func52 fun o x hd _ _ h=>?_
 obtain⟨⟨(n:Int),(E:List (Int×Int))⟩,(P:List ((List Int)×List Int)),⟨(k:Int),(ds:List Int)⟩,_⟩:=x
 have e7:=gL h 0 E
 have eZ:(P.length:Int)<=9223372036854775807:=xB h 1 (t:=fR) (l:=P)
 have fS:=cg h 2 ds
 change bz n/\-1000000<=k/\k<=1000000/\(0<=k->k/2<(E.length:Int)) at hd
 obtain⟨hn,k0,k1,k2⟩:=hd
 refine aC [] h fun _ _ h=>?_
 refine go_loop (Int) (fun i=>⟨[(1,eo 0),(3,ep 1),(5,ep 2),(7,en i)],[(0,some (.ar fR P)),(1,some (.box 24 [.v (.int .i64 n),.own 3])),(2,some (.box 88 [.v (.int .i64 k),.own 4])),(3,some (.ar fA E)),(4,some (.ar .int ds))],5⟩) (fun i=>0<=i/\i<=(P.length:Int)/\∀j:Nat,(j:Int)<i->decide (jD E (k,ds)∈(P.getD j ([],[])).1)=false) (fun i=>((P.length:Int)-i).toNat) (0) (rk [1,3,4099,0,2]) h ⟨Int.le_refl _,Int.natCast_nonneg _,fun j hj=>by omega⟩ fun i _ _ _ cq hI h=>?_
 obtain⟨i0,i1,i2⟩:=hI
 refine aC [] h fun _ _ h=>?_
 refine ag h (fun(q1:i<(P.length:Int))=>?_) (fun(q1:¬(i<(P.length:Int)))=>?_)
 .refine go (pr:=(aV i P.length)/\(bz n/\-1000000<=k/\k<=1000000/\(0<=k->k/2<(E.length:Int)))/\True) [] h ⟨bx,⟨hn,k0,k1,k2⟩,tv⟩ fun _ _ h=>?_
  refine ag h (fun(q2:(decide (jD E (k,ds)∈(P.getD i.toNat ([],[])).1))=true)=>?_) (fun(q2:(decide (jD E (k,ds)∈(P.getD i.toNat ([],[])).1))=false)=>?_)
  .refine aC [] h fun _ _ h=>?_
   exact out ((i:Int),()) h (by unfold kR;rw[yh i0 (by omega) q2 i2])
  refine go (pr:=(aX .i64 (i+1))) [] h bw fun _ _ h=>?_
  exact bZ (cq (i+1) (ir 5) h ⟨by omega,by omega,fun j hj=>if z:(j:Int)<i then i2 j z else by rw[show j=i.toNat by omega];exact q2⟩ (by omega))
 refine aC [] h fun _ _ h=>?_
 exact out (((-1:Int):Int),()) h (by rw[Wb (i:=i) (by omega) i2])
def W7:cE Tryz.prog:=plain W6
theorem Te:aS Tryz.prog 121 [(false,gX),(false,fR),(true,(.pair (.list (.list .int)) (.list (.list .int))))] [(.list (.list .int))] (fun x=>bz (I_ x.1.1)/\av (K_ x.2.2.1.1)/\aA (I_ x.1.1) (E_ x.1.2) (J_ x.2.1.1) (J_ x.2.1.2)=0/\bW (I_ x.1.1) (E_ x.1.2) (J_ x.2.1.2) (K_ x.2.2.1.1)/\av (K_ x.2.2.1.2)/\∀l∈(K_ x.2.2.1.2),l≠[]) (fun x=>(sg (K_ x.2.2.1.2) (ax (E_ x.1.2) (J_ x.2.1.1) (J_ x.2.1.2) (K_ x.2.2.1.1)) (ax (E_ x.1.2) (J_ x.2.1.1) (J_ x.2.1.2) (K_ x.2.2.1.1)).length,())):=by
 refine aF Tryz.f121 68 [mZ,lI] Tryz.func121 fun o x hd _ _ h=>?_
 obtain⟨⟨(n:Int),(E:List (Int×Int))⟩,⟨(V:List Int),(L:List Int)⟩,⟨(T:List (List Int)),(S:List (List Int))⟩,_⟩:=x
 have e7:=gL h 0 E
 have eZ:=cg h 1 V
 have fS:=cg h 2 L
 have jm:=eP h 3 T
 have tE:=eP h 4 S
 change bz n/\av T/\aA n E V L=0/\bW n E L T/\av S/\∀l∈S,l≠[] at hd
 obtain⟨hn,cw,hp,hT,cS,LD⟩:=hd
 have tF:=cS.1
 obtain⟨jZ,hV,hL,_⟩:=aD hp
 obtain⟨r1,r2,r3,_⟩:=aN jZ
 have zw:=ay hV r1
 have vf:=ay hL (by omega)
 have nk:=gD hp hT
 have Jj:=gq nk
 obtain⟨_,_,hW⟩:=bS (V:=V) (by rw[fH nk]:(aa n E V L T).2=0)
 rw[<-Jj] at hW
 have K9:=tc hp
 have vA:=fo hp
 rw[<-K9] at vA
 have Jk:=vA.len
 have GK:=hW.len
 refine go (pr:=(bz n/\av T/\aA n E V L=0/\bW n E L T)) [] h (⟨hn,cw,hp,hT⟩) fun _ _ h=>?_
 refine aK Int (List (List Int)) (fun i ou=>⟨[(5,ep 0),(7,eo 1),(8,eo 2),(9,en i)],[(0,some (.box 30 [.own 3,.own 4])),(1,some (.ro (.pair .int (.list .int)) (ax E V L T))),(2,some (.row 25 (.list .int) ou)),(3,some (.ro (.list .int) T)),(4,some (.ro (.list .int) S))],5⟩) (fun i ou=>0<=i/\i<=((ax E V L T).length:Int)/\ou=sg S (ax E V L T) i.toNat) (fun i ou=>(((ax E V L T).length:Int)-i).toNat) 0 [] [(0,some 8197),(1,some 32773),(2,none),(3,some 3),(4,some 4)] h ⟨Int.le_refl _,Int.natCast_nonneg _,rfl⟩ fun i ou _ _ _ cq hI h=>?_
 obtain⟨i0,i1,i2⟩:=hI
 refine aC [] h fun _ _ h=>?_
 refine ag h (fun(q1:i<((ax E V L T).length:Int))=>?_) (fun(q1:¬(i<((ax E V L T).length:Int)))=>?_)
 .have CV:=Cl (S:=S) (W:=(ax E V L T)) i.toNat
  rw[<-i2] at CV
  have rT:((ax E V L T).getD i.toNat (0,[]))∈(ax E V L T):=af (by omega)
  have My:=u9 hp hW rT
  refine go (pr:=(aV i (ax E V L T).length)) [] h bx fun _ _ h=>?_
  refine fB Int (List Int) Bool (fun k yU ok=>⟨[(5,ep 0),(7,eo 1),(8,eo 2),(9,en i),(10,eo 3),(11,some ⟨[],.one (.b (.raw ok))⟩),(12,en k)],[(0,some (.box 30 [.own 4,.own 5])),(1,some (.ro (.pair .int (.list .int)) (ax E V L T))),(2,some (.row 25 (.list .int) ou)),(3,some (.ro .int yU)),(4,some (.ro (.list .int) T)),(5,some (.ro (.list .int) S))],6⟩) (fun k yU ok=>0<=k/\k<=(S.length:Int)/\(yU,ok)=AV S ((ax E V L T).getD i.toNat (0,[])).1 k.toNat) (fun k yU ok=>((S.length:Int)-k).toNat) 0 [((ax E V L T).getD i.toNat (0,[])).1] true (rk [0,1,2,36869,3,4]) h ⟨Int.le_refl _,Int.natCast_nonneg _,rfl⟩ fun k yU ok _ _ _ fQ hI h=>?_
  obtain⟨k0,k1,k2⟩:=hI
  refine aC [] h fun _ _ h=>?_
  refine ag h (fun(q2:k<(S.length:Int))=>?_) (fun(q2:¬(k<(S.length:Int)))=>?_)
  .refine go (pr:=(aV k S.length)/\(aV i (ax E V L T).length)/\True) [] h ⟨bx,bx,tv⟩ fun _ _ h=>?_
   refine ag h (fun(q3:(decide (((ax E V L T).getD i.toNat (0,[])).1∈(S.getD k.toNat [])))=true)=>?_) (fun(q3:(decide (((ax E V L T).getD i.toNat (0,[])).1∈(S.getD k.toNat [])))=false)=>?_)
   .have hsn:=LD _ (af (l:=S) (i:=k.toNat) (d:=[]) (by omega))
    have Kf:0<(S.getD k.toNat []).length:=List.length_pos_iff.2 hsn
    refine go (pr:=(aV k S.length)/\(aV (0:Int) (S.getD k.toNat []).length)/\(aV i (ax E V L T).length)/\(aX .i64 (k+1))) [] h ⟨bx,bx,bx,bw⟩ fun _ _ h=>?_
    exact bZ (fQ (k+1) (S.getD k.toNat []) (decide (((S.getD k.toNat []).getD 0 0)=((ax E V L T).getD i.toNat (0,[])).1)) (rk [0,1,2,81926,4,5]) h ⟨by omega,by omega,by rw[Su k0 q3]⟩ (by omega))
   refine go (pr:=(aX .i64 (k+1))) [] h bw fun _ _ h=>?_
   exact bZ (fQ (k+1) yU ok (ir 6) h ⟨by omega,by omega,by rw[Wc k0 q3];exact k2⟩ (by omega))
  have ru:AV S ((ax E V L T).getD i.toNat (0,[])).1 k.toNat=AV S ((ax E V L T).getD i.toNat (0,[])).1 S.length:=by rw[show k.toNat=S.length by omega]
  refine aC [] h fun _ _ h=>?_
  refine ag h (fun(q4:ok=true)=>?_) (fun(q4:ok=false)=>?_)
  .refine go (pr:=(ou.length+([yU]:List (List Int)).length<=2147483647)/\(aX .i64 (i+1))) [] h ⟨ln,bw⟩ fun _ _ h=>?_
   exact bZ (cq (i+1) (ou++([yU]:List (List Int))) (rk [0,1,36870,4,5]) h ⟨by omega,by omega,by rw[Sv i0 (l:=yU) (by rw[<-ru,<-k2,show ok=true from q4]),<-i2]⟩ (by omega))
  refine go (pr:=(aX .i64 (i+1))) [] h bw fun _ _ h=>?_
  exact bZ (cq (i+1) ou (rk [0,1,2,4,5]) h ⟨by omega,by omega,by rw[Wd i0 (l:=yU) (by rw[<-ru,<-k2,show ok=false from q4]),<-i2]⟩ (by omega))
 have oz:i.toNat=(ax E V L T).length:=by omega
 rw[oz] at i2
 refine aC [] h fun _ _ h=>?_
 exact out ((ou:List (List Int)),()) h (by rw[i2])
def Tf:cE Tryz.prog:=plain Te
theorem La:aS Tryz.prog 28 [(false,gX),(false,fR),(false,(.pair (.list (.list .int)) (.list (.list .int))))] [.int] (fun x=>bz (I_ x.1.1)/\av (K_ x.2.2.1.1)/\av (K_ x.2.2.1.2)) (fun x=>(pK (I_ x.1.1) (E_ x.1.2) (J_ x.2.1.1) (J_ x.2.1.2) (K_ x.2.2.1.1) (K_ x.2.2.1.2),())):=by
 refine aF Tryz.f28 198 [Bb,mZ,aab,lI,W7,Bc,W0] Tryz.func28 fun o x hd _ _ h=>?_
 obtain⟨⟨(n:Int),(E:List (Int×Int))⟩,⟨(V:List Int),(L:List Int)⟩,⟨(T:List (List Int)),(S:List (List Int))⟩,_⟩:=x
 have e7:=gL h 0 E
 have eZ:=cg h 1 V
 have fS:=cg h 2 L
 have jm:=eP h 3 T
 have tE:=eP h 4 S
 change bz n/\av T/\av S at hd
 obtain⟨hn,cw,cS⟩:=hd
 have tF:=cS.1
 refine go (pr:=(bz n)) [] h hn fun _ _ h=>?_
 refine ag h (fun(q1:¬((bT n E V L T).2=0))=>?_) (fun(q1:(bT n E V L T).2=0)=>?_)
 .refine aC [] h fun _ _ h=>?_
  exact out (((bT n E V L T).2:Int),()) h (by rw[AW q1])
 have zx:(bT n E V L T).2=0:=q1
 obtain⟨hp,hT,_⟩:=fN zx
 obtain⟨jZ,hV,hL,_⟩:=aD hp
 obtain⟨r1,r2,r3,_⟩:=aN jZ
 have zw:=ay hV r1
 have vf:=ay hL (by omega)
 have nk:=gD hp hT
 have Jj:=gq nk
 obtain⟨_,_,hW⟩:=bS (V:=V) (by rw[fH nk]:(aa n E V L T).2=0)
 rw[<-Jj] at hW
 have K9:=tc hp
 have vA:=fo hp
 rw[<-K9] at vA
 have Jk:=vA.len
 have GK:=hW.len
 refine go (pr:=(bz n/\av T)) [] h (⟨hn,cw⟩) fun _ _ h=>?_
 refine ag h (fun(q2:(vq n E V L T)=false)=>?_) (fun(q2:(vq n E V L T)=true)=>?_)
 .refine aC [] h fun _ _ h=>?_
  exact out (((6:Int):Int),()) h (by rw[AX zx q2])
 have zJ:=q2
 refine go (pr:=(bz n/\av T/\aA n E V L=0/\bW n E L T)/\(aA n E V L=0)) [] h ⟨⟨hn,cw,hp,hT⟩,hp⟩ fun _ _ h=>?_
 refine aK Int (List Int) (fun i gr=>⟨[(3,ep 0),(5,ep 1),(8,eo 2),(9,eo 3),(10,eo 4),(11,en i)],[(0,some (.box 24 [.v (.int .i64 n),.own 5])),(1,some (.box 30 [.own 6,.own 7])),(2,some (.ro (.pair .int (.list .int)) (ax E V L T))),(3,some (.ro fR ((dW E V L V.length).2))),(4,some (.row 3 .int gr)),(5,some (.ar fA E)),(6,some (.ar (.list .int) T)),(7,some (.ar (.list .int) S))],8⟩) (fun i gr=>0<=i/\i<=((dW E V L V.length).2.length:Int)/\gr=zm i.toNat) (fun i gr=>(((dW E V L V.length).2.length:Int)-i).toNat) 0 [] [(0,some 5),(1,some 8197),(2,some 90117),(3,some 106501),(4,none),(5,some 0),(6,some 3),(7,some 4)] h ⟨Int.le_refl _,Int.natCast_nonneg _,rfl⟩ fun i gr _ _ _ cq hI h=>?_
 obtain⟨i0,i1,i2⟩:=hI
 refine aC [] h fun _ _ h=>?_
 refine ag h (fun(q3:i<(((dW E V L V.length).2).length:Int))=>?_) (fun(q3:¬(i<(((dW E V L V.length).2).length:Int)))=>?_)
 .have CV:gr.length=i.toNat:=by rw[i2];exact yl _
  refine go (pr:=(gr.length+([i]:List Int).length<=2147483647)/\(aX .i64 (i+1))) [] h ⟨ln,bw⟩ fun _ _ h=>?_
  exact bZ (cq (i+1) (gr++([i]:List Int)) (rk [0,1,2,3,28680,5,6,7]) h ⟨by omega,by omega,by rw[KT i0,i2]⟩ (by omega))
 have oz:i.toNat=(dW E V L V.length).2.length:=by omega
 rw[oz] at i2
 refine aC [] h fun _ _ h=>?_
 refine fB Int (List Int) (List Int) (fun i g1 met=>⟨[(3,ep 0),(5,ep 1),(8,eo 2),(9,eo 3),(10,eo 4),(12,eo 5),(13,en i)],[(0,some (.box 24 [.v (.int .i64 n),.own 6])),(1,some (.box 30 [.own 7,.own 8])),(2,some (.ro (.pair .int (.list .int)) (ax E V L T))),(3,some (.ro fR ((dW E V L V.length).2))),(4,some (.row 3 .int g1)),(5,some (.row 3 .int met)),(6,some (.ar fA E)),(7,some (.ar (.list .int) T)),(8,some (.ar (.list .int) S))],9⟩) (fun i g1 met=>0<=i/\i<=(S.length:Int)/\Cs (SL E (dW E V L V.length).2 (ax E V L T)) (ax E V L T) S (dW E V L V.length).2.length i.toNat=some (g1,met)/\g1.length=(dW E V L V.length).2.length/\EL (ax E V L T) met) (fun i g1 met=>((S.length:Int)-i).toNat) 0 gr [] [(0,some 0),(1,some 1),(2,some 2),(3,some 3),(4,some 4),(5,none),(6,some 5),(7,some 6),(8,some 7)] h ⟨Int.le_refl _,Int.natCast_nonneg _,by rw[i2];rfl,by rw[i2];exact yl _,⟨List.Pairwise.nil,fun x hx=>by cases hx⟩⟩ fun i g1 met _ _ _ fQ hI h=>?_
 obtain⟨s0,s1,LF,hgN,hmI⟩:=hI
 refine aC [] h fun _ _ h=>?_
 refine ag h (fun(q4:i<(S.length:Int))=>?_) (fun(q4:¬(i<(S.length:Int)))=>?_)
 .have hm:(S.getD i.toNat [])∈S:=af (by omega)
  have Oy:=cS.2 _ hm
  have IS:=IN LF
  have UI:0<i->2<=(S.getD (i-1).toNat []).length:=fun h=>IS _ (by omega)
  by_cases z1:((S.getD i.toNat []).length:Int)<2
  .refine go (pr:=(aV i S.length)/\(((S.getD i.toNat []).length:Int)<2)) [(67,true)] h ⟨bx,z1⟩ fun _ _ h=>?_
   exact out (((7:Int):Int),()) h (by rw[iV zx zJ (qz s0 (by omega) LF (EN s0 (.inl z1)))];rfl)
  by_cases z2:(0:Int)<i
  .have abl:=UI z2
   refine go (pr:=(aV i S.length)/\(¬(((S.getD i.toNat []).length:Int)<2))/\((0:Int)<i)/\(aV (0:Int) (S.getD i.toNat []).length)/\(aX .i64 (i-1))/\(aV (i-1) S.length)/\(aV (0:Int) (S.getD (i-1).toNat []).length)) [(67,false),(70,true)] h ⟨bx,z1,z2,bx,bw,bx,bx⟩ fun _ _ h=>?_
   refine ag h (fun(q5:((S.getD i.toNat []).getD 0 0)<=((S.getD (i-1).toNat []).getD 0 0))=>?_) (fun(q5:¬(((S.getD i.toNat []).getD 0 0)<=((S.getD (i-1).toNat []).getD 0 0)))=>?_)
   .refine aC [] h fun _ _ h=>?_
    exact out (((7:Int):Int),()) h (by rw[iV zx zJ (qz s0 (by omega) LF (EN s0 (.inr ⟨z2,q5⟩)))];rfl)
   have zy:¬(((S.getD i.toNat []).length:Int)<2)/\(¬(0<i)\/¬((S.getD i.toNat []).getD 0 0<=(S.getD (i-1).toNat []).getD 0 0)):=⟨z1,.inr q5⟩
   refine aC [] h fun _ _ h=>?_
   refine aK Int (List Int) (fun k mt=>⟨[(3,ep 0),(5,ep 1),(8,eo 2),(9,eo 3),(10,eo 4),(12,eo 5),(13,en i),(14,eo 6),(15,en k)],[(0,some (.box 24 [.v (.int .i64 n),.own 7])),(1,some (.box 30 [.own 8,.own 9])),(2,some (.ro (.pair .int (.list .int)) (ax E V L T))),(3,some (.ro fR ((dW E V L V.length).2))),(4,some (.row 3 .int g1)),(5,some (.row 3 .int mt)),(6,some (.ar .int (S.getD i.toNat []))),(7,some (.ar fA E)),(8,some (.ar (.list .int) T)),(9,some (.ar (.list .int) S))],10⟩) (fun k mt=>0<=k/\k<=((S.getD i.toNat []).length:Int)/\mX (ax E V L T) (S.getD i.toNat []) met k.toNat=some mt/\EL (ax E V L T) mt) (fun k mt=>(((S.getD i.toNat []).length:Int)-k).toNat) 0 met (rk [0,1,2,3,4,5,36873,6,7,8]) h ⟨Int.le_refl _,Int.natCast_nonneg _,rfl,hmI⟩ fun k mt _ _ _ sj hI h=>?_
   obtain⟨k0,k1,Fq,GY⟩:=hI
   refine aC [] h fun _ _ h=>?_
   refine ag h (fun(q6:k<((S.getD i.toNat []).length:Int))=>?_) (fun(q6:¬(k<((S.getD i.toNat []).length:Int)))=>?_)
   .have uS:=GY.len
    refine go (pr:=(aV k (S.getD i.toNat []).length)/\True/\((¬(dK (ax E V L T) ((S.getD i.toNat []).getD k.toNat 0)<0))->(aV k (S.getD i.toNat []).length))/\((¬(dK (ax E V L T) ((S.getD i.toNat []).getD k.toNat 0)<0))->True)/\(((¬(dK (ax E V L T) ((S.getD i.toNat []).getD k.toNat 0)<0))/\((decide (((S.getD i.toNat []).getD k.toNat 0)∈mt))=false))->((0:Int)<k)->(aV k (S.getD i.toNat []).length))/\(((¬(dK (ax E V L T) ((S.getD i.toNat []).getD k.toNat 0)<0))/\((decide (((S.getD i.toNat []).getD k.toNat 0)∈mt))=false))->((0:Int)<k)->(aX .i64 (k-1)))/\(((¬(dK (ax E V L T) ((S.getD i.toNat []).getD k.toNat 0)<0))/\((decide (((S.getD i.toNat []).getD k.toNat 0)∈mt))=false))->((0:Int)<k)->(aV (k-1) (S.getD i.toNat []).length))) [] h ⟨bx,tv,fun _=>bx,fun _=>trivial,fun _ _=>bx,fun _ _=>bw,fun _ _=>bx⟩ fun _ _ h=>?_
    refine ag h (fun(q7:((dK (ax E V L T) ((S.getD i.toNat []).getD k.toNat 0)<0)\/((decide (((S.getD i.toNat []).getD k.toNat 0)∈mt))=true))\/(((0:Int)<k)/\(((S.getD i.toNat []).getD k.toNat 0)<=((S.getD i.toNat []).getD (k-1).toNat 0))))=>?_) (fun(q7:((¬(dK (ax E V L T) ((S.getD i.toNat []).getD k.toNat 0)<0))/\((decide (((S.getD i.toNat []).getD k.toNat 0)∈mt))=false))/\((¬((0:Int)<k))\/(¬(((S.getD i.toNat []).getD k.toNat 0)<=((S.getD i.toNat []).getD (k-1).toNat 0)))))=>?_)
    .refine aC [] h fun _ _ h=>?_
     exact out (((7:Int):Int),()) h (by rw[iV zx zJ (qz s0 (by omega) LF (by rw[uy s0 zy];dsimp only;rw[ux (k:=(k+1).toNat) (by rw[qy k0 Fq];exact if_pos (q7.imp (fun w=>w.imp id of_decide_eq_true) id)) (by omega)];rfl))];rfl)
    refine go (pr:=(aV k (S.getD i.toNat []).length)/\(mt.length+([((S.getD i.toNat []).getD k.toNat 0)]:List Int).length<=2147483647)/\(aX .i64 (k+1))) [] h ⟨bx,ln,bw⟩ fun _ _ h=>?_
    exact bZ (sj (k+1) (mt++([((S.getD i.toNat []).getD k.toNat 0)]:List Int)) (rk [0,1,2,3,4,167946,6,7,8,9]) h ⟨by omega,by omega,by rw[qy k0 Fq];exact if_neg fun w=>w.elim (fun w=>w.elim q7.1.1 (of_decide_eq_false q7.1.2)) fun w=>q7.2.elim (fun z=>z w.1) fun z=>z w.2,GY.snoc q7.1.1 (of_decide_eq_false q7.1.2)⟩ (by omega))
   have ru:k.toNat=(S.getD i.toNat []).length:=by omega
   rw[ru] at Fq
   have hkf:=IM Fq
   refine aC [] h fun _ _ h=>?_
   refine aK Int (List Int) (fun m g3=>⟨[(3,ep 0),(5,ep 1),(8,eo 2),(9,eo 3),(10,eo 4),(12,eo 5),(13,en i),(14,eo 6),(16,en m)],[(0,some (.box 24 [.v (.int .i64 n),.own 7])),(1,some (.box 30 [.own 8,.own 9])),(2,some (.ro (.pair .int (.list .int)) (ax E V L T))),(3,some (.ro fR ((dW E V L V.length).2))),(4,some (.row 3 .int g3)),(5,some (.row 3 .int mt)),(6,some (.ar .int (S.getD i.toNat []))),(7,some (.ar fA E)),(8,some (.ar (.list .int) T)),(9,some (.ar (.list .int) S))],10⟩) (fun m g3=>1<=m/\m<=((S.getD i.toNat []).length:Int)/\yT (SL E (dW E V L V.length).2 (ax E V L T)) (S.getD i.toNat []) g1 (m-1).toNat=some g3/\g3.length=(dW E V L V.length).2.length) (fun m g3=>(((S.getD i.toNat []).length:Int)-m).toNat) 1 g1 (ir 10) h ⟨by omega,by omega,rfl,hgN⟩ fun m g3 _ _ _ Fs hI h=>?_
   obtain⟨m0,m1,GZ,hg3⟩:=hI
   refine aC [] h fun _ _ h=>?_
   refine ag h (fun(q8:m<((S.getD i.toNat []).length:Int))=>?_) (fun(q8:¬(m<((S.getD i.toNat []).length:Int)))=>?_)
   .have f0:=hkf 0 (by omega)
    have f1:=hkf m.toNat (by omega)
    obtain⟨fb0,kd0,ob0,oc0⟩:=Ct hn hp vA hW f0
    obtain⟨fb1,kd1,ob1,oc1⟩:=Ct hn hp vA hW f1
    refine go (pr:=(aV (0:Int) (S.getD i.toNat []).length)/\True/\(aV (dK (ax E V L T) ((S.getD i.toNat []).getD 0 0)) (ax E V L T).length)/\(bz n/\-1000000<=((ax E V L T).getD (dK (ax E V L T) ((S.getD i.toNat []).getD 0 0)).toNat (0,[])).1/\((ax E V L T).getD (dK (ax E V L T) ((S.getD i.toNat []).getD 0 0)).toNat (0,[])).1<=1000000/\(0<=((ax E V L T).getD (dK (ax E V L T) ((S.getD i.toNat []).getD 0 0)).toNat (0,[])).1->((ax E V L T).getD (dK (ax E V L T) ((S.getD i.toNat []).getD 0 0)).toNat (0,[])).1/2<(E.length:Int)))/\(aV (kR E ((dW E V L V.length).2) ((ax E V L T).getD (dK (ax E V L T) ((S.getD i.toNat []).getD 0 0)).toNat (0,[]))) g3.length)/\(aV m (S.getD i.toNat []).length)/\True/\(aV (dK (ax E V L T) ((S.getD i.toNat []).getD m.toNat 0)) (ax E V L T).length)/\(bz n/\-1000000<=((ax E V L T).getD (dK (ax E V L T) ((S.getD i.toNat []).getD m.toNat 0)).toNat (0,[])).1/\((ax E V L T).getD (dK (ax E V L T) ((S.getD i.toNat []).getD m.toNat 0)).toNat (0,[])).1<=1000000/\(0<=((ax E V L T).getD (dK (ax E V L T) ((S.getD i.toNat []).getD m.toNat 0)).toNat (0,[])).1->((ax E V L T).getD (dK (ax E V L T) ((S.getD i.toNat []).getD m.toNat 0)).toNat (0,[])).1/2<(E.length:Int)))/\(aV (kR E ((dW E V L V.length).2) ((ax E V L T).getD (dK (ax E V L T) ((S.getD i.toNat []).getD m.toNat 0)).toNat (0,[]))) g3.length)) [] h ⟨bx,tv,bx,by assumption,bx,bx,tv,bx,by assumption,bx⟩ fun _ _ h=>?_
    refine ag h (fun(q9:(g3.getD (kR E ((dW E V L V.length).2) ((ax E V L T).getD (dK (ax E V L T) ((S.getD i.toNat []).getD 0 0)).toNat (0,[]))).toNat 0)=(g3.getD (kR E ((dW E V L V.length).2) ((ax E V L T).getD (dK (ax E V L T) ((S.getD i.toNat []).getD m.toNat 0)).toNat (0,[]))).toNat 0))=>?_) (fun(q9:¬((g3.getD (kR E ((dW E V L V.length).2) ((ax E V L T).getD (dK (ax E V L T) ((S.getD i.toNat []).getD 0 0)).toNat (0,[]))).toNat 0)=(g3.getD (kR E ((dW E V L V.length).2) ((ax E V L T).getD (dK (ax E V L T) ((S.getD i.toNat []).getD m.toNat 0)).toNat (0,[]))).toNat 0)))=>?_)
    .refine aC [] h fun _ _ h=>?_
     exact out (((7:Int):Int),()) h (by rw[iV zx zJ (qz s0 (by omega) LF (by rw[uy s0 zy];dsimp only;rw[Fq];show(yT _ _ _ _).bind _=_;rw[tq (k:=(m+1-1).toNat) ((tu m0 GZ).trans (if_pos q9)) (by omega)];rfl))];rfl)
    have hq8:=q9
    refine aC [] h fun _ _ h=>?_
    refine aK Int (List Int) (fun j g4=>⟨[(3,ep 0),(5,ep 1),(8,eo 2),(9,eo 3),(10,eo 4),(12,eo 5),(13,en i),(14,eo 6),(16,en m),(17,en (g3.getD (kR E ((dW E V L V.length).2) ((ax E V L T).getD (dK (ax E V L T) ((S.getD i.toNat []).getD 0 0)).toNat (0,[]))).toNat 0)),(18,en (g3.getD (kR E ((dW E V L V.length).2) ((ax E V L T).getD (dK (ax E V L T) ((S.getD i.toNat []).getD m.toNat 0)).toNat (0,[]))).toNat 0)),(19,en j)],[(0,some (.box 24 [.v (.int .i64 n),.own 7])),(1,some (.box 30 [.own 8,.own 9])),(2,some (.ro (.pair .int (.list .int)) (ax E V L T))),(3,some (.ro fR ((dW E V L V.length).2))),(4,some (.row 3 .int g4)),(5,some (.row 3 .int mt)),(6,some (.ar .int (S.getD i.toNat []))),(7,some (.ar fA E)),(8,some (.ar (.list .int) T)),(9,some (.ar (.list .int) S))],10⟩) (fun j g4=>0<=j/\j<=(g3.length:Int)/\g4=mW g3 (g3.getD (kR E (dW E V L V.length).2 ((ax E V L T).getD (dK (ax E V L T) ((S.getD i.toNat []).getD 0 0)).toNat (0,[]))).toNat 0) (g3.getD (kR E (dW E V L V.length).2 ((ax E V L T).getD (dK (ax E V L T) ((S.getD i.toNat []).getD m.toNat 0)).toNat (0,[]))).toNat 0) j.toNat) (fun j g4=>((g3.length:Int)-j).toNat) 0 g3 (ir 10) h ⟨Int.le_refl _,Int.natCast_nonneg _,rfl⟩ fun j g4 _ _ _ hK5 hI h=>?_
    obtain⟨j0,j1,j2⟩:=hI
    refine aC [] h fun _ _ h=>?_
    refine ag h (fun(Yh:j<(g4.length:Int))=>?_) (fun(Yh:¬(j<(g4.length:Int)))=>?_)
    .have EW:=jG (g:=g3) (a:=(g3.getD (kR E (dW E V L V.length).2 ((ax E V L T).getD (dK (ax E V L T) ((S.getD i.toNat []).getD 0 0)).toNat (0,[]))).toNat 0)) (b:=(g3.getD (kR E (dW E V L V.length).2 ((ax E V L T).getD (dK (ax E V L T) ((S.getD i.toNat []).getD m.toNat 0)).toNat (0,[]))).toNat 0)) j.toNat
     rw[<-j2] at EW
     refine go (pr:=(aV j g4.length)) [] h bx fun _ _ h=>?_
     refine ag h (fun(W8:(g4.getD j.toNat 0)=(g3.getD (kR E ((dW E V L V.length).2) ((ax E V L T).getD (dK (ax E V L T) ((S.getD i.toNat []).getD m.toNat 0)).toNat (0,[]))).toNat 0))=>?_) (fun(W8:¬((g4.getD j.toNat 0)=(g3.getD (kR E ((dW E V L V.length).2) ((ax E V L T).getD (dK (ax E V L T) ((S.getD i.toNat []).getD m.toNat 0)).toNat (0,[]))).toNat 0)))=>?_)
     .refine go (pr:=(aV j g4.length)/\(aV j g4.length)/\(aX .i64 (j+1))) [] h ⟨bx,bx,bw⟩ fun _ _ h=>?_
      exact bZ (hK5 (j+1) (g4.set j.toNat (g3.getD (kR E ((dW E V L V.length).2) ((ax E V L T).getD (dK (ax E V L T) ((S.getD i.toNat []).getD 0 0)).toNat (0,[]))).toNat 0)) (ir 10) h ⟨by omega,by omega,EK j0 j2 W8⟩ (by omega))
     refine go (pr:=(aX .i64 (j+1))) [] h bw fun _ _ h=>?_
     exact bZ (hK5 (j+1) g4 (ir 10) h ⟨by omega,by omega,IL j0 j2 W8⟩ (by omega))
    have EW:=jG (g:=g3) (a:=(g3.getD (kR E (dW E V L V.length).2 ((ax E V L T).getD (dK (ax E V L T) ((S.getD i.toNat []).getD 0 0)).toNat (0,[]))).toNat 0)) (b:=(g3.getD (kR E (dW E V L V.length).2 ((ax E V L T).getD (dK (ax E V L T) ((S.getD i.toNat []).getD m.toNat 0)).toNat (0,[]))).toNat 0)) j.toNat
    rw[<-j2] at EW
    have CG:j.toNat=g3.length:=by omega
    rw[CG] at j2
    refine go (pr:=(aX .i64 (m+1))) [] h bw fun _ _ h=>?_
    exact bZ (Fs (m+1) g4 (ir 10) h ⟨by omega,by omega,by exact(tu m0 GZ).trans ((if_neg hq8).trans (congrArg some j2.symm)),by omega⟩ (by omega))
   rw[show(m-1).toNat=(S.getD i.toNat []).length-1 by omega] at GZ
   refine go (pr:=(aX .i64 (i+1))) [] h bw fun _ _ h=>?_
   exact bZ (fQ (i+1) g3 mt (rk [0,1,2,3,4,5,7,8,9]) h ⟨by omega,by omega,by rw[ym s0 LF,uy s0 zy];rw[Fq];show(yT _ _ _ _).bind _=_;rw[GZ];rfl,hg3,GY⟩ (by omega))
  have zy:¬(((S.getD i.toNat []).length:Int)<2)/\(¬(0<i)\/¬((S.getD i.toNat []).getD 0 0<=(S.getD (i-1).toNat []).getD 0 0)):=⟨z1,.inl z2⟩
  refine go (pr:=(aV i S.length)/\(¬(((S.getD i.toNat []).length:Int)<2))/\(¬((0:Int)<i))) [(67,false),(70,false)] h ⟨bx,z1,z2⟩ fun _ _ h=>?_
  refine aK Int (List Int) (fun k mt=>⟨[(3,ep 0),(5,ep 1),(8,eo 2),(9,eo 3),(10,eo 4),(12,eo 5),(13,en i),(14,eo 6),(15,en k)],[(0,some (.box 24 [.v (.int .i64 n),.own 7])),(1,some (.box 30 [.own 8,.own 9])),(2,some (.ro (.pair .int (.list .int)) (ax E V L T))),(3,some (.ro fR ((dW E V L V.length).2))),(4,some (.row 3 .int g1)),(5,some (.row 3 .int mt)),(6,some (.ar .int (S.getD i.toNat []))),(7,some (.ar fA E)),(8,some (.ar (.list .int) T)),(9,some (.ar (.list .int) S))],10⟩) (fun k mt=>0<=k/\k<=((S.getD i.toNat []).length:Int)/\mX (ax E V L T) (S.getD i.toNat []) met k.toNat=some mt/\EL (ax E V L T) mt) (fun k mt=>(((S.getD i.toNat []).length:Int)-k).toNat) 0 met (rk [0,1,2,3,4,5,36873,6,7,8]) h ⟨Int.le_refl _,Int.natCast_nonneg _,rfl,hmI⟩ fun k mt _ _ _ hK6 hI h=>?_
  obtain⟨k0,k1,Fq,GY⟩:=hI
  refine aC [] h fun _ _ h=>?_
  refine ag h (fun(q12:k<((S.getD i.toNat []).length:Int))=>?_) (fun(q12:¬(k<((S.getD i.toNat []).length:Int)))=>?_)
  .have uS:=GY.len
   refine go (pr:=(aV k (S.getD i.toNat []).length)/\True/\((¬(dK (ax E V L T) ((S.getD i.toNat []).getD k.toNat 0)<0))->(aV k (S.getD i.toNat []).length))/\((¬(dK (ax E V L T) ((S.getD i.toNat []).getD k.toNat 0)<0))->True)/\(((¬(dK (ax E V L T) ((S.getD i.toNat []).getD k.toNat 0)<0))/\((decide (((S.getD i.toNat []).getD k.toNat 0)∈mt))=false))->((0:Int)<k)->(aV k (S.getD i.toNat []).length))/\(((¬(dK (ax E V L T) ((S.getD i.toNat []).getD k.toNat 0)<0))/\((decide (((S.getD i.toNat []).getD k.toNat 0)∈mt))=false))->((0:Int)<k)->(aX .i64 (k-1)))/\(((¬(dK (ax E V L T) ((S.getD i.toNat []).getD k.toNat 0)<0))/\((decide (((S.getD i.toNat []).getD k.toNat 0)∈mt))=false))->((0:Int)<k)->(aV (k-1) (S.getD i.toNat []).length))) [] h ⟨bx,tv,fun _=>bx,fun _=>trivial,fun _ _=>bx,fun _ _=>bw,fun _ _=>bx⟩ fun _ _ h=>?_
   refine ag h (fun(W9:((dK (ax E V L T) ((S.getD i.toNat []).getD k.toNat 0)<0)\/((decide (((S.getD i.toNat []).getD k.toNat 0)∈mt))=true))\/(((0:Int)<k)/\(((S.getD i.toNat []).getD k.toNat 0)<=((S.getD i.toNat []).getD (k-1).toNat 0))))=>?_) (fun(W9:((¬(dK (ax E V L T) ((S.getD i.toNat []).getD k.toNat 0)<0))/\((decide (((S.getD i.toNat []).getD k.toNat 0)∈mt))=false))/\((¬((0:Int)<k))\/(¬(((S.getD i.toNat []).getD k.toNat 0)<=((S.getD i.toNat []).getD (k-1).toNat 0)))))=>?_)
   .refine aC [] h fun _ _ h=>?_
    exact out (((7:Int):Int),()) h (by rw[iV zx zJ (qz s0 (by omega) LF (by rw[uy s0 zy];dsimp only;rw[ux (k:=(k+1).toNat) (by rw[qy k0 Fq];exact if_pos (W9.imp (fun w=>w.imp id of_decide_eq_true) id)) (by omega)];rfl))];rfl)
   refine go (pr:=(aV k (S.getD i.toNat []).length)/\(mt.length+([((S.getD i.toNat []).getD k.toNat 0)]:List Int).length<=2147483647)/\(aX .i64 (k+1))) [] h ⟨bx,ln,bw⟩ fun _ _ h=>?_
   exact bZ (hK6 (k+1) (mt++([((S.getD i.toNat []).getD k.toNat 0)]:List Int)) (rk [0,1,2,3,4,167946,6,7,8,9]) h ⟨by omega,by omega,by rw[qy k0 Fq];exact if_neg fun w=>w.elim (fun w=>w.elim W9.1.1 (of_decide_eq_false W9.1.2)) fun w=>W9.2.elim (fun z=>z w.1) fun z=>z w.2,GY.snoc W9.1.1 (of_decide_eq_false W9.1.2)⟩ (by omega))
  have ru:k.toNat=(S.getD i.toNat []).length:=by omega
  rw[ru] at Fq
  have hkf:=IM Fq
  refine aC [] h fun _ _ h=>?_
  refine aK Int (List Int) (fun m g3=>⟨[(3,ep 0),(5,ep 1),(8,eo 2),(9,eo 3),(10,eo 4),(12,eo 5),(13,en i),(14,eo 6),(16,en m)],[(0,some (.box 24 [.v (.int .i64 n),.own 7])),(1,some (.box 30 [.own 8,.own 9])),(2,some (.ro (.pair .int (.list .int)) (ax E V L T))),(3,some (.ro fR ((dW E V L V.length).2))),(4,some (.row 3 .int g3)),(5,some (.row 3 .int mt)),(6,some (.ar .int (S.getD i.toNat []))),(7,some (.ar fA E)),(8,some (.ar (.list .int) T)),(9,some (.ar (.list .int) S))],10⟩) (fun m g3=>1<=m/\m<=((S.getD i.toNat []).length:Int)/\yT (SL E (dW E V L V.length).2 (ax E V L T)) (S.getD i.toNat []) g1 (m-1).toNat=some g3/\g3.length=(dW E V L V.length).2.length) (fun m g3=>(((S.getD i.toNat []).length:Int)-m).toNat) 1 g1 (ir 10) h ⟨by omega,by omega,rfl,hgN⟩ fun m g3 _ _ _ hK7 hI h=>?_
  obtain⟨m0,m1,GZ,hg3⟩:=hI
  refine aC [] h fun _ _ h=>?_
  refine ag h (fun(q14:m<((S.getD i.toNat []).length:Int))=>?_) (fun(q14:¬(m<((S.getD i.toNat []).length:Int)))=>?_)
  .have f0:=hkf 0 (by omega)
   have f1:=hkf m.toNat (by omega)
   obtain⟨fb0,kd0,ob0,oc0⟩:=Ct hn hp vA hW f0
   obtain⟨fb1,kd1,ob1,oc1⟩:=Ct hn hp vA hW f1
   refine go (pr:=(aV (0:Int) (S.getD i.toNat []).length)/\True/\(aV (dK (ax E V L T) ((S.getD i.toNat []).getD 0 0)) (ax E V L T).length)/\(bz n/\-1000000<=((ax E V L T).getD (dK (ax E V L T) ((S.getD i.toNat []).getD 0 0)).toNat (0,[])).1/\((ax E V L T).getD (dK (ax E V L T) ((S.getD i.toNat []).getD 0 0)).toNat (0,[])).1<=1000000/\(0<=((ax E V L T).getD (dK (ax E V L T) ((S.getD i.toNat []).getD 0 0)).toNat (0,[])).1->((ax E V L T).getD (dK (ax E V L T) ((S.getD i.toNat []).getD 0 0)).toNat (0,[])).1/2<(E.length:Int)))/\(aV (kR E ((dW E V L V.length).2) ((ax E V L T).getD (dK (ax E V L T) ((S.getD i.toNat []).getD 0 0)).toNat (0,[]))) g3.length)/\(aV m (S.getD i.toNat []).length)/\True/\(aV (dK (ax E V L T) ((S.getD i.toNat []).getD m.toNat 0)) (ax E V L T).length)/\(bz n/\-1000000<=((ax E V L T).getD (dK (ax E V L T) ((S.getD i.toNat []).getD m.toNat 0)).toNat (0,[])).1/\((ax E V L T).getD (dK (ax E V L T) ((S.getD i.toNat []).getD m.toNat 0)).toNat (0,[])).1<=1000000/\(0<=((ax E V L T).getD (dK (ax E V L T) ((S.getD i.toNat []).getD m.toNat 0)).toNat (0,[])).1->((ax E V L T).getD (dK (ax E V L T) ((S.getD i.toNat []).getD m.toNat 0)).toNat (0,[])).1/2<(E.length:Int)))/\(aV (kR E ((dW E V L V.length).2) ((ax E V L T).getD (dK (ax E V L T) ((S.getD i.toNat []).getD m.toNat 0)).toNat (0,[]))) g3.length)) [] h ⟨bx,tv,bx,by assumption,bx,bx,tv,bx,by assumption,bx⟩ fun _ _ h=>?_
   refine ag h (fun(q15:(g3.getD (kR E ((dW E V L V.length).2) ((ax E V L T).getD (dK (ax E V L T) ((S.getD i.toNat []).getD 0 0)).toNat (0,[]))).toNat 0)=(g3.getD (kR E ((dW E V L V.length).2) ((ax E V L T).getD (dK (ax E V L T) ((S.getD i.toNat []).getD m.toNat 0)).toNat (0,[]))).toNat 0))=>?_) (fun(q15:¬((g3.getD (kR E ((dW E V L V.length).2) ((ax E V L T).getD (dK (ax E V L T) ((S.getD i.toNat []).getD 0 0)).toNat (0,[]))).toNat 0)=(g3.getD (kR E ((dW E V L V.length).2) ((ax E V L T).getD (dK (ax E V L T) ((S.getD i.toNat []).getD m.toNat 0)).toNat (0,[]))).toNat 0)))=>?_)
   .refine aC [] h fun _ _ h=>?_
    exact out (((7:Int):Int),()) h (by rw[iV zx zJ (qz s0 (by omega) LF (by rw[uy s0 zy];dsimp only;rw[Fq];show(yT _ _ _ _).bind _=_;rw[tq (k:=(m+1-1).toNat) ((tu m0 GZ).trans (if_pos q15)) (by omega)];rfl))];rfl)
   have hq8:=q15
   refine aC [] h fun _ _ h=>?_
   refine aK Int (List Int) (fun j g4=>⟨[(3,ep 0),(5,ep 1),(8,eo 2),(9,eo 3),(10,eo 4),(12,eo 5),(13,en i),(14,eo 6),(16,en m),(17,en (g3.getD (kR E ((dW E V L V.length).2) ((ax E V L T).getD (dK (ax E V L T) ((S.getD i.toNat []).getD 0 0)).toNat (0,[]))).toNat 0)),(18,en (g3.getD (kR E ((dW E V L V.length).2) ((ax E V L T).getD (dK (ax E V L T) ((S.getD i.toNat []).getD m.toNat 0)).toNat (0,[]))).toNat 0)),(19,en j)],[(0,some (.box 24 [.v (.int .i64 n),.own 7])),(1,some (.box 30 [.own 8,.own 9])),(2,some (.ro (.pair .int (.list .int)) (ax E V L T))),(3,some (.ro fR ((dW E V L V.length).2))),(4,some (.row 3 .int g4)),(5,some (.row 3 .int mt)),(6,some (.ar .int (S.getD i.toNat []))),(7,some (.ar fA E)),(8,some (.ar (.list .int) T)),(9,some (.ar (.list .int) S))],10⟩) (fun j g4=>0<=j/\j<=(g3.length:Int)/\g4=mW g3 (g3.getD (kR E (dW E V L V.length).2 ((ax E V L T).getD (dK (ax E V L T) ((S.getD i.toNat []).getD 0 0)).toNat (0,[]))).toNat 0) (g3.getD (kR E (dW E V L V.length).2 ((ax E V L T).getD (dK (ax E V L T) ((S.getD i.toNat []).getD m.toNat 0)).toNat (0,[]))).toNat 0) j.toNat) (fun j g4=>((g3.length:Int)-j).toNat) 0 g3 (ir 10) h ⟨Int.le_refl _,Int.natCast_nonneg _,rfl⟩ fun j g4 _ _ _ hK8 hI h=>?_
   obtain⟨j0,j1,j2⟩:=hI
   refine aC [] h fun _ _ h=>?_
   refine ag h (fun(q16:j<(g4.length:Int))=>?_) (fun(q16:¬(j<(g4.length:Int)))=>?_)
   .have EW:=jG (g:=g3) (a:=(g3.getD (kR E (dW E V L V.length).2 ((ax E V L T).getD (dK (ax E V L T) ((S.getD i.toNat []).getD 0 0)).toNat (0,[]))).toNat 0)) (b:=(g3.getD (kR E (dW E V L V.length).2 ((ax E V L T).getD (dK (ax E V L T) ((S.getD i.toNat []).getD m.toNat 0)).toNat (0,[]))).toNat 0)) j.toNat
    rw[<-j2] at EW
    refine go (pr:=(aV j g4.length)) [] h bx fun _ _ h=>?_
    refine ag h (fun(q17:(g4.getD j.toNat 0)=(g3.getD (kR E ((dW E V L V.length).2) ((ax E V L T).getD (dK (ax E V L T) ((S.getD i.toNat []).getD m.toNat 0)).toNat (0,[]))).toNat 0))=>?_) (fun(q17:¬((g4.getD j.toNat 0)=(g3.getD (kR E ((dW E V L V.length).2) ((ax E V L T).getD (dK (ax E V L T) ((S.getD i.toNat []).getD m.toNat 0)).toNat (0,[]))).toNat 0)))=>?_)
    .refine go (pr:=(aV j g4.length)/\(aV j g4.length)/\(aX .i64 (j+1))) [] h ⟨bx,bx,bw⟩ fun _ _ h=>?_
     exact bZ (hK8 (j+1) (g4.set j.toNat (g3.getD (kR E ((dW E V L V.length).2) ((ax E V L T).getD (dK (ax E V L T) ((S.getD i.toNat []).getD 0 0)).toNat (0,[]))).toNat 0)) (ir 10) h ⟨by omega,by omega,EK j0 j2 q17⟩ (by omega))
    refine go (pr:=(aX .i64 (j+1))) [] h bw fun _ _ h=>?_
    exact bZ (hK8 (j+1) g4 (ir 10) h ⟨by omega,by omega,IL j0 j2 q17⟩ (by omega))
   have EW:=jG (g:=g3) (a:=(g3.getD (kR E (dW E V L V.length).2 ((ax E V L T).getD (dK (ax E V L T) ((S.getD i.toNat []).getD 0 0)).toNat (0,[]))).toNat 0)) (b:=(g3.getD (kR E (dW E V L V.length).2 ((ax E V L T).getD (dK (ax E V L T) ((S.getD i.toNat []).getD m.toNat 0)).toNat (0,[]))).toNat 0)) j.toNat
   rw[<-j2] at EW
   have CG:j.toNat=g3.length:=by omega
   rw[CG] at j2
   refine go (pr:=(aX .i64 (m+1))) [] h bw fun _ _ h=>?_
   exact bZ (hK7 (m+1) g4 (ir 10) h ⟨by omega,by omega,by exact(tu m0 GZ).trans ((if_neg hq8).trans (congrArg some j2.symm)),by omega⟩ (by omega))
  rw[show(m-1).toNat=(S.getD i.toNat []).length-1 by omega] at GZ
  refine go (pr:=(aX .i64 (i+1))) [] h bw fun _ _ h=>?_
  exact bZ (fQ (i+1) g3 mt (rk [0,1,2,3,4,5,7,8,9]) h ⟨by omega,by omega,by rw[ym s0 LF,uy s0 zy];rw[Fq];show(yT _ _ _ _).bind _=_;rw[GZ];rfl,hg3,GY⟩ (by omega))
 have Xa:i.toNat=S.length:=by omega
 rw[Xa] at LF
 refine aC [] h fun _ _ h=>?_
 refine go_loop (Int) (fun e=>⟨[(10,eo 0),(20,en e)],[(0,some (.row 3 .int g1))],1⟩) (fun e=>0<=e/\e<=(g1.length:Int)/\∀j:Nat,(j:Int)<e->g1.getD j 0=g1.getD 0 0) (fun e=>((g1.length:Int)-e).toNat) (0) (rk [4]) h ⟨Int.le_refl _,Int.natCast_nonneg _,fun j hj=>by omega⟩ fun e _ _ _ hK9 hI h=>?_
 obtain⟨e0,e1,e2⟩:=hI
 refine aC [] h fun _ _ h=>?_
 refine ag h (fun(q18:e<(g1.length:Int))=>?_) (fun(q18:¬(e<(g1.length:Int)))=>?_)
 .refine go (pr:=(aV e g1.length)/\(aV (0:Int) g1.length)) [] h ⟨bx,bx⟩ fun _ _ h=>?_
  refine ag h (fun(q19:¬((g1.getD e.toNat 0)=(g1.getD 0 0)))=>?_) (fun(q19:(g1.getD e.toNat 0)=(g1.getD 0 0))=>?_)
  .refine aC [] h fun _ _ h=>?_
   exact out (((7:Int):Int),()) h (by rw[iV zx zJ LF];exact congrArg (·,()) (SN (g:=g1) e0 (by omega) q19))
  refine go (pr:=(aX .i64 (e+1))) [] h bw fun _ _ h=>?_
  exact bZ (hK9 (e+1) (ir 1) h ⟨by omega,by omega,fun j hj=>if z:(j:Int)<e then e2 j z else by rw[show j=e.toNat by omega];exact q19⟩ (by omega))
 refine aC [] h fun _ _ h=>?_
 exact out (((0:Int):Int),()) h (by rw[iV zx zJ LF];exact congrArg (·,()) (SO (g:=g1) (i:=e) (by omega) e2))
def Bd:cE Tryz.prog:=plain La
theorem Tg:aS Tryz.prog 99 [(false,gX),(false,fR),(true,(.pair (.list (.list .int)) (.list (.list .int)))),(false,.int)] [.int] (fun x=>bz (I_ x.1.1)/\av (K_ x.2.2.1.1)/\aA (I_ x.1.1) (E_ x.1.2) (J_ x.2.1.1) (J_ x.2.1.2)=0/\bW (I_ x.1.1) (E_ x.1.2) (J_ x.2.1.2) (K_ x.2.2.1.1)/\av (K_ x.2.2.1.2)/\∀l∈(K_ x.2.2.1.2),l≠[]) (fun x=>(OH (ax (E_ x.1.2) (J_ x.2.1.1) (J_ x.2.1.2) (K_ x.2.2.1.1)) (sg (K_ x.2.2.1.2) (ax (E_ x.1.2) (J_ x.2.1.1) (J_ x.2.1.2) (K_ x.2.2.1.1)) (ax (E_ x.1.2) (J_ x.2.1.1) (J_ x.2.1.2) (K_ x.2.2.1.1)).length) (I_ x.2.2.2.1),())):=by
 refine aF Tryz.f99 42 [mZ,lI,W5,Tf] Tryz.func99 fun o x hd _ _ h=>?_
 obtain⟨⟨(n:Int),(E:List (Int×Int))⟩,⟨(V:List Int),(L:List Int)⟩,⟨(T:List (List Int)),(S:List (List Int))⟩,(d:Int),_⟩:=x
 have e7:=gL h 0 E
 have eZ:=cg h 1 V
 have fS:=cg h 2 L
 have jm:=eP h 3 T
 have tE:=eP h 4 S
 change bz n/\av T/\aA n E V L=0/\bW n E L T/\av S/\∀l∈S,l≠[] at hd
 obtain⟨hn,cw,hp,hT,cS,LD⟩:=hd
 obtain⟨jZ,hV,hL,_⟩:=aD hp
 obtain⟨r1,r2,r3,_⟩:=aN jZ
 have zw:=ay hV r1
 have vf:=ay hL (by omega)
 have nk:=gD hp hT
 have Jj:=gq nk
 obtain⟨_,_,hW⟩:=bS (V:=V) (by rw[fH nk]:(aa n E V L T).2=0)
 rw[<-Jj] at hW
 have K9:=tc hp
 have vA:=fo hp
 rw[<-K9] at vA
 have Jk:=vA.len
 have GK:=hW.len
 have IS:=Cl (S:=S) (W:=(ax E V L T)) (ax E V L T).length
 refine go (pr:=(bz n/\av T/\aA n E V L=0/\bW n E L T)/\True/\(bz n/\av T/\aA n E V L=0/\bW n E L T/\av S/\∀l∈S,l≠[])) [] h ⟨⟨hn,cw,hp,hT⟩,tv,⟨hn,cw,hp,hT,cS,LD⟩⟩ fun _ _ h=>?_
 refine go_loop (Int) (fun i=>⟨[(10,en ((qL (ax E V L T) d).1)),(12,eo 0),(13,en i)],[(0,some (.ro (.list .int) (sg S (ax E V L T) (ax E V L T).length)))],1⟩) (fun i=>0<=i/\i<=((sg S (ax E V L T) (ax E V L T).length).length:Int)/\∀j:Nat,(j:Int)<i->decide ((qL (ax E V L T) d).1∈(sg S (ax E V L T) (ax E V L T).length).getD j [])=false) (fun i=>(((sg S (ax E V L T) (ax E V L T).length).length:Int)-i).toNat) (0) (rk [86021]) h ⟨Int.le_refl _,Int.natCast_nonneg _,fun j hj=>by omega⟩ fun i _ _ _ cq hI h=>?_
 obtain⟨i0,i1,i2⟩:=hI
 refine aC [] h fun _ _ h=>?_
 refine ag h (fun(q1:i<((sg S (ax E V L T) (ax E V L T).length).length:Int))=>?_) (fun(q1:¬(i<((sg S (ax E V L T) (ax E V L T).length).length:Int)))=>?_)
 .refine go (pr:=(aV i (sg S (ax E V L T) (ax E V L T).length).length)/\True) [] h ⟨bx,tv⟩ fun _ _ h=>?_
  refine ag h (fun(q2:(decide ((qL (ax E V L T) d).1∈((sg S (ax E V L T) (ax E V L T).length).getD i.toNat [])))=true)=>?_) (fun(q2:(decide ((qL (ax E V L T) d).1∈((sg S (ax E V L T) (ax E V L T).length).getD i.toNat [])))=false)=>?_)
  .refine aC [] h fun _ _ h=>?_
   exact out ((i:Int),()) h (by rw[Sw i0 (by omega) q2 i2])
  refine go (pr:=(aX .i64 (i+1))) [] h bw fun _ _ h=>?_
  exact bZ (cq (i+1) (ir 1) h ⟨by omega,by omega,fun j hj=>if z:(j:Int)<i then i2 j z else by rw[show j=i.toNat by omega];exact q2⟩ (by omega))
 refine aC [] h fun _ _ h=>?_
 exact out (((-1:Int):Int),()) h (by rw[We (i:=i) (by omega) i2])
def Jl:cE Tryz.prog:=plain Tg
theorem aac:aS Tryz.prog 100 [(false,(.list .int)),(false,.int)] [.bool] (fun x=> ∀d∈(J_ x.1),0<=d/\d<=1000000) (fun x=>(Cm (J_ x.1) (I_ x.2.1),())):=by
 refine aF Tryz.f100 19 [] Tryz.func100 fun o x hd _ _ h=>?_
 obtain⟨(ds:List Int),(e:Int),_⟩:=x
 have e7:=cg h 0 ds
 change ∀d∈ds,0<=d/\d<=1000000 at hd
 refine aC [] h fun _ _ h=>?_
 refine go_loop (Int) (fun i=>⟨[(0,eo 0),(1,en e),(5,en i)],[(0,some (.ar .int ds))],1⟩) (fun i=>0<=i/\i<=(ds.length:Int)/\∀j:Nat,(j:Int)<i->¬ds.getD j 0/2=e) (fun i=>((ds.length:Int)-i).toNat) (0) (ir 1) h ⟨Int.le_refl _,Int.natCast_nonneg _,fun j hj=>by omega⟩ fun i _ _ _ cq hI h=>?_
 obtain⟨i0,i1,i2⟩:=hI
 refine aC [] h fun _ _ h=>?_
 refine ag h (fun(q1:i<(ds.length:Int))=>?_) (fun(q1:¬(i<(ds.length:Int)))=>?_)
 .have vn:=hd _ (af (l:=ds) (i:=i.toNat) (d:=0) (by omega))
  refine go (pr:=(aV i ds.length)/\(0<=(ds.getD i.toNat 0)/\0<(2:Int)/\aX .i64 (ds.getD i.toNat 0))) [] h ⟨bx,⟨by omega,by omega,⟨by omega,by omega⟩⟩⟩ fun _ _ h=>?_
  refine ag h (fun(q2:(ds.getD i.toNat 0)/2=e)=>?_) (fun(q2:¬((ds.getD i.toNat 0)/2=e))=>?_)
  .refine aC [] h fun _ _ h=>?_
   exact out ((true:Bool),()) h (by rw[Sz i0 (by omega) q2])
  refine go (pr:=(aX .i64 (i+1))) [] h bw fun _ _ h=>?_
  exact bZ (cq (i+1) (ir 1) h ⟨by omega,by omega,fun j hj=>if z:(j:Int)<i then i2 j z else by rw[show j=i.toNat by omega];exact q2⟩ (by omega))
 refine aC [] h fun _ _ h=>?_
 exact out ((false:Bool),()) h (by rw[Wf (i:=i) (by omega) i2])
def aad:cE Tryz.prog:=plain aac
theorem Lb:aS Tryz.prog 55 [(false,gX),(false,(.pair .int (.list .int)))] [(.list (.list .int))] (fun x=>bz (I_ x.1.1)/\((E_ x.1.2).length:Int)<=1024/\(J_ x.2.1.2).length<=100000/\∀d∈(J_ x.2.1.2),-9223372036854775808<=d/\d<=9223372036854775807) (fun x=>(OI (E_ x.1.2) (J_ x.2.1.2),())):=by
 refine aF Tryz.f55 103 [SH,qx,Cq] Tryz.func55 fun o x hd _ _ h=>?_
 obtain⟨⟨(n:Int),(E:List (Int×Int))⟩,⟨(q:Int),(ds:List Int)⟩,_⟩:=x
 have e7:=gL h 0 E
 have eZ:=cg h 1 ds
 change bz n/\(E.length:Int)<=1024/\ds.length<=100000/\∀d∈ds,-9223372036854775808<=d/\d<=9223372036854775807 at hd
 obtain⟨hn,hE,oG,Al⟩:=hd
 refine aC [] h fun _ _ h=>?_
 refine go_loop (Int) (fun i=>⟨[(2,ep 0),(3,ep 1),(5,some ⟨[],.one (.v (.slice none 0 0))⟩),(6,some ⟨[],.one (.v (.slice none 0 0))⟩),(7,en i)],[(0,some (.box 24 [.v (.int .i64 n),.own 2])),(1,some (.box 88 [.v (.int .i64 q),.own 3])),(2,some (.ar fA E)),(3,some (.ar .int ds))],4⟩) (fun i=>0<=i/\i<=(ds.length:Int)/\∀j:Nat,(j:Int)<i->zk E (ds.getD j 0)) (fun i=>((ds.length:Int)-i).toNat) (0) (rk [2,4098,0,1]) h ⟨Int.le_refl _,Int.natCast_nonneg _,fun j hj=>by omega⟩ fun i _ _ _ cq hI h=>?_
 obtain⟨i0,i1,i2⟩:=hI
 refine aC [] h fun _ _ h=>?_
 refine ag h (fun(q1:i<(ds.length:Int))=>?_) (fun(q1:¬(i<(ds.length:Int)))=>?_)
 .have vn:=Al _ (af (l:=ds) (i:=i.toNat) (d:=0) (by omega))
  refine go (pr:=(aV i ds.length)/\((¬((ds.getD i.toNat 0)<0))->(aV i ds.length))/\((¬((ds.getD i.toNat 0)<0))->(0<=(ds.getD i.toNat 0)/\0<(2:Int)/\aX .i64 (ds.getD i.toNat 0)))) [] h ⟨bx,fun _=>bx,fun _=>⟨by omega,by omega,⟨by omega,by omega⟩⟩⟩ fun _ _ h=>?_
  refine ag h (fun(q2:((ds.getD i.toNat 0)<0)\/((E.length:Int)<=(ds.getD i.toNat 0)/2))=>?_) (fun(q2:(¬((ds.getD i.toNat 0)<0))/\(¬((E.length:Int)<=(ds.getD i.toNat 0)/2)))=>?_)
  .refine aC [] h fun _ _ h=>?_
   exact out (([]:List (List Int)),()) h (by unfold OI;rw[if_neg fun q=>absurd (q _ (af (l:=ds) (i:=i.toNat) (d:=0) (by omega))) (fun w=>by have w:zk E (ds.getD i.toNat 0):=w;have w0:=w.1;have w1:=w.2;have:=q2;omega)])
  refine go (pr:=(aX .i64 (i+1))) [] h bw fun _ _ h=>?_
  exact bZ (cq (i+1) (ir 4) h ⟨by omega,by omega,fun j hj=>if z:(j:Int)<i then i2 j z else by rw[show j=i.toNat by omega];exact(show zk E (ds.getD i.toNat 0) from⟨by omega,by omega⟩)⟩ (by omega))
 have eE:∀d∈ds,zk E d:=yf (i:=i) (by omega) i2
 refine aC [] h fun _ _ h=>?_
 refine fB Int (List Int) (List (List Int)) (fun i gone ou=>⟨[(2,ep 0),(3,ep 1),(5,eo 2),(6,eo 3),(8,en i)],[(0,some (.box 24 [.v (.int .i64 n),.own 4])),(1,some (.box 88 [.v (.int .i64 q),.own 5])),(2,some (.row 25 (.list .int) ou)),(3,some (.row 3 .int gone)),(4,some (.ar fA E)),(5,some (.ar .int ds))],6⟩) (fun i gone ou=>0<=i/\i<=(ds.length:Int)/\(gone,ou)=Cj E ds i.toNat) (fun i gone ou=>((ds.length:Int)-i).toNat) 0 [] [] [(0,some 0),(1,some 1),(2,none),(3,none),(4,some 2),(5,some 3)] h ⟨Int.le_refl _,Int.natCast_nonneg _,rfl⟩ fun i gone ou _ _ _ fQ hI h=>?_
 obtain⟨i0,i1,i2⟩:=hI
 refine aC [] h fun _ _ h=>?_
 refine ag h (fun(q3:i<(ds.length:Int))=>?_) (fun(q3:¬(i<(ds.length:Int)))=>?_)
 .have Xb:=(wj (E:=E) (ds:=ds) i.toNat (by omega)).1
  rw[<-i2] at Xb
  change ∀x∈gone,x∈ds at Xb
  have EW:=qw (E:=E) (ds:=ds) i.toNat
  rw[<-i2] at EW
  change gone.length<=i.toNat/\ou.length<=i.toNat at EW
  have Xc:=eE _ (af (l:=ds) (i:=i.toNat) (d:=0) (by omega))
  have abm:=Xc.1
  have abn:=Xc.2
  have LG:∀d∈(gone++[(ds.getD i.toNat 0)]),zk E d/\d<=1000000:=fun d hd=>by
   have h1:zk E d:=(List.mem_append.1 hd).elim (fun q=>eE _ (Xb _ q)) fun q=>by rw[List.mem_singleton.1 q];exact Xc
   have h2:=h1.2;exact⟨h1,by omega⟩
  have CP:(gone++[(ds.getD i.toNat 0)]).length=gone.length+1:=by simp
  by_cases z1:∃j,j<(gone++[(ds.getD i.toNat 0)]).length/\ak E ((gone++[(ds.getD i.toNat 0)]).getD j 0)=(ak E (aq (ds.getD i.toNat 0)))
  .obtain⟨jj,z2,z3⟩:=z1
   refine go (pr:=(aV i ds.length)/\(gone.length+([(ds.getD i.toNat 0)]:List Int).length<=2147483647)) [] h ⟨bx,ln⟩ fun _ _ h=>?_
   refine go_loop (Int) (fun k=>⟨[(2,ep 0),(3,ep 1),(5,eo 2),(6,eo 3),(8,en i),(9,en (ds.getD i.toNat 0)),(10,en k)],[(0,some (.box 24 [.v (.int .i64 n),.own 4])),(1,some (.box 88 [.v (.int .i64 q),.own 5])),(2,some (.row 25 (.list .int) ou)),(3,some (.ro .int (gone++[(ds.getD i.toNat 0)]))),(4,some (.ar fA E)),(5,some (.ar .int ds))],6⟩) (fun k=>0<=k/\k<=((gone++[(ds.getD i.toNat 0)]).length:Int)/\∀j:Nat,(j:Int)<k->¬ak E ((gone++[(ds.getD i.toNat 0)]).getD j 0)=(ak E (aq (ds.getD i.toNat 0)))) (fun k=>(((gone++[(ds.getD i.toNat 0)]).length:Int)-k).toNat) (0) (rk [0,1,2,57350,4,5]) h ⟨Int.le_refl _,Int.natCast_nonneg _,fun j hj=>by omega⟩ fun k _ _ _ sj hI h=>?_
   obtain⟨k0,k1,k2⟩:=hI
   refine go (pr:=((k<((gone++[(ds.getD i.toNat 0)]).length:Int))->(aV k (gone++[(ds.getD i.toNat 0)]).length))/\((k<((gone++[(ds.getD i.toNat 0)]).length:Int))->(bz n/\0<=((gone++[(ds.getD i.toNat 0)]).getD k.toNat 0)/\((gone++[(ds.getD i.toNat 0)]).getD k.toNat 0)/2<(E.length:Int)/\((gone++[(ds.getD i.toNat 0)]).getD k.toNat 0)<=1000000))/\((k<((gone++[(ds.getD i.toNat 0)]).length:Int))->(bz n/\0<=(ds.getD i.toNat 0)/\(ds.getD i.toNat 0)/2<(E.length:Int)/\(ds.getD i.toNat 0)<=999999))) [] h ⟨fun _=>bx,fun _=>⟨hn,(LG _ (af (by omega))).1.1,(LG _ (af (by omega))).1.2,(LG _ (af (by omega))).2⟩,fun _=>⟨hn,by omega,by omega,by omega⟩⟩ fun _ _ h=>?_
   refine ag h (fun(q4:(k<((gone++[(ds.getD i.toNat 0)]).length:Int))/\(¬(ak E ((gone++[(ds.getD i.toNat 0)]).getD k.toNat 0)=ak E (aq (ds.getD i.toNat 0)))))=>?_) (fun(q4:(¬(k<((gone++[(ds.getD i.toNat 0)]).length:Int)))\/(ak E ((gone++[(ds.getD i.toNat 0)]).getD k.toNat 0)=ak E (aq (ds.getD i.toNat 0))))=>?_)
   .refine go (pr:=(aX .i64 (k+1))) [] h bw fun _ _ h=>?_
    exact bZ (sj (k+1) (ir 6) h ⟨by omega,by omega,fun j hj=>if z:(j:Int)<k then k2 j z else by rw[show j=k.toNat by omega];exact q4.2⟩ (by omega))
   have LH:k<((gone++[(ds.getD i.toNat 0)]).length:Int):=Int.not_le.1 fun z=>k2 jj (by omega) z3
   have JV:cL E (ak E (aq (ds.getD i.toNat 0))) (gone++[(ds.getD i.toNat 0)])=k:=EF k0 LH (q4.resolve_left fun z=>z LH) k2
   have hdb:=IC (B:=1000000) (by decide) (fun d hd=>⟨(LG d hd).1.1,(LG d hd).2⟩) k.toNat 1
   have vj:((gone++[(ds.getD i.toNat 0)]).drop k.toNat).length<=(gone++[(ds.getD i.toNat 0)]).length:=by rw[List.length_drop];omega
   refine aC [] h fun _ _ h=>?_
   refine ag h (fun(q5:k=((gone++[(ds.getD i.toNat 0)]).length:Int))=>?_) (fun(q5:¬(k=((gone++[(ds.getD i.toNat 0)]).length:Int)))=>?_)
   .exact absurd q5 (by omega)
   refine go (pr:=(0<=k/\k<=((gone++[(ds.getD i.toNat 0)]).length:Int))/\(([]:List Int).length+((gone++[(ds.getD i.toNat 0)]).drop k.toNat).length<=2147483647)/\(((((gone++[(ds.getD i.toNat 0)]).drop k.toNat).length:Int)=2)->(aV (0:Int) ((gone++[(ds.getD i.toNat 0)]).drop k.toNat).length))/\(((((gone++[(ds.getD i.toNat 0)]).drop k.toNat).length:Int)=2)->(aV (1:Int) ((gone++[(ds.getD i.toNat 0)]).drop k.toNat).length))/\(((((gone++[(ds.getD i.toNat 0)]).drop k.toNat).length:Int)=2)->(0<=(((gone++[(ds.getD i.toNat 0)]).drop k.toNat).getD 1 0)/\(((gone++[(ds.getD i.toNat 0)]).drop k.toNat).getD 1 0)<=1000000))) [] h ⟨ct,ln,fun _=>bx,fun _=>bx,fun _=>⟨by omega,by omega⟩⟩ fun _ _ h=>?_
   refine ag h (fun(q6:(¬((((gone++[(ds.getD i.toNat 0)]).drop k.toNat).length:Int)=2))\/(¬((((gone++[(ds.getD i.toNat 0)]).drop k.toNat).getD 0 0)=aq (((gone++[(ds.getD i.toNat 0)]).drop k.toNat).getD 1 0))))=>?_) (fun(q6:((((gone++[(ds.getD i.toNat 0)]).drop k.toNat).length:Int)=2)/\((((gone++[(ds.getD i.toNat 0)]).drop k.toNat).getD 0 0)=aq (((gone++[(ds.getD i.toNat 0)]).drop k.toNat).getD 1 0)))=>?_)
   .refine go (pr:=(ou.length+([((gone++[(ds.getD i.toNat 0)]).drop k.toNat)]:List (List Int)).length<=2147483647)/\(0<=k/\k<=((gone++[(ds.getD i.toNat 0)]).length:Int))/\(([]:List Int).length+((gone++[(ds.getD i.toNat 0)]).take k.toNat).length<=2147483647)/\(aX .i64 (i+1))) [] h ⟨ln,ct,ln,bw⟩ fun _ _ h=>?_
    exact bZ (fQ (i+1) (([]:List Int)++((gone++[(ds.getD i.toNat 0)]).take k.toNat)) (ou++([((gone++[(ds.getD i.toNat 0)]).drop k.toNat)]:List (List Int))) (rk [0,1,176134,200710,4,5]) h ⟨by omega,by omega,by rw[mU i0,<-i2];have e:=IE (E:=E) (gone:=gone) (out:=ou) (d:=(ds.getD i.toNat 0)) (by rw[JV];omega) (by rw[JV];exact q6);rw[JV] at e;exact e.symm⟩ (by omega))
   refine go (pr:=(0<=k/\k<=((gone++[(ds.getD i.toNat 0)]).length:Int))/\(([]:List Int).length+((gone++[(ds.getD i.toNat 0)]).take k.toNat).length<=2147483647)/\(aX .i64 (i+1))) [] h ⟨ct,ln,bw⟩ fun _ _ h=>?_
   exact bZ (fQ (i+1) (([]:List Int)++((gone++[(ds.getD i.toNat 0)]).take k.toNat)) ou (rk [0,1,2,180230,4,5]) h ⟨by omega,by omega,by rw[mU i0,<-i2];have e:=OF (E:=E) (gone:=gone) (out:=ou) (d:=(ds.getD i.toNat 0)) (by rw[JV];omega) (by rw[JV];exact q6);rw[JV] at e;exact e.symm⟩ (by omega))
  refine go (pr:=(aV i ds.length)/\(gone.length+([(ds.getD i.toNat 0)]:List Int).length<=2147483647)) [] h ⟨bx,ln⟩ fun _ _ h=>?_
  refine go_loop (Int) (fun k=>⟨[(2,ep 0),(3,ep 1),(5,eo 2),(6,eo 3),(8,en i),(9,en (ds.getD i.toNat 0)),(10,en k)],[(0,some (.box 24 [.v (.int .i64 n),.own 4])),(1,some (.box 88 [.v (.int .i64 q),.own 5])),(2,some (.row 25 (.list .int) ou)),(3,some (.row 3 .int (gone++[(ds.getD i.toNat 0)]))),(4,some (.ar fA E)),(5,some (.ar .int ds))],6⟩) (fun k=>0<=k/\k<=((gone++[(ds.getD i.toNat 0)]).length:Int)/\∀j:Nat,(j:Int)<k->¬ak E ((gone++[(ds.getD i.toNat 0)]).getD j 0)=(ak E (aq (ds.getD i.toNat 0)))) (fun k=>(((gone++[(ds.getD i.toNat 0)]).length:Int)-k).toNat) (0) (rk [0,1,2,57350,4,5]) h ⟨Int.le_refl _,Int.natCast_nonneg _,fun j hj=>by omega⟩ fun k _ _ _ Fs hI h=>?_
  obtain⟨k0,k1,k2⟩:=hI
  refine go (pr:=((k<((gone++[(ds.getD i.toNat 0)]).length:Int))->(aV k (gone++[(ds.getD i.toNat 0)]).length))/\((k<((gone++[(ds.getD i.toNat 0)]).length:Int))->(bz n/\0<=((gone++[(ds.getD i.toNat 0)]).getD k.toNat 0)/\((gone++[(ds.getD i.toNat 0)]).getD k.toNat 0)/2<(E.length:Int)/\((gone++[(ds.getD i.toNat 0)]).getD k.toNat 0)<=1000000))/\((k<((gone++[(ds.getD i.toNat 0)]).length:Int))->(bz n/\0<=(ds.getD i.toNat 0)/\(ds.getD i.toNat 0)/2<(E.length:Int)/\(ds.getD i.toNat 0)<=999999))) [] h ⟨fun _=>bx,fun _=>⟨hn,(LG _ (af (by omega))).1.1,(LG _ (af (by omega))).1.2,(LG _ (af (by omega))).2⟩,fun _=>⟨hn,by omega,by omega,by omega⟩⟩ fun _ _ h=>?_
  refine ag h (fun(q7:(k<((gone++[(ds.getD i.toNat 0)]).length:Int))/\(¬(ak E ((gone++[(ds.getD i.toNat 0)]).getD k.toNat 0)=ak E (aq (ds.getD i.toNat 0)))))=>?_) (fun(q7:(¬(k<((gone++[(ds.getD i.toNat 0)]).length:Int)))\/(ak E ((gone++[(ds.getD i.toNat 0)]).getD k.toNat 0)=ak E (aq (ds.getD i.toNat 0))))=>?_)
  .refine go (pr:=(aX .i64 (k+1))) [] h bw fun _ _ h=>?_
   exact bZ (Fs (k+1) (ir 6) h ⟨by omega,by omega,fun j hj=>if z:(j:Int)<k then k2 j z else by rw[show j=k.toNat by omega];exact q7.2⟩ (by omega))
  have ru:k=((gone++[(ds.getD i.toNat 0)]).length:Int):=q7.elim (fun z=>by omega) fun z=>Classical.byContradiction fun w=>z1 ⟨k.toNat,by omega,z⟩
  have JV:cL E (ak E (aq (ds.getD i.toNat 0))) (gone++[(ds.getD i.toNat 0)])= -1:=IB fun j hj=>k2 j (by omega)
  refine aC [] h fun _ _ h=>?_
  refine ag h (fun(q8:k=((gone++[(ds.getD i.toNat 0)]).length:Int))=>?_) (fun(q8:¬(k=((gone++[(ds.getD i.toNat 0)]).length:Int)))=>?_)
  .refine go (pr:=(aX .i64 (i+1))) [] h bw fun _ _ h=>?_
   exact bZ (fQ (i+1) (gone++[(ds.getD i.toNat 0)]) ou (ir 6) h ⟨by omega,by omega,by rw[mU i0,<-i2];exact(ID (by rw[JV];decide)).symm⟩ (by omega))
  exact(q8 ru).elim
 have oz:i.toNat=ds.length:=by omega
 rw[oz] at i2
 refine aC [] h fun _ _ h=>?_
 exact out ((ou:List (List Int)),()) h (by unfold OI;rw[if_pos eE,<-i2])
def Lc:cE Tryz.prog:=plain Lb
theorem G0:aS Tryz.prog 27 [(false,(.pair gX (.pair fR (.pair (.list (.list .int)) (.list (.list .int))))))] [.int] (fun x=>bz (I_ x.1.1.1)/\av (K_ x.1.2.2.1)/\av (K_ x.1.2.2.2)) (fun x=>(tD (I_ x.1.1.1) (E_ x.1.1.2) (J_ x.1.2.1.1) (J_ x.1.2.1.2) (K_ x.1.2.2.1) (K_ x.1.2.2.2),())):=by
 refine aF Tryz.f27 17 [Bd,EH] Tryz.func27 fun o x hd _ _ h=>?_
 obtain⟨⟨⟨(n:Int),(E:List (Int×Int))⟩,⟨⟨(V:List Int),(L:List Int)⟩,⟨(T:List (List Int)),(S:List (List Int))⟩⟩⟩,_⟩:=x
 have e7:=gL h 0 E
 have eZ:=cg h 1 V
 have fS:=cg h 2 L
 have jm:=eP h 3 T
 have tE:=eP h 4 S
 change bz n/\av T/\av S at hd
 obtain⟨hn,cw,cS⟩:=hd
 refine go (pr:=(bz n)) [] h hn fun _ _ h=>?_
 refine ag h (fun(q1:¬(bh n E=0))=>?_) (fun(q1:bh n E=0)=>?_)
 .refine aC [] h fun _ _ h=>?_
  exact out ((bh n E:Int),()) h (by unfold tD;rw[if_pos q1])
 refine go (pr:=(bz n/\av T/\av S)) [] h (⟨hn,cw,cS⟩) fun _ _ h=>?_
 exact out ((pK n E V L T S:Int),()) h (by unfold tD;rw[if_neg (by rw[show bh n E=0 from q1];exact fun q=>q rfl)])
def G2:cE Tryz.prog:=plain G0
theorem aae:aS Tryz.prog 10 [(false,(.pair gX (.pair fR (.pair (.list (.list .int)) (.list (.list .int)))))),(false,(.pair (.list (.list .int)) (.list (.list .int))))] [.int] (fun x=>bz (I_ x.1.1.1)/\av (K_ x.1.2.2.1)/\av (K_ x.1.2.2.2)/\av (K_ x.2.1.1)/\av (K_ x.2.1.2)) (fun x=>(zq (I_ x.1.1.1) (E_ x.1.1.2) (J_ x.1.2.1.1) (J_ x.1.2.1.2) (K_ x.1.2.2.1) (K_ x.1.2.2.2) (K_ x.2.1.1) (K_ x.2.1.2),())):=by
 refine aF Tryz.f10 18 [G2,Bd,yj] Tryz.func10 fun o x hd _ _ h=>?_
 obtain⟨⟨⟨(n:Int),(E:List (Int×Int))⟩,⟨⟨(V:List Int),(L:List Int)⟩,⟨(T:List (List Int)),(S:List (List Int))⟩⟩⟩,⟨(U:List (List Int)),(R:List (List Int))⟩,_⟩:=x
 have e7:=gL h 0 E
 have eZ:=cg h 1 V
 have fS:=cg h 2 L
 have jm:=eP h 3 T
 have tE:=eP h 4 S
 have GX:=eP h 5 U
 have QN:=eP h 6 R
 change bz n/\av T/\av S/\av U/\av R at hd
 obtain⟨hn,cw,cS,jN,lX⟩:=hd
 refine go (pr:=(bz n/\av T/\av S)) [] h (⟨hn,cw,cS⟩) fun _ _ h=>?_
 refine ag h (fun(q1:¬(tD n E V L T S=0))=>?_) (fun(q1:tD n E V L T S=0)=>?_)
 .refine aC [] h fun _ _ h=>?_
  exact out ((tD n E V L T S:Int),()) h (by unfold zq;rw[if_pos q1])
 obtain⟨r1,r2,r3,_⟩:=aN (Ba q1)
 refine go (pr:=(bz n/\n<=1000000/\E.length<=1000000)/\(bz n/\av U/\av R)) [] h ⟨⟨hn,by omega,by omega⟩,⟨hn,jN,lX⟩⟩ fun _ _ h=>?_
 exact out ((pK n E (upto n) (upto (E.length:Int)) U R:Int),()) h (by unfold zq;rw[if_neg (by rw[show tD n E V L T S=0 from q1];exact fun q=>q rfl)])
def aaf:cE Tryz.prog:=plain aae
theorem Th:aS Tryz.prog 31 [(false,gX),(false,fR),(false,(.pair (.list (.list .int)) (.list (.list .int))))] [(.list (.list .int))] (fun x=>bz (I_ x.1.1)/\av (K_ x.2.2.1.1)/\aA (I_ x.1.1) (E_ x.1.2) (J_ x.2.1.1) (J_ x.2.1.2)=0/\bW (I_ x.1.1) (E_ x.1.2) (J_ x.2.1.2) (K_ x.2.2.1.1)) (fun x=>(eu (E_ x.1.2) (J_ x.2.1.1) (J_ x.2.1.2) (K_ x.2.2.1.1),())):=by
 refine aF Tryz.f31 30 [mZ,Lc] Tryz.func31 fun o x hd _ _ h=>?_
 obtain⟨⟨(n:Int),(E:List (Int×Int))⟩,⟨(V:List Int),(L:List Int)⟩,⟨(T:List (List Int)),(S:List (List Int))⟩,_⟩:=x
 have e7:=gL h 0 E
 have eZ:=cg h 1 V
 have fS:=cg h 2 L
 have jm:=eP h 3 T
 have tE:=eP h 4 S
 change bz n/\av T/\aA n E V L=0/\bW n E L T at hd
 obtain⟨hn,cw,hp,hT⟩:=hd
 obtain⟨jZ,hV,hL,_⟩:=aD hp
 obtain⟨r1,r2,r3,_⟩:=aN jZ
 have zw:=ay hV r1
 have vf:=ay hL (by omega)
 have nk:=gD hp hT
 have Jj:=gq nk
 obtain⟨_,_,hW⟩:=bS (V:=V) (by rw[fH nk]:(aa n E V L T).2=0)
 rw[<-Jj] at hW
 have K9:=tc hp
 have vA:=fo hp
 rw[<-K9] at vA
 have Jk:=vA.len
 have GK:=hW.len
 have lU:(aa n E V L T).2=0:=by rw[dm];exact nk
 have Ti:=iF lU
 rw[<-Jj] at Ti
 have hWk:=pM (fun w hw=>(Ti w hw).2)
 refine go (pr:=(bz n/\av T/\aA n E V L=0/\bW n E L T)) [] h (⟨hn,cw,hp,hT⟩) fun _ _ h=>?_
 refine aK Int (List (List Int)) (fun i ou=>⟨[(3,ep 0),(7,eo 1),(8,eo 2),(9,en i)],[(0,some (.box 24 [.v (.int .i64 n),.own 3])),(1,some (.row 25 (.list .int) ou)),(2,some (.ro (.pair .int (.list .int)) (ax E V L T))),(3,some (.ar fA E))],4⟩) (fun i ou=>0<=i/\i<=((ax E V L T).length:Int)/\ou=QM E (ax E V L T) i.toNat) (fun i ou=>(((ax E V L T).length:Int)-i).toNat) 0 [] [(0,some 5),(1,none),(2,some 36869),(3,some 0)] h ⟨Int.le_refl _,Int.natCast_nonneg _,rfl⟩ fun i ou _ _ _ cq hI h=>?_
 obtain⟨k0,k1,k2⟩:=hI
 refine aC [] h fun _ _ h=>?_
 refine ag h (fun(q1:i<((ax E V L T).length:Int))=>?_) (fun(q1:¬(i<((ax E V L T).length:Int)))=>?_)
 .have rT:((ax E V L T).getD i.toNat (0,[]))∈(ax E V L T):=af (by omega)
  have Tj:=Ti _ rT
  have hwl:=Tj.2
  have hwr:∀d∈((ax E V L T).getD i.toNat (0,[])).2,-9223372036854775808<=d/\d<=9223372036854775807:=fun d hd=>by obtain⟨_,y1,_,y2⟩:=cv hp (Tj.1 d hd);omega
  have zH:=Jd (E:=E) hWk i.toNat
  rw[<-k2] at zH
  have WW:i.toNat*(2*L.length)<=10000*10000:=Nat.mul_le_mul (show i.toNat<=10000 by omega) (show 2*L.length<=10000 by omega)
  have ZA:=Jc E ((ax E V L T).getD i.toNat (0,[])).2
  refine go (pr:=(aV i (ax E V L T).length)/\(bz n/\(E.length:Int)<=1024/\((ax E V L T).getD i.toNat (0,[])).2.length<=100000/\∀d∈((ax E V L T).getD i.toNat (0,[])).2,-9223372036854775808<=d/\d<=9223372036854775807)/\(ou.length+(OI E ((ax E V L T).getD i.toNat (0,[])).2).length<=2147483647)/\(aX .i64 (i+1))) [] h ⟨bx,⟨hn,by omega,by omega,hwr⟩,ln,bw⟩ fun _ _ h=>?_
  exact bZ (cq (i+1) (ou++(OI E ((ax E V L T).getD i.toNat (0,[])).2)) (rk [0,45060,2,3]) h ⟨by omega,by omega,by rw[Px k0,<-k2]⟩ (by omega))
 have ru:i.toNat=(ax E V L T).length:=by omega
 rw[ru] at k2
 refine aC [] h fun _ _ h=>?_
 exact out ((ou:List (List Int)),()) h (by unfold eu;rw[k2])
def Tk:cE Tryz.prog:=plain Th
theorem Xd:aS Tryz.prog 11 [(false,(.pair gX (.pair fR (.pair (.list (.list .int)) (.list (.list .int)))))),(false,(.pair (.list (.list .int)) (.list (.list .int))))] [.int] (fun x=>bz (I_ x.1.1.1)/\av (K_ x.1.2.2.1)/\av (K_ x.2.1.1)/\bR (I_ x.1.1.1) (E_ x.1.1.2) (J_ x.1.2.1.1) (J_ x.1.2.1.2) (K_ x.1.2.2.1) (K_ x.1.2.2.2) (K_ x.2.1.1) (K_ x.2.1.2)=0) (fun x=>(Fo (J_ x.1.2.1.1) (J_ x.1.2.1.2) (K_ x.1.2.2.1) (K_ x.2.1.1),())):=by
 refine aF Tryz.f11 67 [lI,S9] Tryz.func11 fun o x hd _ _ h=>?_
 obtain⟨⟨⟨(n:Int),(E:List (Int×Int))⟩,⟨⟨(V:List Int),(L:List Int)⟩,⟨(T:List (List Int)),(S:List (List Int))⟩⟩⟩,⟨(U:List (List Int)),(R:List (List Int))⟩,_⟩:=x
 have e7:=gL h 0 E
 have eZ:=cg h 1 V
 have fS:=cg h 2 L
 have jm:=eP h 3 T
 have tE:=eP h 4 S
 have GX:=eP h 5 U
 have QN:=eP h 6 R
 change bz n/\av T/\av U/\bR n E V L T S U R=0 at hd
 obtain⟨hn,cw,jN,vt⟩:=hd
 obtain⟨Xe,Yi⟩:=pO vt
 obtain⟨gw,iZ⟩:=tB Xe
 obtain⟨jZ,hV,hL,_⟩:=aD gw
 obtain⟨r1,r2,r3,_⟩:=aN jZ
 have zw:=ay hV r1
 have vf:=ay hL (by omega)
 obtain⟨_,UT,_⟩:=bS (bf (bH iZ).1)
 have Z8:=UT.len
 obtain⟨Tl,Xf,_⟩:=bS (bf (bH Yi).1)
 have hUl:=Xf.len
 refine aC [] h fun _ _ h=>?_
 refine go_loop (Int) (fun i=>⟨[(2,ep 0),(3,ep 1),(5,en i)],[(0,some (.box 32 [.v (.int .i64 n),.own 2,.own 3,.own 4,.own 5,.own 6])),(1,some (.box 30 [.own 7,.own 8])),(2,some (.ar fA E)),(3,some (.ar .int V)),(4,some (.ar .int L)),(5,some (.ar (.list .int) T)),(6,some (.ar (.list .int) S)),(7,some (.ar (.list .int) U)),(8,some (.ar (.list .int) R))],9⟩) (fun i=>0<=i/\i<=(V.length:Int)/\∀j:Nat,(j:Int)<i->K0 V L T U j=true) (fun i=>((V.length:Int)-i).toNat) (0) (rk [7,4103,0,1,2,3,4,5,6]) h ⟨Int.le_refl _,Int.natCast_nonneg _,fun j hj=>by omega⟩ fun i _ _ _ cq hI h=>?_
 obtain⟨i0,i1,i2⟩:=hI
 refine aC [] h fun _ _ h=>?_
 refine ag h (fun(q1:i<(V.length:Int))=>?_) (fun(q1:¬(i<(V.length:Int)))=>?_)
 .have hvv:=(aG.1 hV).2 _ (af (l:=V) (i:=i.toNat) (d:=0) (by omega))
  have hum:(U.getD (V.getD i.toNat 0).toNat [])∈U:=af (by omega)
  have MQ:=jN.2 _ hum
  have Km:=cw.2 _ (af (l:=T) (i:=(V.getD i.toNat 0).toNat) (d:=[]) (by omega))
  have hud:∀d∈(U.getD (V.getD i.toNat 0).toNat []),0<=d/\d<=1000000:=fun d hd=>by obtain⟨_,y1,_,y2⟩:=cv Tl ((Xf.mem (V.getD i.toNat 0).toNat (by omega) d).1 hd).1;exact⟨y1,y2⟩
  refine go (pr:=(aV i V.length)) [] h bx fun _ _ h=>?_
  refine aK Int (List Int) (fun k ow=>⟨[(2,ep 0),(3,ep 1),(5,en i),(6,en (V.getD i.toNat 0)),(7,eo 2),(8,en k)],[(0,some (.box 32 [.v (.int .i64 n),.own 3,.own 4,.own 5,.own 6,.own 7])),(1,some (.box 30 [.own 8,.own 9])),(2,some (.row 3 .int ow)),(3,some (.ar fA E)),(4,some (.ar .int V)),(5,some (.ar .int L)),(6,some (.ar (.list .int) T)),(7,some (.ar (.list .int) S)),(8,some (.ar (.list .int) U)),(9,some (.ar (.list .int) R))],10⟩) (fun k ow=>0<=k/\k<=((U.getD (V.getD i.toNat 0).toNat []).length:Int)/\ow=GR L (U.getD (V.getD i.toNat 0).toNat []) k.toNat) (fun k ow=>(((U.getD (V.getD i.toNat 0).toNat []).length:Int)-k).toNat) 0 [] [(0,some 0),(1,some 1),(2,none),(3,some 2),(4,some 3),(5,some 4),(6,some 5),(7,some 6),(8,some 7),(9,some 8)] h ⟨Int.le_refl _,Int.natCast_nonneg _,rfl⟩ fun k ow _ _ _ fQ hI h=>?_
  obtain⟨k0,k1,k2⟩:=hI
  refine go (pr:=(aV (V.getD i.toNat 0) U.length)) [] h bx fun _ _ h=>?_
  refine ag h (fun(q2:k<((U.getD (V.getD i.toNat 0).toNat []).length:Int))=>?_) (fun(q2:¬(k<((U.getD (V.getD i.toNat 0).toNat []).length:Int)))=>?_)
  .have vn:=hud _ (af (l:=(U.getD (V.getD i.toNat 0).toNat [])) (i:=k.toNat) (d:=0) (by omega))
   have LH:=I7 L (U.getD (V.getD i.toNat 0).toNat []) k.toNat
   rw[<-k2] at LH
   refine go (pr:=(aV (V.getD i.toNat 0) U.length)/\(aV k (U.getD (V.getD i.toNat 0).toNat []).length)/\(0<=((U.getD (V.getD i.toNat 0).toNat []).getD k.toNat 0)/\0<(2:Int)/\aX .i64 ((U.getD (V.getD i.toNat 0).toNat []).getD k.toNat 0))/\True) [] h ⟨bx,bx,⟨by omega,by omega,⟨by omega,by omega⟩⟩,tv⟩ fun _ _ h=>?_
   refine ag h (fun(q3:(decide (((U.getD (V.getD i.toNat 0).toNat []).getD k.toNat 0)/2∈L))=true)=>?_) (fun(q3:(decide (((U.getD (V.getD i.toNat 0).toNat []).getD k.toNat 0)/2∈L))=false)=>?_)
   .refine go (pr:=(aV (V.getD i.toNat 0) U.length)/\(aV k (U.getD (V.getD i.toNat 0).toNat []).length)/\(ow.length+([((U.getD (V.getD i.toNat 0).toNat []).getD k.toNat 0)]:List Int).length<=2147483647)/\(aX .i64 (k+1))) [] h ⟨bx,bx,ln,bw⟩ fun _ _ h=>?_
    exact bZ (fQ (k+1) (ow++([((U.getD (V.getD i.toNat 0).toNat []).getD k.toNat 0)]:List Int)) (rk [0,1,126986,3,4,5,6,7,8,9]) h ⟨by omega,by omega,by rw[I6 k0 (by omega) (by rw[eC hL];exact q3),<-k2]⟩ (by omega))
   refine go (pr:=(aX .i64 (k+1))) [] h bw fun _ _ h=>?_
   exact bZ (fQ (k+1) ow (ir 10) h ⟨by omega,by omega,by rw[Pt k0 (by omega) (by rw[eC hL];exact q3),<-k2]⟩ (by omega))
  have ru:k.toNat=(U.getD (V.getD i.toNat 0).toNat []).length:=by omega
  rw[ru] at k2
  have htb:zg ow (T.getD (V.getD i.toNat 0).toNat [])=K0 V L T U i.toNat:=by rw[SZ,k2,I8];rfl
  refine go (pr:=(aV (V.getD i.toNat 0) T.length)/\((T.getD (V.getD i.toNat 0).toNat []).length<=1000000)) [] h ⟨bx,by omega⟩ fun _ _ h=>?_
  refine ag h (fun(q4:(zg ow (T.getD (V.getD i.toNat 0).toNat []))=false)=>?_) (fun(q4:(zg ow (T.getD (V.getD i.toNat 0).toNat []))=true)=>?_)
  .refine aC [] h fun _ _ h=>?_
   exact out (((V.getD i.toNat 0):Int),()) h (by rw[S5 i0 (by omega) (by rw[<-htb];exact q4) i2])
  refine go (pr:=(aX .i64 (i+1))) [] h bw fun _ _ h=>?_
  exact bZ (cq (i+1) (rk [0,1,3,4,5,6,7,8,9]) h ⟨by omega,by omega,fun j hj=>if z:(j:Int)<i then i2 j z else by rw[show j=i.toNat by omega,<-htb];exact q4⟩ (by omega))
 refine aC [] h fun _ _ h=>?_
 exact out (((-1:Int):Int),()) h (by rw[Wy (fun j hj=>i2 j (by omega))])
def Xg:cE Tryz.prog:=plain Xd
theorem Tm:aS Tryz.prog 58 [(false,gX),(false,fR),(true,(.pair (.list (.list .int)) (.list (.list .int)))),(false,.int)] [(.list .int)] (fun x=>(bz (I_ x.1.1)/\av (K_ x.2.2.1.1)/\aA (I_ x.1.1) (E_ x.1.2) (J_ x.2.1.1) (J_ x.2.1.2)=0/\bW (I_ x.1.1) (E_ x.1.2) (J_ x.2.1.2) (K_ x.2.2.1.1)/\av (K_ x.2.2.1.2)/\∀l∈(K_ x.2.2.1.2),l≠[])/\-1000000<=(I_ x.2.2.2.1)/\(I_ x.2.2.2.1)<=1000000) (fun x=>(Fl (E_ x.1.2) (J_ x.2.1.2) (e8 (E_ x.1.2) (J_ x.2.1.1) (J_ x.2.1.2) (K_ x.2.2.1.1) (K_ x.2.2.1.2)) (I_ x.2.2.2.1),())):=by
 refine aF Tryz.f58 44 [EI,Jl,ZT] Tryz.func58 fun o x hd _ _ h=>?_
 obtain⟨⟨(n:Int),(E:List (Int×Int))⟩,⟨(V:List Int),(L:List Int)⟩,⟨(T:List (List Int)),(S:List (List Int))⟩,(v:Int),_⟩:=x
 have e7:=gL h 0 E
 have eZ:=cg h 1 V
 have fS:=cg h 2 L
 have jm:=eP h 3 T
 have tE:=eP h 4 S
 change (bz n/\av T/\aA n E V L=0/\bW n E L T/\av S/\∀l∈S,l≠[])/\-1000000<=v/\v<=1000000 at hd
 obtain⟨⟨hn,cw,hp,hT,cS,LD⟩,v0,v1⟩:=hd
 obtain⟨jZ,hV,hL,_⟩:=aD hp
 obtain⟨r1,r2,r3,_⟩:=aN jZ
 have zw:=ay hV r1
 have vf:=ay hL (by omega)
 have nk:=gD hp hT
 have Jj:=gq nk
 obtain⟨_,_,hW⟩:=bS (V:=V) (by rw[fH nk]:(aa n E V L T).2=0)
 rw[<-Jj] at hW
 have K9:=tc hp
 have vA:=fo hp
 rw[<-K9] at vA
 have Jk:=vA.len
 have GK:=hW.len
 have vj:=rN E v L
 refine go (pr:=(bz n/\bP L (E.length:Int)/\(E.length:Int)<=100000)) [] h (⟨hn,hL,by omega⟩) fun _ _ h=>?_
 refine ag h (fun(q1:((aR E L v).length:Int)=0)=>?_) (fun(q1:¬(((aR E L v).length:Int)=0))=>?_)
 .refine go (pr:=(aX .i64 ((-1)-v))/\(bz n/\av T/\aA n E V L=0/\bW n E L T/\av S/\∀l∈S,l≠[])) [] h ⟨bw,⟨hn,cw,hp,hT,cS,LD⟩⟩ fun _ _ h=>?_
  exact out ((([e8 E V L T S ((-1)-v)]:List Int):List Int),()) h (by show _=(Fl E L (e8 E V L T S) v,());unfold Fl;rw[if_pos (by omega)]<;>rfl)
 refine aC [] h fun _ _ h=>?_
 refine aK Int (List Int) (fun i ou=>⟨[(4,ep 0),(5,ep 1),(6,ep 2),(9,eo 3),(10,eo 4),(11,en i)],[(0,some (.box 24 [.v (.int .i64 n),.own 5])),(1,some (.box 27 [.own 6,.own 7])),(2,some (.box 30 [.own 8,.own 9])),(3,some (.ro .int ou)),(4,some (.ro .int (aR E L v))),(5,some (.ar fA E)),(6,some (.ar .int V)),(7,some (.ar .int L)),(8,some (.ro (.list .int) T)),(9,some (.ro (.list .int) S))],10⟩) (fun i ou=>0<=i/\i<=((aR E L v).length:Int)/\ou=QK (e8 E V L T S) (aR E L v) i.toNat) (fun i ou=>(((aR E L v).length:Int)-i).toNat) 0 [] [(0,some 5),(1,some 4101),(2,some 8197),(3,none),(4,some 32773),(5,some 0),(6,some 1),(7,some 2),(8,some 3),(9,some 4)] h ⟨Int.le_refl _,Int.natCast_nonneg _,rfl⟩ fun i ou _ _ _ cq hI h=>?_
 obtain⟨i0,i1,i2⟩:=hI
 refine aC [] h fun _ _ h=>?_
 refine ag h (fun(q2:i<((aR E L v).length:Int))=>?_) (fun(q2:¬(i<((aR E L v).length:Int)))=>?_)
 .have we:ou.length<=1000000:=by rw[i2];exact Nat.le_trans (IG _) (by omega)
  refine go (pr:=(aV i (aR E L v).length)/\(bz n/\av T/\aA n E V L=0/\bW n E L T/\av S/\∀l∈S,l≠[])/\(ou.length<=1000000/\([e8 E V L T S ((aR E L v).getD i.toNat 0)]:List Int).length<=1000000)/\(aX .i64 (i+1))) [] h ⟨bx,⟨hn,cw,hp,hT,cS,LD⟩,⟨we,Nat.le_of_ble_eq_true rfl⟩,bw⟩ fun _ _ h=>?_
  exact bZ (cq (i+1) (gd ou ([e8 E V L T S ((aR E L v).getD i.toNat 0)]:List Int) 1) (rk [0,1,2,57354,4,5,6,7,8,9]) h ⟨by omega,by omega,by rw[OX i0,<-i2]⟩ (by omega))
 have oz:i.toNat=(aR E L v).length:=by omega
 rw[oz] at i2
 refine aC [] h fun _ _ h=>?_
 exact out ((ou:List Int),()) h (by show _=(Fl E L (e8 E V L T S) v,());unfold Fl;rw[if_neg (by omega),<-i2]<;>rfl)
def Tn:cE Tryz.prog:=plain Tm
theorem PD:aS Tryz.prog 57 [(false,gX),(false,fR),(true,(.pair (.list (.list .int)) (.list (.list .int)))),(false,(.list .int))] [(.list .int)] (fun x=>QL (I_ x.1.1) (E_ x.1.2) (J_ x.2.1.1) (J_ x.2.1.2) (K_ x.2.2.1.1) (K_ x.2.2.1.2) (J_ x.2.2.2.1)) (fun x=>(EJ (E_ x.1.2).length (J_ x.2.1.2) (e8 (E_ x.1.2) (J_ x.2.1.1) (J_ x.2.1.2) (K_ x.2.2.1.1) (K_ x.2.2.1.2)) (J_ x.2.2.2.1),())):=by
 refine aF Tryz.f57 96 [lI,Jl,aad] Tryz.func57 fun o x hd _ _ h=>?_
 obtain⟨⟨(n:Int),(E:List (Int×Int))⟩,⟨(V:List Int),(L:List Int)⟩,⟨(T:List (List Int)),(S:List (List Int))⟩,(ds:List Int),_⟩:=x
 have e7:=gL h 0 E
 have eZ:=cg h 1 V
 have fS:=cg h 2 L
 have jm:=eP h 3 T
 have tE:=eP h 4 S
 have GX:=cg h 5 ds
 change QL n E V L T S ds at hd
 obtain⟨⟨hn,cw,hp,hT,cS,LD⟩,hd0,oG,Ut,JY⟩:=hd
 obtain⟨jZ,hV,hL,_⟩:=aD hp
 obtain⟨r1,r2,r3,_⟩:=aN jZ
 have zw:=ay hV r1
 have vf:=ay hL (by omega)
 have nk:=gD hp hT
 have Jj:=gq nk
 obtain⟨_,_,hW⟩:=bS (V:=V) (by rw[fH nk]:(aa n E V L T).2=0)
 rw[<-Jj] at hW
 have K9:=tc hp
 have vA:=fo hp
 rw[<-K9] at vA
 have Jk:=vA.len
 have GK:=hW.len
 have uY:¬(UL E V L T S ds)= -1:=by omega
 have CV:=SK L ds
 refine go (pr:=(aV (0:Int) ds.length)/\(bz n/\av T/\aA n E V L=0/\bW n E L T/\av S/\∀l∈S,l≠[])) [] h ⟨bx,⟨hn,cw,hp,hT,cS,LD⟩⟩ fun _ _ h=>?_
 refine aK Int (List Int) (fun i m=>⟨[(3,eo 0),(4,ep 1),(5,ep 2),(6,ep 3),(9,eo 4),(10,en i)],[(0,some (.ar .int ds)),(1,some (.box 24 [.v (.int .i64 n),.own 5])),(2,some (.box 27 [.own 6,.own 7])),(3,some (.box 30 [.own 8,.own 9])),(4,some (.row 3 .int m)),(5,some (.ar fA E)),(6,some (.ar .int V)),(7,some (.ar .int L)),(8,some (.ro (.list .int) T)),(9,some (.ro (.list .int) S))],10⟩) (fun i m=>0<=i/\i<=(m.length:Int)/\Sp (zb (Wl E V L T S) (iY L ds)) (UL E V L T S ds) (-1) ((UL E V L T S ds)::kG (Wl E V L T S) (iY L ds)) m/\Ku (Wl E V L T S) (iY L ds) (-1) (2*(iY L ds).length+1-i.toNat) i.toNat m=spread (Wl E V L T S) (iY L ds) (UL E V L T S ds) (-1)) (fun i m=>(2*((iY L ds).length:Int)+1-i).toNat) 0 [(UL E V L T S ds)] (rk [5,6,4102,8198,45062,0,1,2,3,4]) h ⟨Int.le_refl _,Int.natCast_nonneg _,s9 uY,rfl⟩ fun i m _ _ _ cq hI h=>?_
 obtain⟨h0,h1,zJ,WS⟩:=hI
 refine aC [] h fun _ _ h=>?_
 refine ag h (fun(q1:i<(m.length:Int))=>?_) (fun(q1:¬(i<(m.length:Int)))=>?_)
 .have uS:=rS zJ
  refine aC [] h fun _ _ h=>?_
  refine aK Int (List Int) (fun k m2=>⟨[(3,eo 0),(4,ep 1),(5,ep 2),(6,ep 3),(9,eo 4),(10,en i),(11,en k)],[(0,some (.ar .int ds)),(1,some (.box 24 [.v (.int .i64 n),.own 5])),(2,some (.box 27 [.own 6,.own 7])),(3,some (.box 30 [.own 8,.own 9])),(4,some (.row 3 .int m2)),(5,some (.ar fA E)),(6,some (.ar .int V)),(7,some (.ar .int L)),(8,some (.ro (.list .int) T)),(9,some (.ro (.list .int) S))],10⟩) (fun k m2=>0<=k/\k<=(L.length:Int)/\m2=dO (Wl E V L T S) (-1) i.toNat (iY (L.take k.toNat) ds) m) (fun k m2=>((L.length:Int)-k).toNat) 0 m (ir 10) h ⟨Int.le_refl _,Int.natCast_nonneg _,rfl⟩ fun k m2 _ _ _ fQ hI h=>?_
  obtain⟨k0,k1,oT⟩:=hI
  refine aC [] h fun _ _ h=>?_
  refine ag h (fun(q2:k<(L.length:Int))=>?_) (fun(q2:¬(k<(L.length:Int)))=>?_)
  .have qG:=(aG.1 hL).2 _ (af (l:=L) (i:=k.toNat) (d:=0) (by omega))
   have hlq:=Ut _ (af (l:=L) (i:=k.toNat) (d:=0) (by omega))
   have hna:¬e8 E V L T S (2*(L.getD k.toNat 0))= -1:=by omega
   have Ya:¬e8 E V L T S (2*(L.getD k.toNat 0)+1)= -1:=by omega
   obtain⟨uC,zl,_⟩:=mD (i:=i.toNat) (but:= -1) (qt (E:=(Wl E V L T S)) (L:=(iY L ds)) (a:=(UL E V L T S ds))) (l:=iY (L.take k.toNat) ds) (fun x hx=>OZ L ds _ x hx) zJ (by omega)
   rw[<-oT] at uC zl
   have WT:=rS uC
   have hr3:m.length<=m2.length:=by obtain⟨r9,e9⟩:=zl;rw[e9,List.length_append];omega
   refine go (pr:=(aV k L.length)/\(∀d∈ds,0<=d/\d<=1000000)) [] h ⟨bx,fun d hd=>⟨(oG d hd).1,(oG d hd).2.1⟩⟩ fun _ _ h=>?_
   refine ag h (fun(q3:(Cm ds (L.getD k.toNat 0))=true)=>?_) (fun(q3:(Cm ds (L.getD k.toNat 0))=false)=>?_)
   .refine go (pr:=(aX .i64 (k+1))) [] h bw fun _ _ h=>?_
    exact bZ (fQ (k+1) m2 (ir 10) h ⟨by omega,by omega,by rw[Wk k0 (by omega) q3];exact oT⟩ (by omega))
   refine go (pr:=(aV k L.length)/\(aX .i64 (2*(L.getD k.toNat 0)))/\(bz n/\av T/\aA n E V L=0/\bW n E L T/\av S/\∀l∈S,l≠[])/\(aV k L.length)/\(aX .i64 (2*(L.getD k.toNat 0)))/\(aX .i64 ((2*(L.getD k.toNat 0))+1))/\(bz n/\av T/\aA n E V L=0/\bW n E L T/\av S/\∀l∈S,l≠[])/\(aV i m2.length)/\((e8 E V L T S (2*(L.getD k.toNat 0))=(m2.getD i.toNat 0))->True)) [] h ⟨bx,bw,⟨hn,cw,hp,hT,cS,LD⟩,bx,bw,bw,⟨hn,cw,hp,hT,cS,LD⟩,bx,fun _=>trivial⟩ fun _ _ h=>?_
   refine ag h (fun(q4:(e8 E V L T S (2*(L.getD k.toNat 0))=(m2.getD i.toNat 0))/\((decide (e8 E V L T S ((2*(L.getD k.toNat 0))+1)∈m2))=false))=>?_) (fun(q4:(¬(e8 E V L T S (2*(L.getD k.toNat 0))=(m2.getD i.toNat 0)))\/((decide (e8 E V L T S ((2*(L.getD k.toNat 0))+1)∈m2))=true))=>?_)
   .have abk:(m2++[e8 E V L T S (2*(L.getD k.toNat 0)+1)]).length=m2.length+1:=by simp
    refine go (pr:=(m2.length+([e8 E V L T S ((2*(L.getD k.toNat 0))+1)]:List Int).length<=2147483647)/\(aV i (m2++([e8 E V L T S ((2*(L.getD k.toNat 0))+1)]:List Int)).length)/\((e8 E V L T S ((2*(L.getD k.toNat 0))+1)=((m2++([e8 E V L T S ((2*(L.getD k.toNat 0))+1)]:List Int)).getD i.toNat 0))->True)) [] h ⟨ln,bx,fun _=>trivial⟩ fun _ _ h=>?_
    refine ag h (fun(q5:(e8 E V L T S ((2*(L.getD k.toNat 0))+1)=((m2++([e8 E V L T S ((2*(L.getD k.toNat 0))+1)]:List Int)).getD i.toNat 0))/\((decide (e8 E V L T S (2*(L.getD k.toNat 0))∈(m2++([e8 E V L T S ((2*(L.getD k.toNat 0))+1)]:List Int))))=false))=>?_) (fun(q5:(¬(e8 E V L T S ((2*(L.getD k.toNat 0))+1)=((m2++([e8 E V L T S ((2*(L.getD k.toNat 0))+1)]:List Int)).getD i.toNat 0)))\/((decide (e8 E V L T S (2*(L.getD k.toNat 0))∈(m2++([e8 E V L T S ((2*(L.getD k.toNat 0))+1)]:List Int))))=true))=>?_)
    .refine go (pr:=((m2++([e8 E V L T S ((2*(L.getD k.toNat 0))+1)]:List Int)).length+([e8 E V L T S (2*(L.getD k.toNat 0))]:List Int).length<=2147483647)/\(aX .i64 (k+1))) [] h ⟨ln,bw⟩ fun _ _ h=>?_
     exact bZ (fQ (k+1) ((m2++([e8 E V L T S ((2*(L.getD k.toNat 0))+1)]:List Int))++([e8 E V L T S (2*(L.getD k.toNat 0))]:List Int)) (rk [0,1,2,3,274442,5,6,7,8,9]) h ⟨by omega,by omega,by rw[wo k0 (by omega) q3 qG.1 qG.2,<-oT];exact(vc (iE ⟨⟨q4.1,Ya⟩,q4.2⟩) (iE ⟨⟨q5.1,hna⟩,q5.2⟩)).symm⟩ (by omega))
    refine go (pr:=(aX .i64 (k+1))) [] h bw fun _ _ h=>?_
    exact bZ (fQ (k+1) (m2++([e8 E V L T S ((2*(L.getD k.toNat 0))+1)]:List Int)) (rk [0,1,2,3,204810,5,6,7,8,9]) h ⟨by omega,by omega,by rw[wo k0 (by omega) q3 qG.1 qG.2,<-oT];exact(vc (iE ⟨⟨q4.1,Ya⟩,q4.2⟩) (jC (q5.imp .inl id))).symm⟩ (by omega))
   refine go (pr:=(aV i m2.length)/\((e8 E V L T S ((2*(L.getD k.toNat 0))+1)=(m2.getD i.toNat 0))->True)) [] h ⟨bx,fun _=>trivial⟩ fun _ _ h=>?_
   refine ag h (fun(q6:(e8 E V L T S ((2*(L.getD k.toNat 0))+1)=(m2.getD i.toNat 0))/\((decide (e8 E V L T S (2*(L.getD k.toNat 0))∈m2))=false))=>?_) (fun(q6:(¬(e8 E V L T S ((2*(L.getD k.toNat 0))+1)=(m2.getD i.toNat 0)))\/((decide (e8 E V L T S (2*(L.getD k.toNat 0))∈m2))=true))=>?_)
   .refine go (pr:=(m2.length+([e8 E V L T S (2*(L.getD k.toNat 0))]:List Int).length<=2147483647)/\(aX .i64 (k+1))) [] h ⟨ln,bw⟩ fun _ _ h=>?_
    exact bZ (fQ (k+1) (m2++([e8 E V L T S (2*(L.getD k.toNat 0))]:List Int)) (rk [0,1,2,3,253962,5,6,7,8,9]) h ⟨by omega,by omega,by rw[wo k0 (by omega) q3 qG.1 qG.2,<-oT];exact(vc (jC (q4.imp .inl id)) (iE ⟨⟨q6.1,hna⟩,q6.2⟩)).symm⟩ (by omega))
   refine go (pr:=(aX .i64 (k+1))) [] h bw fun _ _ h=>?_
   exact bZ (fQ (k+1) m2 (ir 10) h ⟨by omega,by omega,by rw[wo k0 (by omega) q3 qG.1 qG.2,<-oT];exact(vc (jC (q4.imp .inl id)) (jC (q6.imp .inl id))).symm⟩ (by omega))
  rw[List.take_of_length_le (by omega)] at oT
  obtain⟨uC,zl,_⟩:=mD (i:=i.toNat) (but:= -1) (qt (E:=(Wl E V L T S)) (L:=(iY L ds)) (a:=(UL E V L T S ds))) (l:=(iY L ds)) (fun x hx=>hx) zJ (by omega)
  rw[<-oT] at uC zl
  have WT:=rS uC
  have hr3:m.length<=m2.length:=by obtain⟨r9,e9⟩:=zl;rw[e9,List.length_append];omega
  refine go (pr:=(aX .i64 (i+1))) [] h bw fun _ _ h=>?_
  exact bZ (cq (i+1) m2 (ir 10) h ⟨by omega,by omega,uC,by rw[oT,<-Ew h0 (by omega) (by omega)];exact WS⟩ (by omega))
 refine aC [] h fun _ _ h=>?_
 exact out ((m:List Int),()) h (by rw[Od (by omega)] at WS;rw[WS];rfl)
def PE:cE Tryz.prog:=plain PD
theorem Xh:aS Tryz.prog 32 [(false,gX),(false,fR),(true,(.pair (.list (.list .int)) (.list (.list .int)))),(false,(.list .int)),(false,.int)] [.int] (fun x=>QL (I_ x.1.1) (E_ x.1.2) (J_ x.2.1.1) (J_ x.2.1.2) (K_ x.2.2.1.1) (K_ x.2.2.1.2) (J_ x.2.2.2.1)/\-1000000<=(I_ x.2.2.2.2.1)/\(I_ x.2.2.2.2.1)<=1000000) (fun x=>(Fm (E_ x.1.2) (J_ x.2.1.2) (e8 (E_ x.1.2) (J_ x.2.1.1) (J_ x.2.1.2) (K_ x.2.2.1.1) (K_ x.2.2.1.2)) (J_ x.2.2.2.1) (I_ x.2.2.2.2.1),())):=by
 refine aF Tryz.f32 39 [Tn,lI,PE,qx] Tryz.func32 fun o x hd _ _ h=>?_
 obtain⟨⟨(n:Int),(E:List (Int×Int))⟩,⟨(V:List Int),(L:List Int)⟩,⟨(T:List (List Int)),(S:List (List Int))⟩,(ds:List Int),(v:Int),_⟩:=x
 have e7:=gL h 0 E
 have eZ:=cg h 1 V
 have fS:=cg h 2 L
 have jm:=eP h 3 T
 have tE:=eP h 4 S
 have GX:=cg h 5 ds
 change QL n E V L T S ds/\-1000000<=v/\v<=1000000 at hd
 obtain⟨hD,v0,v1⟩:=hd
 obtain⟨⟨hn,cw,hp,hT,cS,LD⟩,hd0,oG,Ut,JY⟩:=id hD
 have hau:=(GN (E:=E) (L:=L) (lf:=e8 E V L T S) v).1
 refine aC [] h fun _ _ h=>?_
 refine go_loop (Int) (fun i=>⟨[(3,eo 0),(4,en v),(5,ep 1),(6,ep 2),(7,ep 3),(11,en i)],[(0,some (.ar .int ds)),(1,some (.box 24 [.v (.int .i64 n),.own 4])),(2,some (.box 27 [.own 5,.own 6])),(3,some (.box 30 [.own 7,.own 8])),(4,some (.ar fA E)),(5,some (.ar .int V)),(6,some (.ar .int L)),(7,some (.ro (.list .int) T)),(8,some (.ro (.list .int) S))],9⟩) (fun i=>0<=i/\i<=(ds.length:Int)/\∀j:Nat,(j:Int)<i->¬ak E (ds.getD j 0)=v) (fun i=>((ds.length:Int)-i).toNat) (0) (rk [5,6,4102,8198,0,1,2,3,4]) h ⟨Int.le_refl _,Int.natCast_nonneg _,fun j hj=>by omega⟩ fun i _ _ _ cq hI h=>?_
 obtain⟨i0,i1,i2⟩:=hI
 refine aC [] h fun _ _ h=>?_
 refine ag h (fun(q1:i<(ds.length:Int))=>?_) (fun(q1:¬(i<(ds.length:Int)))=>?_)
 .have vn:=oG _ (af (l:=ds) (i:=i.toNat) (d:=0) (by omega))
  refine go (pr:=(aV i ds.length)/\(bz n/\0<=(ds.getD i.toNat 0)/\(ds.getD i.toNat 0)/2<(E.length:Int)/\(ds.getD i.toNat 0)<=1000000)) [] h ⟨bx,⟨hn,by omega,by omega,by omega⟩⟩ fun _ _ h=>?_
  refine ag h (fun(q2:ak E (ds.getD i.toNat 0)=v)=>?_) (fun(q2:¬(ak E (ds.getD i.toNat 0)=v))=>?_)
  .refine aC [] h fun _ _ h=>?_
   exact out (((0:Int):Int),()) h (by show _=(Fm E L (e8 E V L T S) ds v,());rw[Wo i0 (by omega) q2]<;>rfl)
  refine go (pr:=(aX .i64 (i+1))) [] h bw fun _ _ h=>?_
  exact bZ (cq (i+1) (ir 9) h ⟨by omega,by omega,fun j hj=>if z:(j:Int)<i then i2 j z else by rw[show j=i.toNat by omega];exact q2⟩ (by omega))
 refine go (pr:=(QL n E V L T S ds)/\((bz n/\av T/\aA n E V L=0/\bW n E L T/\av S/\∀l∈S,l≠[])/\-1000000<=v/\v<=1000000)/\(aV (0:Int) (Fl E L (e8 E V L T S) v).length)/\True) [] h ⟨hD,⟨⟨hn,cw,hp,hT,cS,LD⟩,v0,v1⟩,bx,tv⟩ fun _ _ h=>?_
 refine ag h (fun(q3:(decide (((Fl E L (e8 E V L T S) v).getD 0 0)∈EJ E.length L (e8 E V L T S) ds))=true)=>?_) (fun(q3:(decide (((Fl E L (e8 E V L T S) v).getD 0 0)∈EJ E.length L (e8 E V L T S) ds))=false)=>?_)
 .refine aC [] h fun _ _ h=>?_
  exact out (((1:Int):Int),()) h (by show _=(Fm E L (e8 E V L T S) ds v,());rw[IJ (i:=i) (by omega) i2,if_pos (of_decide_eq_true q3)]<;>rfl)
 refine aC [] h fun _ _ h=>?_
 exact out (((2:Int):Int),()) h (by show _=(Fm E L (e8 E V L T S) ds v,());rw[IJ (i:=i) (by omega) i2,if_neg (of_decide_eq_false q3)]<;>rfl)
def Xi:cE Tryz.prog:=plain Xh
theorem To {E:List (Int×Int)}{v:Int}{l:List Int}:(cL E v l= -1/\∀j,j<l.length->ak E (l.getD j 0)≠v)\/∃i:Nat,cL E v l=(i:Int)/\i<l.length/\ak E (l.getD i 0)=v:=by
 unfold cL
 by_cases q:l.findIdx (fun x=>decide (ak E x=v))<l.length
 .rw[if_pos q]
  refine .inr ⟨_,rfl,q,?_⟩
  have:=List.findIdx_getElem (w:=q)
  rw[getD_eq q]
  simpa using this
 rw[if_neg q]
 refine .inl ⟨rfl,fun j hj e=>q (List.findIdx_lt_length_of_exists ⟨l.getD j 0,af hj,decide_eq_true e⟩)⟩
abbrev LI (E:List (Int×Int))(d:Int):Int:=ak E (aq d)
section
variable {E:List (Int×Int)}{ds gone l:List Int}{d:Int}{k:Nat}
theorem uD {j:Nat}(h:j<gone.length):(gone++[d]).getD j 0=gone.getD j 0:=by
 rw[List.getD_eq_getElem?_getD,List.getElem?_append_left h,<-List.getD_eq_getElem?_getD]
theorem G3:(gone++[d]).getD gone.length 0=d:=by
 rw[List.getD_eq_getElem?_getD,List.getElem?_append_right (Nat.le_refl _),Nat.sub_self];rfl
theorem Be {i j:Nat}:(l.drop i).getD j 0=l.getD (i+j) 0:=by
 rw[List.getD_eq_getElem?_getD,List.getElem?_drop,<-List.getD_eq_getElem?_getD]
theorem yA {i j:Nat}(h:j<i):(l.take i).getD j 0=l.getD j 0:=by
 rw[List.getD_eq_getElem?_getD,List.getElem?_take_of_lt h,<-List.getD_eq_getElem?_getD]
structure uE (E:List (Int×Int))(g:List Int):Prop where
 nd:∀i j,i<j->j<g.length->ak E (g.getD i 0)≠ak E (g.getD j 0)
 ch:∀j,j+1<g.length->ak E (g.getD (j+1) 0)=LI E (g.getD j 0)
structure Yj (E:List (Int×Int))(ds:List Int)(k:Nat)(g:List Int):Prop where
 p:uE E g
 la:g≠[]->0<k/\LI E (g.getD (g.length-1) 0)=LI E (ds.getD (k-1) 0)
 no:∀j,j<g.length->ak E (g.getD j 0)≠LI E (g.getD (g.length-1) 0)
theorem uE.nil:uE E []:=⟨fun i j _ h=>(by simp at h),fun j h=>(by simp at h)⟩
theorem uE.drop (h:uE E l)(i:Nat):uE E (l.drop i):=by
 refine⟨fun a b uY hb=>?_,fun j hj=>?_⟩
 .rw[List.length_drop] at hb
  rw[Be,Be];exact h.nd _ _ (by omega) (by omega)
 rw[List.length_drop] at hj
 rw[Be,Be];exact h.ch (i+j) (by omega)
theorem uE.take (h:uE E l)(i:Nat):uE E (l.take i):=by
 refine⟨fun a b uY hb=>?_,fun j hj=>?_⟩
 .rw[List.length_take] at hb
  rw[yA (by omega),yA (by omega)];exact h.nd _ _ uY (by omega)
 rw[List.length_take] at hj
 rw[yA (by omega),yA (by omega)];exact h.ch j (by omega)
theorem Yj.add (h:Yj E ds k gone)(oG:∀k,k+1<ds.length->ak E (ds.getD (k+1) 0)=LI E (ds.getD k 0))(hk:k<ds.length):uE E (gone++[ds.getD k 0]):=by
 have hlen:(gone++[ds.getD k 0]).length=gone.length+1:=by simp
 have PF:gone≠[]->ak E (ds.getD k 0)=LI E (gone.getD (gone.length-1) 0):=fun dL=>by
  obtain⟨h0,h1⟩:=h.la dL
  have:=oG (k-1) (by omega)
  rw[show k-1+1=k by omega] at this
  rw[this,h1]
 refine⟨fun i j Db hj=>?_,fun j hj=>?_⟩
 .rw[hlen] at hj
  by_cases q:j<gone.length
  .rw[uD q,uD (by omega)];exact h.p.nd i j Db q
  have e:j=gone.length:=by omega
  subst e
  have dL:gone≠[]:=fun e=>by rw[e] at Db;simp at Db
  rw[G3,uD Db,PF dL];exact h.no i Db
 rw[hlen] at hj
 by_cases q:j+1<gone.length
 .rw[uD q,uD (by omega)];exact h.p.ch j q
 have e:j+1=gone.length:=by omega
 have dL:gone≠[]:=fun e2=>by rw[e2] at e;simp at e
 rw[e,G3,uD (by omega),PF dL,show gone.length-1=j by omega]
theorem uE.cyc (h:uE E l)(hn:l≠[])(hc:ak E (l.getD 0 0)=LI E (l.getD (l.length-1) 0))(hb:¬((l.length:Int)=2/\l.getD 0 0=aq (l.getD 1 0))):Sq E l l.length:=by
 have LJ:=List.length_pos_iff.2 hn
 refine⟨fun j hj=>?_,fun j hj i Db=>⟨h.nd i j Db hj,fun e=>?_⟩⟩
 .unfold EG
  by_cases q:j=0
  .rw[if_pos q,q];exact hc.symm
  rw[if_neg q]
  have:=h.ch (j-1) (by omega)
  rw[show j-1+1=j by omega] at this
  exact this.symm
 have ht:l.getD j 0=l.getD i 0\/l.getD j 0=aq (l.getD i 0):=by unfold aq;split<;>omega
 rcases ht with z|z
 .exact h.nd i j Db hj (by rw[z])
 have h1:ak E (l.getD (i+1) 0)=ak E (l.getD j 0):=by rw[h.ch i (by omega),z]
 have r6:j=i+1:=by
  rcases Nat.lt_trichotomy (i+1) j with w|w|w
  .exact absurd h1 (h.nd _ _ w hj)
  .exact w.symm
  omega
 have h2:LI E (l.getD j 0)=ak E (l.getD i 0):=by show ak E (aq _)=_;rw[z,Em]
 have Lr:j=l.length-1:=by
  by_cases w:j+1<l.length
  .have:=h.ch j w
   rw[h2] at this
   exact absurd this.symm (h.nd i (j+1) (by omega) w)
  omega
 have hi0:i=0:=by
  rw[<-Lr,h2] at hc
  by_cases w:0<i
  .exact absurd hc (h.nd 0 i w (by omega))
  omega
 subst hi0
 exact hb ⟨by omega,by rw[r6] at z;rw[z,Em]⟩
theorem Yj.step (h:Yj E ds k gone)(oG:∀k,k+1<ds.length->ak E (ds.getD (k+1) 0)=LI E (ds.getD k 0))(hk:k<ds.length)(out:List (List Int))(ho:∀l∈out,Sq E l l.length/\l≠[]):
  Yj E ds (k+1) (AU E (gone,out) (ds.getD k 0)).1/\∀l∈(AU E (gone,out) (ds.getD k 0)).2,Sq E l l.length/\l≠[]:=by
 have hp:=h.add oG hk
 have hlen:(gone++[ds.getD k 0]).length=gone.length+1:=by simp
 have eZ:(gone++[ds.getD k 0]).getD ((gone++[ds.getD k 0]).length-1) 0=ds.getD k 0:=by rw[hlen,Nat.add_sub_cancel];exact G3
 have JV:=To (E:=E) (v:=ak E (aq (ds.getD k 0))) (l:=gone++[ds.getD k 0])
 generalize hg:gone++[ds.getD k 0]=g at*
 have abS:g≠[]:=fun e=>by rw[e] at hlen;simp at hlen
 unfold AU
 dsimp only
 rw[hg]
 rcases JV with⟨i1,i2⟩|⟨i,i1,i2,i3⟩
 .rw[if_pos (by rw[i1];decide)]
  refine⟨⟨hp,fun _=>⟨by omega,by rw[eZ,Nat.add_sub_cancel]⟩,fun j hj=>?_⟩,ho⟩
  rw[eZ];exact i2 j hj
 rw[if_neg (by omega),i1,Int.toNat_natCast]
 refine⟨⟨hp.take i,fun dL=>⟨by omega,?_⟩,fun j hj=>?_⟩,?_⟩
 .have hi0:0<i:=Nat.pos_of_ne_zero fun e=>dL (by rw[e];rfl)
  have hti:(g.take i).length=i:=by rw[List.length_take];omega
  rw[hti,yA (by omega),Nat.add_sub_cancel]
  have:=hp.ch (i-1) (by omega)
  rw[show i-1+1=i by omega] at this
  rw[<-this,i3]
 .have hti:(g.take i).length=i:=by rw[List.length_take];omega
  rw[hti] at hj ⊢
  rw[yA hj,yA (by omega)]
  have:=hp.ch (i-1) (by omega)
  rw[show i-1+1=i by omega] at this
  rw[<-this]
  exact hp.nd j i hj i2
 dsimp only
 split
 .rename_i hb
  intro l hl
  rcases List.mem_append.1 hl with q|q
  .exact ho l q
  rw[List.mem_singleton.1 q]
  have QG:g.drop i≠[]:=fun e=>by
   have:(g.drop i).length=0:=by rw[e];rfl
   rw[List.length_drop] at this;omega
  refine⟨(hp.drop i).cyc QG ?_ fun z=>?_,QG⟩
  .rw[Be,Be,List.length_drop,show i+(g.length-i-1)=g.length-1 by omega,eZ,Nat.add_zero,i3]
  rcases hb with w|w
  .exact w z.1
  exact w z.2
 exact ho
end
theorem Jm {E:List (Int×Int)}{ds:List Int}(oG:∀k,k+1<ds.length->ak E (ds.getD (k+1) 0)=LI E (ds.getD k 0)):∀ {k:Nat},k<=ds.length->Yj E ds k (Cj E ds k).1/\∀l∈(Cj E ds k).2,Sq E l l.length/\l≠[]
 |0,_=>⟨⟨uE.nil,fun h=>absurd rfl h,fun j h=>(by simp[Cj] at h)⟩,fun l h=>(by cases h)⟩
 |k+1,h=>by
  obtain⟨h1,h2⟩:=Jm oG (k:=k) (by omega)
  exact h1.step oG (by omega) _ h2
theorem CH {f:Int->Int}{ds:List Int}{N:Nat}{w:Int×List Int}:∀ {k:Nat},k<=ds.length->w∈v7 f ds N k->∃d∈ds,w=(d,kM f d (eL f d N))
 |0,_,h=>by cases h
 |k+1,hk,h=>by
  unfold v7 at h
  split at h
  .rcases List.mem_append.1 h with q|q
   .exact CH (by omega) q
   exact⟨_,af (by omega),List.mem_singleton.1 q⟩
  exact CH (by omega) h
section
variable {n:Int}{E:List (Int×Int)}{V L:List Int}{T S:List (List Int)}
theorem G4 (h:(aa n E V L T).2=0){w:Int×List Int}(hw:w∈(aa n E V L T).1):∀k,k+1<w.2.length->ak E (w.2.getD (k+1) 0)=LI E (w.2.getD k 0):=by
 rw[dm] at h
 obtain⟨hp,hT,_⟩:=fN h
 rw[fH h] at hw
 rcases List.mem_append.1 hw with q|q
 .have:=(qn (Nat.le_refl _) w q).1
  intro k hk;omega
 obtain⟨d,hd,rfl⟩:=CH (Nat.le_refl _) q
 have Jh:=(cO d).1 hd
 intro k hk
 have hk:k+1<(kM (fF E T) d (eL (fF E T) d (dA L L.length).length)).length:=hk
 rw[fG] at hk
 show ak E ((kM (fF E T) d (eL (fF E T) d (dA L L.length).length)).getD (k+1) 0)=LI E ((kM (fF E T) d (eL (fF E T) d (dA L L.length).length)).getD k 0)
 rw[jB hk,jB (by omega)]
 have hx:=(Ev hp hT Jh).2.2.2.2 k
 show ak E (fF E T (jq (fF E T) k d))=_
 rw[jL hp hT hx]
 exact(jk hp hT hx).2
theorem yB {V' L':List Int}(h:bA n E V L T S=0)(X8:aA n E V' L'=0)(hs:∀e∈L,e∈L'){l:List Int}(hl:l∈bn n E V L T S):mV n E V' L' l=true:=by
 obtain⟨_,h2,_,h4⟩:=yw hl
 rw[mY h] at hl
 obtain⟨w,hw,hl⟩:=CE (Nat.le_refl _) l hl
 have lU:=bf (bH h).1
 unfold fP at hl
 split at hl
 .obtain⟨c1,c2⟩:=(Jm (G4 lU hw) (Nat.le_refl _)).2 l hl
  obtain⟨_,_,hL',_⟩:=aD X8
  refine decide_eq_true ⟨X8,c2,fun d hd=>⟨(h4 d hd).1,?_⟩,c1⟩
  rw[eC hL',decide_eq_true_eq]
  exact hs _ (h2 d hd)
 cases hl
end
end Go.Proofs.YtnfdimfepbbbpaaGreat
namespace Go.Proofs.YtnfdimfepbbbpaaGreat
open Go.RowKit
open Go.Proofs.YtnfdimfepbbbpaaGreat.Deep
theorem EX {α:Type}{f:α->Int}:∀ {a b:List α},a.Pairwise (fun x y=>f x<f y)->b.Pairwise (fun x y=>f x<f y)->(∀x,x∈a↔x∈b)->a=b
 |[],[],_,_,_=>rfl
 |[],y::b,_,_,h=>by have:=(h y).2 List.mem_cons_self;cases this
 |x::a,[],_,_,h=>by have:=(h x).1 List.mem_cons_self;cases this
 |x::a,y::b,ha,hb,h=>by
  obtain⟨a1,a2⟩:=List.pairwise_cons.1 ha
  obtain⟨b1,b2⟩:=List.pairwise_cons.1 hb
  have e:x=y:=by
   rcases List.mem_cons.1 ((h x).1 List.mem_cons_self) with z|z
   .exact z
   rcases List.mem_cons.1 ((h y).2 List.mem_cons_self) with w|w
   .exact w.symm
   have:=a1 y w
   have:=b1 x z
   omega
  subst e
  rw[EX a2 b2 fun z=>⟨fun hz=>?_,fun hz=>?_⟩]
  .rcases List.mem_cons.1 ((h z).1 (List.mem_cons_of_mem _ hz)) with w|w
   .subst w;have:=a1 z hz;omega
   exact w
  rcases List.mem_cons.1 ((h z).2 (List.mem_cons_of_mem _ hz)) with w|w
  .subst w;have:=b1 z hz;omega
  exact w
theorem PG {V:List Int}{T:List (List Int)}(hV:BZ V):∀ {k:Nat},k<=V.length->(tK V T k).Pairwise (fun x y=>x.1<y.1)/\∀x∈tK V T k,∃j,j<k/\x.1= -1-V.getD (V.length-1-j) 0
 |0,_=>⟨List.Pairwise.nil,fun x hx=>(by cases hx)⟩
 |k+1,h=>by
  obtain⟨h1,h2⟩:=PG (T:=T) hV (k:=k) (by omega)
  unfold tK
  split
  .refine⟨List.pairwise_append.2 ⟨h1,List.pairwise_singleton _ _,fun a ha b hb=>?_⟩,fun x hx=>?_⟩
   .obtain⟨j,hj,e⟩:=h2 a ha
    rw[List.mem_singleton.1 hb,e]
    have:V.getD (V.length-1-k) 0<V.getD (V.length-1-j) 0:=by
     rw[getD_eq (show V.length-1-k<V.length by omega),getD_eq (show V.length-1-j<V.length by omega)]
     exact List.pairwise_iff_getElem.1 hV _ _ (by omega) (by omega) (by omega)
    show -1-_< -1-_
    omega
   rcases List.mem_append.1 hx with q|q
   .obtain⟨j,hj,e⟩:=h2 x q;exact⟨j,by omega,e⟩
   exact⟨k,Nat.lt_succ_self _,by rw[List.mem_singleton.1 q]⟩
  exact⟨h1,fun x hx=>let⟨j,hj,e⟩:=h2 x hx;⟨j,by omega,e⟩⟩
theorem PI {f:Int->Int}{ds:List Int}{N:Nat}(hd:BZ ds):∀ {k:Nat},k<=ds.length->(v7 f ds N k).Pairwise (fun x y=>x.1<y.1)/\∀x∈v7 f ds N k,∃j,j<k/\x.1=ds.getD j 0
 |0,_=>⟨List.Pairwise.nil,fun x hx=>(by cases hx)⟩
 |k+1,h=>by
  obtain⟨h1,h2⟩:=PI (f:=f) (N:=N) hd (k:=k) (by omega)
  unfold v7
  split
  .refine⟨List.pairwise_append.2 ⟨h1,List.pairwise_singleton _ _,fun a ha b hb=>?_⟩,fun x hx=>?_⟩
   .obtain⟨j,hj,e⟩:=h2 a ha
    rw[List.mem_singleton.1 hb,e]
    show ds.getD j 0<ds.getD k 0
    rw[getD_eq (show j<ds.length by omega),getD_eq (show k<ds.length by omega)]
    exact List.pairwise_iff_getElem.1 hd _ _ (by omega) (by omega) (by omega)
   rcases List.mem_append.1 hx with q|q
   .obtain⟨j,hj,e⟩:=h2 x q;exact⟨j,by omega,e⟩
   exact⟨k,Nat.lt_succ_self _,by rw[List.mem_singleton.1 q]⟩
  exact⟨h1,fun x hx=>let⟨j,hj,e⟩:=h2 x hx;⟨j,by omega,e⟩⟩
theorem Ld {n:Int}{E:List (Int×Int)}{V L:List Int}{T:List (List Int)}(h:(aa n E V L T).2=0):(aa n E V L T).1.Pairwise fun x y=>x.1<y.1:=by
 rw[dm] at h
 obtain⟨hp,hT,_⟩:=fN h
 obtain⟨_,hV,hL,_⟩:=aD hp
 rw[fH h]
 obtain⟨l1,l2⟩:=PG (T:=T) (aG.1 hV).1 (Nat.le_refl _)
 obtain⟨r1,r2⟩:=PI (f:=fF E T) (N:=(dA L L.length).length) (Ce (aG.1 hL).1 (Nat.le_refl _)) (Nat.le_refl _)
 refine List.pairwise_append.2 ⟨l1,r1,fun a ha b hb=>?_⟩
 obtain⟨j,hj,e1⟩:=l2 a ha
 obtain⟨i,hi,e2⟩:=r2 b hb
 have v0:=(aG.1 hV).2 _ (af (l:=V) (i:=V.length-1-j) (d:=0) (by omega))
 have b0:=(aG.1 hL).2 _ ((cO _).1 (af (l:=dA L L.length) (i:=i) (d:=0) hi))
 rw[e1,e2]
 omega
theorem Jn {n:Int}{E:List (Int×Int)}{V L:List Int}{T S:List (List Int)}(h:bA n E V L T S=0):(cA n E V L T S).Pairwise fun x y=>x.getD 0 0<y.getD 0 0:=by
 rw[qD h]
 have hh:=A5 h
 generalize Cv (aa n E V L T).1 S=U at*
 have hs:(kP U).Pairwise fun x y=>x.getD 0 0<=y.getD 0 0:=(List.pairwise_mergeSort (le:=fun a b:List Int=>decide (a.getD 0 0<=b.getD 0 0)) (fun a b c h1 h2=>by simp only[decide_eq_true_eq] at*;omega) (fun a b=>by simp only[Bool.or_eq_true,decide_eq_true_eq];omega) U).imp fun h=>of_decide_eq_true h
 have hn:(kP U).Pairwise fun x y=>x.getD 0 0≠y.getD 0 0:=by
  have:=hh.2
  rw[List.nodup_iff_pairwise_ne,List.pairwise_map] at this
  exact((List.mergeSort_perm U _).pairwise_iff fun h=>h.symm).2 this
 exact(hs.and hn).imp fun h=>by omega
end Go.Proofs.YtnfdimfepbbbpaaGreat
namespace Go.Proofs.YtnfdimfepbbbpaaGreat
open Go.RowKit
open Go.Proofs.YtnfdimfepbbbpaaGreat.Deep
section
variable {ow:List (Int×Int)}{S:List (List Int)}{N:Nat}{l:List Int}{s z:S4×List (Int×Int)}
theorem PJ {i:Int}{k:Nat}(h:oF ow l i s k=some z):(ah ow (l.getD k 0)).isSome=true/\(ah s.2 (l.getD k 0)).isSome=false/\∀x,(ah z.2 x).isSome=true↔(ah s.2 x).isSome=true\/x=l.getD k 0:=by
 have hp:∀m:List (Int×Int),∀x,(ah (cB m (l.getD k 0) i) x).isSome=true↔(ah m x).isSome=true\/x=l.getD k 0:=fun m x=>by
  rw[bO]
  by_cases q:l.getD k 0=x
  .rw[if_pos q];exact⟨fun _=>.inr q.symm,fun _=>rfl⟩
  rw[if_neg q];exact⟨.inl,fun w=>w.elim id fun w=>absurd w.symm q⟩
 unfold oF at h
 by_cases q:(ah ow (l.getD k 0)).isSome=false\/(ah s.2 (l.getD k 0)).isSome=true\/(0<k/\l.getD k 0<=l.getD (k-1) 0)
 .rw[if_pos q] at h;cases h
 rw[if_neg q] at h
 refine⟨by cases hq:(ah ow (l.getD k 0)).isSome;exact absurd (.inl hq) q;rfl,by cases hq:(ah s.2 (l.getD k 0)).isSome;rfl;exact absurd (.inr (.inl hq)) q,?_⟩
 split at h
 .cases h;exact hp s.2
 split at h
 .cases h;exact hp s.2
 cases h
theorem EY {i:Int}:∀ {k:Nat} {z:S4×List (Int×Int)},k<=l.length->runK ow l i s k=some z->
  (∀x,(ah z.2 x).isSome=true↔(ah s.2 x).isSome=true\/x∈l.take k)/\∀x∈l.take k,(ah ow x).isSome=true/\(ah s.2 x).isSome=false
 |0,z,_,h=>by
  have h:some s=some z:=h
  cases h
  exact⟨fun x=>⟨.inl,fun w=>w.elim id fun w=>(by simp at w)⟩,fun x hx=>(by simp at hx)⟩
 |k+1,z,hk,h=>by
  have h:(runK ow l i s k).bind (fun y=>oF ow l i y k)=some z:=h
  cases hq:runK ow l i s k with
  |none=>rw[hq] at h;cases h
  |some y=>
   rw[hq] at h
   obtain⟨h1,h2⟩:=EY (k:=k) (by omega) hq
   obtain⟨k1,k2,k3⟩:=PJ (show oF ow l i y k=some z from h)
   rw[b6 (show k<l.length by omega) 0]
   refine⟨fun x=>?_,fun x hx=>?_⟩
   .rw[k3,h1,List.mem_append,List.mem_singleton,or_assoc]
   rcases List.mem_append.1 hx with w|w
   .exact h2 x w
   rw[List.mem_singleton.1 w]
   refine⟨k1,?_⟩
   cases hv:(ah s.2 (l.getD k 0)).isSome with
   |false=>rfl
   |true=>have:=(h1 (l.getD k 0)).2 (.inl hv);rw[k2] at this;cases this
theorem yC:∀ {i:Nat} {z:S4×List (Int×Int)},iU ow S N i=some z->(∀x,(ah z.2 x).isSome=true↔∃j,j<i/\x∈S.getD j [])/\(∀j,j<i->∀x∈S.getD j [],(ah ow x).isSome=true)/\∀a b,a<b->b<i->∀x∈S.getD a [],x∉S.getD b []
 |0,z,h=>by
  have h:some (mQ N,([]:List (Int×Int)))=some z:=h
  cases h
  exact⟨fun x=>⟨fun w=>(by cases w),fun⟨j,w,_⟩=>(by omega)⟩,fun j w=>(by omega),fun a b _ w=>(by omega)⟩
 |i+1,z,h=>by
  have h:(iU ow S N i).bind (fun s=>lW ow S s i)=some z:=h
  cases hq:iU ow S N i with
  |none=>rw[hq] at h;cases h
  |some y=>
   rw[hq] at h
   have h:lW ow S y i=some z:=h
   obtain⟨h1,h2,h3⟩:=yC hq
   unfold lW at h
   split at h
   .cases h
   obtain⟨k1,k2⟩:=EY (Nat.le_refl _) h
   rw[List.take_length] at k1 k2
   refine⟨fun x=>?_,fun j hj x hx=>?_,fun a b uY hb x hx=>?_⟩
   .rw[k1,h1]
    constructor
    .rintro(⟨j,w1,w2⟩|w)
     .exact⟨j,by omega,w2⟩
     exact⟨i,Nat.lt_succ_self _,w⟩
    rintro⟨j,w1,w2⟩
    rcases Nat.lt_succ_iff_lt_or_eq.1 w1 with q|q
    .exact .inl ⟨j,q,w2⟩
    subst q;exact .inr w2
   .rcases Nat.lt_succ_iff_lt_or_eq.1 hj with q|q
    .exact h2 j q x hx
    subst q;exact(k2 x hx).1
   rcases Nat.lt_succ_iff_lt_or_eq.1 hb with q|q
   .exact h3 a b uY q x hx
   subst q
   intro w
   have:=(h1 x).2 ⟨a,uY,hx⟩
   rw[(k2 x w).2] at this;cases this
end
theorem G5 {E:List (Int×Int)}{P:kQ}{W:List (Int×List Int)}:∀ {k:Nat},k<=W.length->∀x,(ah (bL E P W k) x).isSome=true↔∃w∈W.take k,w.1=x
 |0,_,x=>⟨fun h=>(by cases h),fun⟨w,hw,_⟩=>(by simp at hw)⟩
 |k+1,h,x=>by
  show(ah (cB (bL E P W k) (W.getD k (0,[])).1 _) x).isSome=true↔_
  rw[bO,b6 (show k<W.length by omega) (0,[])]
  by_cases q:(W.getD k (0,[])).1=x
  .rw[if_pos q];exact⟨fun _=>⟨_,List.mem_append_right _ (List.mem_singleton.2 rfl),q⟩,fun _=>rfl⟩
  rw[if_neg q,G5 (k:=k) (by omega)]
  constructor
  .rintro⟨w,hw,e⟩;exact⟨w,List.mem_append_left _ hw,e⟩
  rintro⟨w,hw,e⟩
  rcases List.mem_append.1 hw with z|z
  .exact⟨w,z,e⟩
  rw[List.mem_singleton.1 z] at e;exact absurd e q
section
variable {S:List (List Int)}{W:List (Int×List Int)}{key:Int}
theorem CI:∀ {k:Nat},(∀j,j<k->key∉S.getD j [])->AV S key k=([key],true)
 |0,_=>rfl
 |k+1,h=>by
  unfold AV
  rw[if_neg (h k (Nat.lt_succ_self _))]
  exact CI fun j hj=>h j (by omega)
theorem G6:∀ {k j:Nat},j<k->key∈S.getD j []->(∀i,j<i->i<k->key∉S.getD i [])->AV S key k=(S.getD j [],decide ((S.getD j []).getD 0 0=key))
 |k+1,j,hj,hk,hn=>by
  unfold AV
  rcases Nat.lt_succ_iff_lt_or_eq.1 hj with q|q
  .rw[if_neg (hn k q (Nat.lt_succ_self _))]
   exact G6 q hk fun i h1 h2=>hn i h1 (by omega)
  subst q;rw[if_pos hk]
theorem yD:∀ {k:Nat} {x:List Int},AV S key k=(x,true)->x.getD 0 0=key
 |0,x,h=>by cases h;rfl
 |k+1,x,h=>by
  unfold AV at h
  split at h
  .have e1:S.getD k []=x:=(Prod.ext_iff.1 h).1
   have e2:decide ((S.getD k []).getD 0 0=key)=true:=(Prod.ext_iff.1 h).2
   rw[<-e1];exact of_decide_eq_true e2
  exact yD h
theorem CJ {x:List Int}:∀ {k:Nat},k<=W.length->(x∈sg S W k↔∃w∈W.take k,AV S w.1 S.length=(x,true))
 |0,_=>⟨fun h=>(by cases h),fun⟨w,hw,_⟩=>(by simp at hw)⟩
 |k+1,h=>by
  have ih:=CJ (x:=x) (k:=k) (by omega)
  rw[b6 (show k<W.length by omega) (0,[])]
  unfold sg
  by_cases q:(AV S (W.getD k (0,[])).1 S.length).2=true
  .rw[if_pos q,List.mem_append,ih,List.mem_singleton]
   constructor
   .rintro(⟨w,hw,e⟩|e)
    .exact⟨w,List.mem_append_left _ hw,e⟩
    exact⟨_,List.mem_append_right _ (List.mem_singleton.2 rfl),Prod.ext e.symm q⟩
   rintro⟨w,hw,e⟩
   rcases List.mem_append.1 hw with z|z
   .exact .inl ⟨w,z,e⟩
   rw[List.mem_singleton.1 z] at e;exact .inr (by rw[e])
  rw[if_neg q,ih]
  constructor
  .rintro⟨w,hw,e⟩;exact⟨w,List.mem_append_left _ hw,e⟩
  rintro⟨w,hw,e⟩
  rcases List.mem_append.1 hw with z|z
  .exact⟨w,z,e⟩
  rw[List.mem_singleton.1 z] at e;rw[e] at q;exact absurd rfl q
theorem Jo (hW:W.Pairwise fun x y=>x.1<y.1):∀ {k:Nat},k<=W.length->(sg S W k).Pairwise fun x y=>x.getD 0 0<y.getD 0 0
 |0,_=>List.Pairwise.nil
 |k+1,h=>by
  have ih:=Jo hW (k:=k) (by omega)
  unfold sg
  split
  .rename_i q
   refine List.pairwise_append.2 ⟨ih,List.pairwise_singleton _ _,fun a ha b hb=>?_⟩
   obtain⟨w,hw,e⟩:=(CJ (show k<=W.length by omega)).1 ha
   rw[yD e,List.mem_singleton.1 hb,yD (x:=(AV S (W.getD k (0,[])).1 S.length).1) (Prod.ext rfl q)]
   have ht:W.take (k+1)=W.take k++[W.getD k (0,[])]:=b6 (by omega) _
   have hp:(W.take (k+1)).Pairwise fun x y=>x.1<y.1:=hW.sublist (List.take_sublist _ _)
   rw[ht] at hp
   exact(List.pairwise_append.1 hp).2.2 w hw _ (List.mem_singleton.2 rfl)
  exact ih
end
theorem PK {m:List (Int×Int)}{W:List (Int×List Int)}{w:Int×List Int}{i:Nat}(hi:i<W.length)(h:(ah m (W.getD i (0,[])).1).isSome=false)(e:W.getD i (0,[])=w):[w.1]∈Cu m W W.length:=by
 have key:∀k,i<k->[w.1]∈Cu m W k:=by
  intro k hk
  induction k with
  |zero=>omega
  |succ k ih=>
   unfold Cu
   rcases Nat.lt_succ_iff_lt_or_eq.1 hk with q|q
   .split
    .exact ih q
    exact List.mem_append_left _ (ih q)
   subst q
   rw[if_neg (by rw[h];decide),e]
   exact List.mem_append_right _ (List.mem_singleton.2 rfl)
 exact key _ hi
theorem UU {n:Int}{E:List (Int×Int)}{V L:List Int}{T S:List (List Int)}(h:bA n E V L T S=0):sg S (ax E V L T) (ax E V L T).length=cA n E V L T S:=by
 obtain⟨hf,z,hz,_⟩:=bH h
 have hw:=bf hf
 have nk:(bT n E V L T).2=0:=by rw[<-dm];exact hw
 rw[gq nk]
 obtain⟨m1,m2,m3⟩:=yC hz
 have hlen:=mT hz
 have aag:∀a b,a<S.length->b<S.length->∀x,x∈S.getD a []->x∈S.getD b []->a=b:=fun a b ha hb x h1 h2=>by
  rcases Nat.lt_trichotomy a b with q|q|q
  .exact absurd h2 (m3 a b q hb x h1)
  .exact q
  exact absurd h1 (m3 b a q ha x h2)
 refine EX (Jo (Ld hw) (Nat.le_refl _)) (Jn h) fun x=>?_
 rw[CJ (Nat.le_refl _),List.take_length,qD h,Cw]
 unfold Cv
 obtain⟨sub,b1,b2,b3⟩:=pL (m:=e6 S S.length) (W:=(aa n E V L T).1) (Nat.le_refl _)
 constructor
 .rintro⟨w,rT,e⟩
  by_cases q:∃j,j<S.length/\w.1∈S.getD j []
  .obtain⟨j,hj,hx⟩:=q
   rw[G6 hj hx fun i h1 h2 z=>by have:=aag j i hj h2 _ hx z;omega] at e
   have this:S.getD j []=x:=(Prod.ext_iff.1 e).1
   rw[<-this]
   exact List.mem_append_left _ (af hj)
  rw[CI fun j hj hx=>q ⟨j,hj,hx⟩] at e
  have this:[w.1]=x:=(Prod.ext_iff.1 e).1
  refine List.mem_append_right _ ?_
  obtain⟨k,hk,e2⟩:=aB (z:=((0:Int),([]:List Int))).1 rT
  rw[<-this]
  exact PK hk (by rw[e2];cases hq:(ah (e6 S S.length) w.1).isSome;rfl;exact absurd ((qC (Nat.le_refl _) w.1).1 hq) q) e2
 intro hx
 rcases List.mem_append.1 hx with q|q
 .obtain⟨j,hj,e⟩:=aB (z:=([]:List Int)).1 q
  have dL:=hlen j hj
  have zy:x.getD 0 0∈S.getD j []:=by rw[e];exact af (by rw[e] at dL;omega)
  obtain⟨w,rT,e3⟩:=(G5 (Nat.le_refl _) _).1 (m2 j hj _ zy)
  rw[List.take_length] at rT
  refine⟨w,rT,?_⟩
  rw[e3,G6 hj zy fun i h1 h2 z=>by have:=aag j i hj h2 _ zy z;omega,e,decide_eq_true rfl]
 rw[b2] at q
 obtain⟨y,hy,rfl⟩:=List.mem_map.1 q
 have hs:=b1.subset hy
 rw[List.take_length] at hs
 obtain⟨w,rT,rfl⟩:=List.mem_map.1 hs
 refine⟨w,rT,CI fun j hj hx=>?_⟩
 have:=(qC (Nat.le_refl S.length) w.1).2 ⟨j,hj,hx⟩
 rw[b3 _ hy] at this;cases this
end Go.Proofs.YtnfdimfepbbbpaaGreat
