/-
  Texts joined by program: AgA, AgB, WkVb, WkVd, WkVe, WkVg, WkVh, AgC, AgD, AgE, AgF, AgG, AgH, AgI, AgJ, AgK, WkVi, AgL, AgM, AgN, AgO, AgP.
-/
import Derived.Test.YtnfdimfepbbbpaaGreatJAuditAgrees6
set_option linter.unusedSimpArgs false
set_option linter.unusedVariables false
set_option maxRecDepth 100000
set_option maxHeartbeats 8000000
namespace Go.Proofs.YtnfdimfepbbbpaaGreat
open Go.RowKit
abbrev JP (S:Int->Prop)(p:Int->Int×Int):Int->Int->Prop:=pM fun a b=> ∃e,S e/\a=(p e).1/\b=(p e).2
section
variable {p:Int->Int×Int}{S S':Int->Prop}{a b c e:Int}{es N rs Dt:List Int}{R:Int->Int->Prop}
theorem JP.mono (h:∀f,S f->S' f)(k:JP S p a b):JP S' p a b:=pM.mono (fun _ _ ⟨f,h1,h2⟩=>⟨f,h f h1,h2⟩) k
theorem JP.pz (h:S e):JP S p (p e).1 (p e).2:=.of ⟨e,h,rfl,rfl⟩
theorem JP.none (h:∀f,¬S f)(k:JP S p a b):a=b:=by
 induction k with
 |of q=>obtain⟨f,hf,_⟩:=q;exact absurd hf (h f)
 |id _=>rfl
 |sy _ ih=>exact ih.symm
 |tr _ _ i1 i2=>exact i1.trans i2
theorem JP.add (k:JP (fun f=>f=e\/S f) p a b):JP S p a b\/(JP S p a (p e).1/\JP S p b (p e).2)\/(JP S p a (p e).2/\JP S p b (p e).1):=by
 induction k with
 |of q=>
  obtain⟨f,hf,rfl,rfl⟩:=q
  rcases hf with rfl|hf
  .exact .inr (.inl ⟨.id _,.id _⟩)
  exact .inl (.of ⟨f,hf,rfl,rfl⟩)
 |id _=>exact .inl (.id _)
 |sy _ ih=>exact ih.elim (fun h=>.inl h.sy) fun h=>h.elim (fun h=>.inr (.inr ⟨h.2,h.1⟩)) fun h=>.inr (.inl ⟨h.2,h.1⟩)
 |tr _ _ i1 i2=>
  rcases i1 with x|⟨x,y⟩|⟨x,y⟩<;>rcases i2 with z|⟨z,w⟩|⟨z,w⟩
  .exact .inl (x.tr z)
  .exact .inr (.inl ⟨x.tr z,w⟩)
  .exact .inr (.inr ⟨x.tr z,w⟩)
  .exact .inr (.inl ⟨x,z.sy.tr y⟩)
  .exact .inl (x.tr (z.sy.tr (y.tr w.sy)))
  .exact .inl (x.tr w.sy)
  .exact .inr (.inr ⟨x,z.sy.tr y⟩)
  .exact .inl (x.tr w.sy)
  exact .inl (x.tr (z.sy.tr (y.tr w.sy)))
theorem JP.cons:JP (· ∈e::es) p a b↔JP (fun f=>f=e\/f∈es) p a b:=⟨.mono fun f h=>List.mem_cons.1 h,.mono fun f h=>List.mem_cons.2 h⟩
def F6 (p:Int->Int×Int):List Int->Nat->Prop
 |[],k=>k=0
 |e::es,k=> ∃j,F6 p es j/\((JP (· ∈es) p (p e).1 (p e).2/\k=j)\/(¬JP (· ∈es) p (p e).1 (p e).2/\k=j+1))
theorem Di:∀es,∃k,F6 p es k
 |[]=>⟨0,rfl⟩
 |e::es=>by
  obtain⟨j,h⟩:=Di es
  by_cases q:JP (· ∈es) p (p e).1 (p e).2
  .exact⟨j,j,h,.inl ⟨q,rfl⟩⟩
  exact⟨j+1,j,h,.inr ⟨q,rfl⟩⟩
structure lQ (N:List Int)(R:Int->Int->Prop)(rs:List Int):Prop where
 nd:rs.Nodup
 sub:∀r∈rs,r∈N
 ex:∀x∈N,∃r∈rs,R x r
 uq:∀r∈rs,∀r'∈rs,R r r'->r=r'
theorem JF {α β:Type}{Q:α->β->Prop}(hq:∀x x' y,Q x y->Q x' y->x=x'):∀(l:List α) (m:List β),l.Nodup->(∀x∈l,∃y∈m,Q x y)->l.length<=m.length
 |[],_,_,_=>Nat.zero_le _
 |x::l,m,hl,h=>by
  obtain⟨y,hy,AR⟩:=h x List.mem_cons_self
  obtain⟨m1,m2,rfl⟩:=List.append_of_mem hy
  have:=JF hq l (m1++m2) (List.nodup_cons.1 hl).2 fun z hz=>by
   obtain⟨w,hw,hzw⟩:=h z (List.mem_cons_of_mem _ hz)
   refine⟨w,?_,hzw⟩
   rcases List.mem_append.1 hw with q|q
   .exact List.mem_append_left _ q
   rcases List.mem_cons.1 q with e|q
   .subst e;exact absurd (hq _ _ _ AR hzw▸hz) (List.nodup_cons.1 hl).1
   exact List.mem_append_right _ q
  simp only[List.length_cons,List.length_append] at this ⊢
  omega
theorem lQ.le (h:lQ N R rs)(k:lQ N R Dt)(hs:∀x y,R x y->R y x)(ht:∀x y z,R x y->R y z->R x z):rs.length<=Dt.length:=
 JF (Q:=fun x y=>x∈rs/\R x y) (fun x x' y q q'=>h.uq _ q.1 _ q'.1 (ht _ _ _ q.2 (hs _ _ q'.2))) rs Dt h.nd fun x hx=>by
  obtain⟨r,hr,q⟩:=k.ex x (h.sub x hx)
  exact⟨r,hr,hx,q⟩
theorem qE (hN:N.Nodup):∀(es:List Int) (k:Nat),(∀e∈es,(p e).1∈N/\(p e).2∈N)->F6 p es k->∃rs,lQ N (JP (· ∈es) p) rs/\rs.length+k=N.length
 |[],k,_,h=>by
  have h:k=0:=h
  subst h
  exact⟨N,⟨hN,fun _ h=>h,fun x hx=>⟨x,hx,.id _⟩,fun r _ r' _ q=>JP.none (fun f hf=>by cases hf) q⟩,rfl⟩
 |e::es,k,hp,h=>by
  obtain⟨j,hj,hk⟩:=h
  obtain⟨rs,hr,hl⟩:=qE hN es j (fun f hf=>hp f (List.mem_cons_of_mem _ hf)) hj
  have up:∀ {x y},JP (· ∈es) p x y->JP (· ∈e::es) p x y:=fun q=>q.mono fun f hf=>List.mem_cons_of_mem _ hf
  rcases hk with⟨q,rfl⟩|⟨q,rfl⟩
  .refine⟨rs,⟨hr.nd,hr.sub,fun x hx=>?_,fun r h1 r' h2 w=>hr.uq _ h1 _ h2 ?_⟩,hl⟩
   .obtain⟨r,h1,h2⟩:=hr.ex x hx;exact⟨r,h1,up h2⟩
   rcases JP.add (JP.cons.1 w) with x|⟨x,y⟩|⟨x,y⟩
   .exact x
   .exact x.tr (q.tr y.sy)
   exact x.tr (q.sy.tr y.sy)
  obtain⟨h1,h2⟩:=hp e List.mem_cons_self
  obtain⟨r1,m1,j1⟩:=hr.ex _ h1
  obtain⟨r2,m2,j2⟩:=hr.ex _ h2
  have cO:r1≠r2:=fun z=>q (j1.tr (z▸j2.sy))
  refine⟨rs.erase r2,⟨hr.nd.erase _,fun r h=>hr.sub r (List.mem_of_mem_erase h),fun x hx=>?_,fun r h r' h' w=>?_⟩,?_⟩
  .obtain⟨r,h3,h4⟩:=hr.ex x hx
   by_cases z:r=r2
   .subst z
    exact⟨r1,(List.Nodup.mem_erase_iff hr.nd).2 ⟨cO,m1⟩,(up h4).tr ((up j2).sy.tr (JP.pz (S:=(· ∈e::es)) List.mem_cons_self).sy|>.tr (up j1))⟩
   exact⟨r,(List.Nodup.mem_erase_iff hr.nd).2 ⟨z,h3⟩,up h4⟩
  .obtain⟨n1,n2⟩:=(List.Nodup.mem_erase_iff hr.nd).1 h
   obtain⟨n3,n4⟩:=(List.Nodup.mem_erase_iff hr.nd).1 h'
   rcases JP.add (JP.cons.1 w) with x|⟨x,y⟩|⟨x,y⟩
   .exact hr.uq _ n2 _ n4 x
   .exact absurd (hr.uq _ n4 _ m2 (y.tr j2)) n3
   exact absurd (hr.uq _ n2 _ m2 (x.tr j2)) n1
  rw[List.length_erase_of_mem m2]
  have:=List.length_pos_of_mem m2
  omega
theorem P6 {Vc:List Int}(h:∀f,f∈es↔f∈Vc):JP (· ∈es) p a b↔JP (· ∈Vc) p a b:=⟨.mono fun f=>(h f).1,.mono fun f=>(h f).2⟩
theorem Fu {Vc:List Int}(hN:N.Nodup)(hp:∀e∈es,(p e).1∈N/\(p e).2∈N)(h:∀f,f∈es↔f∈Vc){k k':Nat}(h1:F6 p es k)(h2:F6 p Vc k'):k=k':=by
 obtain⟨rs,r1,l1⟩:=qE hN es k hp h1
 obtain⟨Dt,r2,l2⟩:=qE hN Vc k' (fun e he=>hp e ((h e).2 he)) h2
 have r3:lQ N (JP (· ∈es) p) Dt:=⟨r2.nd,r2.sub,fun x hx=>by obtain⟨r,a,b⟩:=r2.ex x hx;exact⟨r,a,(P6 h).2 b⟩,fun r a r' b q=>r2.uq r a r' b ((P6 h).1 q)⟩
 have e1:=r1.le r3 (fun _ _ q=>q.sy) fun _ _ _ q w=>q.tr w
 have e2:=r3.le r1 (fun _ _ q=>q.sy) fun _ _ _ q w=>q.tr w
 omega
end
def Ta (p:Int->Int×Int):List Int->List Int->Nat->Prop
 |_,[],k=>k=0
 |pre,e::es,k=> ∃j,Ta p (e::pre) es j/\((JP (· ∈pre) p (p e).1 (p e).2/\k=j)\/(¬JP (· ∈pre) p (p e).1 (p e).2/\k=j+1))
structure HG (L pre es:List Int):Prop where
 mem:∀f,f∈L↔f∈pre\/f∈es
 nd:es.Nodup
 dj:∀f∈pre,f∉es
section
variable {p q:Int->Int×Int}{L pre es N M:List Int}{e:Int}{k j:Nat}
theorem HG.tl (h:HG L pre (e::es)):HG L (e::pre) es:=by
 obtain⟨n1,n2⟩:=List.nodup_cons.1 h.nd
 refine⟨fun f=>?_,n2,fun f hf hx=>?_⟩
 .rw[h.mem,List.mem_cons,List.mem_cons]
  exact⟨fun q=>q.elim (fun q=>.inl (.inr q)) fun q=>q.elim (fun q=>.inl (.inl q)) .inr,fun q=>q.elim (fun q=>q.elim (fun q=>.inr (.inl q)) .inl) fun q=>.inr (.inr q)⟩
 rcases List.mem_cons.1 hf with q|q
 .subst q;exact n1 hx
 exact h.dj f q (List.mem_cons_of_mem _ hx)
theorem UW:∀es pre,∃k,Ta p pre es k
 |[],_=>⟨0,rfl⟩
 |e::es,pre=>by
  obtain⟨j,h⟩:=UW es (e::pre)
  by_cases q:JP (· ∈pre) p (p e).1 (p e).2
  .exact⟨j,j,h,.inl ⟨q,rfl⟩⟩
  exact⟨j+1,j,h,.inr ⟨q,rfl⟩⟩
theorem HH:∀ {es pre:List Int} {k j:Nat},Ta p pre es k->F6 p pre j->F6 p (es.reverse++pre) (j+k)
 |[],pre,k,j,h,hj=>by
  have h:k=0:=h
  subst h;exact hj
 |e::es,pre,k,j,h,hj=>by
  obtain⟨m,hm,hk⟩:=h
  rw[List.reverse_cons,List.append_assoc]
  rcases hk with⟨q,rfl⟩|⟨q,rfl⟩
  .exact HH hm ⟨j,hj,.inl ⟨q,rfl⟩⟩
  have:=HH hm (j:=j+1) ⟨j,hj,.inr ⟨q,rfl⟩⟩
  rw[show j+(m+1)=j+1+m by omega];exact this
def P7 (L:List Int)(p q:Int->Int×Int):Prop:=∀pre e es,HG L pre (e::es)->¬JP (· ∈pre) p (p e).1 (p e).2->JP (· ∈es) q (q e).1 (q e).2
theorem JG (hc:P7 L p q):∀ {es pre:List Int} {k j:Nat},HG L pre es->Ta p pre es k->F6 q es j->k+j<=es.length
 |[],_,k,j,_,h1,h2=>by
  have h1:k=0:=h1
  have h2:j=0:=h2
  subst h1 h2;exact Nat.le_refl _
 |e::es,pre,k,j,hs,h1,h2=>by
  obtain⟨k',t1,t2⟩:=h1
  obtain⟨j',t3,t4⟩:=h2
  have:=JG hc hs.tl t1 t3
  rw[List.length_cons]
  rcases t2 with⟨x,rfl⟩|⟨x,rfl⟩<;>rcases t4 with⟨y,rfl⟩|⟨y,rfl⟩
  .omega
  .omega
  .omega
  exact absurd (hc _ _ _ hs x) y
theorem JH (hc:P7 L p q){k j:Nat}(hs:HG L pre (e::es))(h1:Ta p pre (e::es) k)(h2:F6 q (e::es) j)(hl:k+j=es.length+1):
  (JP (· ∈pre) p (p e).1 (p e).2->¬JP (· ∈es) q (q e).1 (q e).2)/\∃k' j',Ta p (e::pre) es k'/\F6 q es j'/\k'+j'=es.length:=by
 obtain⟨k',t1,t2⟩:=h1
 obtain⟨j',t3,t4⟩:=h2
 have:=JG hc hs.tl t1 t3
 rcases t2 with⟨x,rfl⟩|⟨x,rfl⟩<;>rcases t4 with⟨y,rfl⟩|⟨y,rfl⟩
 .omega
 .exact⟨fun _=>y,_,_,t1,t3,by omega⟩
 .exact⟨fun z=>absurd z x,_,_,t1,t3,by omega⟩
 exact absurd (hc _ _ _ hs x) y
theorem BQ (hc:P7 L p q):∀ {xs pre:List Int} {k j:Nat},HG L pre (xs++es)->Ta p pre (xs++es) k->F6 q (xs++es) j->k+j=(xs++es).length->HG L (xs.reverse++pre) es/\∃k' j',Ta p (xs.reverse++pre) es k'/\F6 q es j'/\k'+j'=es.length
 |[],pre,k,j,hs,h1,h2,hl=>⟨hs,k,j,h1,h2,hl⟩
 |x::xs,pre,k,j,hs,h1,h2,hl=>by
  obtain⟨_,k',j',a,b,c⟩:=JH hc hs h1 h2 hl
  have:=BQ hc hs.tl a b c
  rw[List.reverse_cons,List.append_assoc]
  exact this
structure nS (L N M:List Int)(p q:Int->Int×Int):Prop where
 nL:L.Nodup
 nN:N.Nodup
 nM:M.Nodup
 hp:∀e∈L,(p e).1∈N/\(p e).2∈N
 hq:∀e∈L,(q e).1∈M/\(q e).2∈M
 cont:P7 L p q
 aae:∃a b,F6 p L a/\F6 q L b/\a+b=L.length
theorem WZ (h:HG L [] es)(hL:L.Nodup):es.length=L.length:=by
 have h1:=h.nd.length_le_of_subset (l₂:=L) fun f hf=>(h.mem f).2 (.inr hf)
 have h2:=hL.length_le_of_subset (l₂:=es) fun f hf=>((h.mem f).1 hf).elim (fun q=>by cases q) id
 omega
theorem nS.sum (h:nS L N M p q){a b:Nat}(hs:HG L [] es)(h1:Ta p [] es a)(h2:F6 q es b):a+b=es.length:=by
 obtain⟨x,y,e1,e2,e3⟩:=h.aae
 have hm:∀f,f∈L↔f∈es:=fun f=>by rw[hs.mem];simp
 have t1:=HH h1 (show F6 p [] 0 from rfl)
 have q1:=Fu h.nN h.hp (fun f=>by rw[hm];simp) e1 t1
 have q2:=Fu h.nM h.hq hm e2 h2
 rw[WZ hs h.nL]
 omega
theorem nS.part (h:nS L N M p q)(hn:pre.Nodup)(hs:HG L pre (e::es))(hj:JP (· ∈pre) p (p e).1 (p e).2):¬JP (· ∈es) q (q e).1 (q e).2:=by
 have s0:HG L [] (pre.reverse++e::es):=⟨fun f=>by rw[hs.mem];simp,List.nodup_append.2 ⟨(List.reverse_perm pre).nodup_iff.2 hn,hs.nd,fun x hx y hy z=>hs.dj x (List.mem_reverse.1 hx) (z▸hy)⟩,fun f hf=>by cases hf⟩
 obtain⟨a,ha⟩:=UW (p:=p) (pre.reverse++e::es) []
 obtain⟨b,hb⟩:=Di (p:=q) (pre.reverse++e::es)
 obtain⟨_,k',j',t1,t2,t3⟩:=BQ h.cont s0 ha hb (h.sum s0 ha hb)
 rw[List.reverse_reverse,List.append_nil] at t1
 exact(JH h.cont hs t1 t2 t3).1 hj
theorem nS.cut (h:nS L N M p q){S:Int->Prop}(he:e∈L)(hS:¬S e)(hj:JP (fun f=>f∈L/\S f) p (p e).1 (p e).2):¬JP (fun f=>f∈L/\¬S f/\f≠e) q (q e).1 (q e).2:=by
 have dS:∀f,Decidable (S f):=fun f=>Classical.propDecidable _
 intro w
 have hs:HG L (L.filter fun f=>decide (S f)) (e::L.filter fun f=>decide (¬S f/\f≠e)):=by
  refine⟨fun f=>?_,List.nodup_cons.2 ⟨fun q=>?_,h.nL.filter _⟩,fun f hf hx=>?_⟩
  .simp only[List.mem_filter,List.mem_cons,decide_eq_true_eq]
   constructor
   .intro q
    by_cases a:S f
    .exact .inl ⟨q,a⟩
    by_cases b:f=e
    .exact .inr (.inl b)
    exact .inr (.inr ⟨q,a,b⟩)
   rintro(q|q|q)
   .exact q.1
   .exact q▸he
   exact q.1
  .have:=List.mem_filter.1 q
   simp at this
  have h1:=List.mem_filter.1 hf
  simp only[decide_eq_true_eq] at h1
  rcases List.mem_cons.1 hx with q|q
  .exact hS (q▸h1.2)
  have h2:=List.mem_filter.1 q
  simp only[decide_eq_true_eq] at h2
  exact h2.2.1 h1.2
 refine h.part (h.nL.filter _) hs (hj.mono fun f hf=>List.mem_filter.2 ⟨hf.1,decide_eq_true hf.2⟩) (w.mono fun f hf=>List.mem_filter.2 ⟨hf.1,decide_eq_true hf.2⟩)
end
theorem JI {E:List (Int×Int)}{v:Int}{l:List Int}:(cL E v l= -1/\∀j,j<l.length->ah E (l.getD j 0)≠v)\/∃i:Nat,cL E v l=(i:Int)/\i<l.length/\ah E (l.getD i 0)=v:=by
 unfold cL
 by_cases q:l.findIdx (fun x=>decide (ah E x=v))<l.length
 .rw[if_pos q]
  refine .inr ⟨_,rfl,q,?_⟩
  have:=List.findIdx_getElem (w:=q)
  rw[getD_eq q]
  simpa using this
 rw[if_neg q]
 refine .inl ⟨rfl,fun j hj e=>q (List.findIdx_lt_length_of_exists ⟨l.getD j 0,ag hj,decide_eq_true e⟩)⟩
abbrev DB (E:List (Int×Int))(d:Int):Int:=ah E (an d)
section
variable {E:List (Int×Int)}{ds gone l:List Int}{d:Int}{k:Nat}
theorem sV {j:Nat}(h:j<gone.length):(gone++[d]).getD j 0=gone.getD j 0:=by
 rw[List.getD_eq_getElem?_getD,List.getElem?_append_left h,<-List.getD_eq_getElem?_getD]
theorem zo:(gone++[d]).getD gone.length 0=d:=by
 rw[List.getD_eq_getElem?_getD,List.getElem?_append_right (Nat.le_refl _),Nat.sub_self];rfl
theorem BR {i j:Nat}:(l.drop i).getD j 0=l.getD (i+j) 0:=by
 rw[List.getD_eq_getElem?_getD,List.getElem?_drop,<-List.getD_eq_getElem?_getD]
theorem we {i j:Nat}(h:j<i):(l.take i).getD j 0=l.getD j 0:=by
 rw[List.getD_eq_getElem?_getD,List.getElem?_take_of_lt h,<-List.getD_eq_getElem?_getD]
structure vp (E:List (Int×Int))(g:List Int):Prop where
 nd:∀i j,i<j->j<g.length->ah E (g.getD i 0)≠ah E (g.getD j 0)
 ch:∀j,j+1<g.length->ah E (g.getD (j+1) 0)=DB E (g.getD j 0)
structure X6 (E:List (Int×Int))(ds:List Int)(k:Nat)(g:List Int):Prop where
 p:vp E g
 la:g≠[]->0<k/\DB E (g.getD (g.length-1) 0)=DB E (ds.getD (k-1) 0)
 no:∀j,j<g.length->ah E (g.getD j 0)≠DB E (g.getD (g.length-1) 0)
theorem vp.nil:vp E []:=⟨fun i j _ h=>(by simp at h),fun j h=>(by simp at h)⟩
theorem vp.drop (h:vp E l)(i:Nat):vp E (l.drop i):=by
 refine⟨fun a b j9 hb=>?_,fun j hj=>?_⟩
 .rw[List.length_drop] at hb
  rw[BR,BR];exact h.nd _ _ (by omega) (by omega)
 rw[List.length_drop] at hj
 rw[BR,BR];exact h.ch (i+j) (by omega)
theorem vp.take (h:vp E l)(i:Nat):vp E (l.take i):=by
 refine⟨fun a b j9 hb=>?_,fun j hj=>?_⟩
 .rw[List.length_take] at hb
  rw[we (by omega),we (by omega)];exact h.nd _ _ j9 (by omega)
 rw[List.length_take] at hj
 rw[we (by omega),we (by omega)];exact h.ch j (by omega)
theorem X6.add (h:X6 E ds k gone)(si:∀k,k+1<ds.length->ah E (ds.getD (k+1) 0)=DB E (ds.getD k 0))(hk:k<ds.length):vp E (gone++[ds.getD k 0]):=by
 have hlen:(gone++[ds.getD k 0]).length=gone.length+1:=by simp
 have ug:gone≠[]->ah E (ds.getD k 0)=DB E (gone.getD (gone.length-1) 0):=fun cO=>by
  obtain⟨h0,h1⟩:=h.la cO
  have:=si (k-1) (by omega)
  rw[show k-1+1=k by omega] at this
  rw[this,h1]
 refine⟨fun i j wD hj=>?_,fun j hj=>?_⟩
 .rw[hlen] at hj
  by_cases q:j<gone.length
  .rw[sV q,sV (by omega)];exact h.p.nd i j wD q
  have e:j=gone.length:=by omega
  subst e
  have cO:gone≠[]:=fun e=>by rw[e] at wD;simp at wD
  rw[zo,sV wD,ug cO];exact h.no i wD
 rw[hlen] at hj
 by_cases q:j+1<gone.length
 .rw[sV q,sV (by omega)];exact h.p.ch j q
 have e:j+1=gone.length:=by omega
 have cO:gone≠[]:=fun e2=>by rw[e2] at e;simp at e
 rw[e,zo,sV (by omega),ug cO,show gone.length-1=j by omega]
theorem vp.X7 (h:vp E l)(hn:l≠[])(hc:ah E (l.getD 0 0)=DB E (l.getD (l.length-1) 0))(hb:¬((l.length:Int)=2/\l.getD 0 0=an (l.getD 1 0))):LU E l l.length:=by
 have L7:=List.length_pos_iff.2 hn
 refine⟨fun j hj=>?_,fun j hj i wD=>⟨h.nd i j wD hj,fun e=>?_⟩⟩
 .unfold C2
  by_cases q:j=0
  .rw[if_pos q,q];exact hc.symm
  rw[if_neg q]
  have:=h.ch (j-1) (by omega)
  rw[show j-1+1=j by omega] at this
  exact this.symm
 have ht:l.getD j 0=l.getD i 0\/l.getD j 0=an (l.getD i 0):=by unfold an;split<;>omega
 rcases ht with z|z
 .exact h.nd i j wD hj (by rw[z])
 have h1:ah E (l.getD (i+1) 0)=ah E (l.getD j 0):=by rw[h.ch i (by omega),z]
 have oC:j=i+1:=by
  rcases Nat.lt_trichotomy (i+1) j with w|w|w
  .exact absurd h1 (h.nd _ _ w hj)
  .exact w.symm
  omega
 have h2:DB E (l.getD j 0)=ah E (l.getD i 0):=by show ah E (an _)=_;rw[z,jX]
 have LI:j=l.length-1:=by
  by_cases w:j+1<l.length
  .have:=h.ch j w
   rw[h2] at this
   exact absurd this.symm (h.nd i (j+1) (by omega) w)
  omega
 have hi0:i=0:=by
  rw[<-LI,h2] at hc
  by_cases w:0<i
  .exact absurd hc (h.nd 0 i w (by omega))
  omega
 subst hi0
 exact hb ⟨by omega,by rw[oC] at z;rw[z,jX]⟩
theorem X6.step (h:X6 E ds k gone)(si:∀k,k+1<ds.length->ah E (ds.getD (k+1) 0)=DB E (ds.getD k 0))(hk:k<ds.length)(out:List (List Int))(ho:∀l∈out,LU E l l.length/\l≠[]):
  X6 E ds (k+1) (zQ E (gone,out) (ds.getD k 0)).1/\∀l∈(zQ E (gone,out) (ds.getD k 0)).2,LU E l l.length/\l≠[]:=by
 have hp:=h.add si hk
 have hlen:(gone++[ds.getD k 0]).length=gone.length+1:=by simp
 have gE:(gone++[ds.getD k 0]).getD ((gone++[ds.getD k 0]).length-1) 0=ds.getD k 0:=by rw[hlen,Nat.add_sub_cancel];exact zo
 have Xw:=JI (E:=E) (v:=ah E (an (ds.getD k 0))) (l:=gone++[ds.getD k 0])
 generalize hg:gone++[ds.getD k 0]=g at*
 have ab9:g≠[]:=fun e=>by rw[e] at hlen;simp at hlen
 unfold zQ
 dsimp only
 rw[hg]
 rcases Xw with⟨i1,i2⟩|⟨i,i1,i2,i3⟩
 .rw[if_pos (by rw[i1];decide)]
  refine⟨⟨hp,fun _=>⟨by omega,by rw[gE,Nat.add_sub_cancel]⟩,fun j hj=>?_⟩,ho⟩
  rw[gE];exact i2 j hj
 rw[if_neg (by omega),i1,Int.toNat_natCast]
 refine⟨⟨hp.take i,fun cO=>⟨by omega,?_⟩,fun j hj=>?_⟩,?_⟩
 .have hi0:0<i:=Nat.pos_of_ne_zero fun e=>cO (by rw[e];rfl)
  have hti:(g.take i).length=i:=by rw[List.length_take];omega
  rw[hti,we (by omega),Nat.add_sub_cancel]
  have:=hp.ch (i-1) (by omega)
  rw[show i-1+1=i by omega] at this
  rw[<-this,i3]
 .have hti:(g.take i).length=i:=by rw[List.length_take];omega
  rw[hti] at hj ⊢
  rw[we hj,we (by omega)]
  have:=hp.ch (i-1) (by omega)
  rw[show i-1+1=i by omega] at this
  rw[<-this]
  exact hp.nd j i hj i2
 dsimp only
 split
 .rename_i hb
  intro l hl
  rcases List.mem_append.1 hl with q|q
  .exact ho l q
  rw[List.mem_singleton.1 q]
  have QV:g.drop i≠[]:=fun e=>by
   have:(g.drop i).length=0:=by rw[e];rfl
   rw[List.length_drop] at this;omega
  refine⟨(hp.drop i).X7 QV ?_ fun z=>?_,QV⟩
  .rw[BR,BR,List.length_drop,show i+(g.length-i-1)=g.length-1 by omega,gE,Nat.add_zero,i3]
  rcases hb with w|w
  .exact w z.1
  exact w z.2
 exact ho
end
theorem uh {E:List (Int×Int)}{ds:List Int}(si:∀k,k+1<ds.length->ah E (ds.getD (k+1) 0)=DB E (ds.getD k 0)):∀ {k:Nat},k<=ds.length->X6 E ds k (vf E ds k).1/\∀l∈(vf E ds k).2,LU E l l.length/\l≠[]
 |0,_=>⟨⟨vp.nil,fun h=>absurd rfl h,fun j h=>(by simp[vf] at h)⟩,fun l h=>(by cases h)⟩
 |k+1,h=>by
  obtain⟨h1,h2⟩:=uh si (k:=k) (by omega)
  exact h1.step si (by omega) _ h2
theorem xz {f:Int->Int}{ds:List Int}{N:Nat}{w:Int×List Int}:∀ {k:Nat},k<=ds.length->w∈Bo f ds N k->∃d∈ds,w=(d,jm f d (dZ f d N))
 |0,_,h=>by cases h
 |k+1,hk,h=>by
  unfold Bo at h
  split at h
  .rcases List.mem_append.1 h with q|q
   .exact xz (by omega) q
   exact⟨_,ag (by omega),List.mem_singleton.1 q⟩
  exact xz (by omega) h
section
variable {n:Int}{E:List (Int×Int)}{V L:List Int}{T S:List (List Int)}
theorem oQ (h:(aa n E V L T).2=0){w:Int×List Int}(hw:w∈(aa n E V L T).1):∀k,k+1<w.2.length->ah E (w.2.getD (k+1) 0)=DB E (w.2.getD k 0):=by
 rw[fm] at h
 obtain⟨hp,hT,_⟩:=lD h
 rw[iW h] at hw
 rcases List.mem_append.1 hw with q|q
 .have:=(mJ (Nat.le_refl _) w q).1
  intro k hk;omega
 obtain⟨d,hd,rfl⟩:=xz (Nat.le_refl _) q
 have Pq:=(aN d).1 hd
 intro k hk
 have hk:k+1<(jm (eF E T) d (dZ (eF E T) d (b8 L L.length).length)).length:=hk
 rw[fM] at hk
 show ah E ((jm (eF E T) d (dZ (eF E T) d (b8 L L.length).length)).getD (k+1) 0)=DB E ((jm (eF E T) d (dZ (eF E T) d (b8 L L.length).length)).getD k 0)
 rw[iE hk,iE (by omega)]
 have hx:=(Oz hp hT Pq).2.2.2.2 k
 show ah E (eF E T (dx (eF E T) k d))=_
 rw[fL hp hT hx]
 exact(dJ hp hT hx).2
theorem oS {V' L':List Int}(h:aM n E V L T S=0)(A9:aS n E V' L'=0)(hs:∀e∈L,e∈L'){l:List Int}(hl:l∈aT n E V L T S):mu n E V' L' l=true:=by
 obtain⟨_,h2,_,h4⟩:=y9 hl
 rw[nO h] at hl
 obtain⟨w,hw,hl⟩:=xx (Nat.le_refl _) l hl
 have kf:=aK (aX h).1
 unfold eR at hl
 split at hl
 .obtain⟨c1,c2⟩:=(uh (oQ kf hw) (Nat.le_refl _)).2 l hl
  obtain⟨_,_,hL',_⟩:=aJ A9
  refine decide_eq_true ⟨A9,c2,fun d hd=>⟨(h4 d hd).1,?_⟩,c1⟩
  rw[fk hL',decide_eq_true_eq]
  exact hs _ (h2 d hd)
 cases hl
end
end Go.Proofs.YtnfdimfepbbbpaaGreat
namespace Go.Proofs.YtnfdimfepbbbpaaGreat
open Go.RowKit
open Go.Proofs.YtnfdimfepbbbpaaGreat.Deep
theorem uj {α:Type}{f:α->Int}:∀ {a b:List α},a.Pairwise (fun x y=>f x<f y)->b.Pairwise (fun x y=>f x<f y)->(∀x,x∈a↔x∈b)->a=b
 |[],[],_,_,_=>rfl
 |[],y::b,_,_,h=>by have:=(h y).2 List.mem_cons_self;cases this
 |x::a,[],_,_,h=>by have:=(h x).1 List.mem_cons_self;cases this
 |x::a,y::b,ha,hb,h=>by
  obtain⟨a1,a2⟩:=List.pairwise_cons.1 ha
  obtain⟨b1,b2⟩:=List.pairwise_cons.1 hb
  have e:x=y:=by
   rcases List.mem_cons.1 ((h x).1 List.mem_cons_self) with z|z
   .exact z
   rcases List.mem_cons.1 ((h y).2 List.mem_cons_self) with w|w
   .exact w.symm
   have:=a1 y w
   have:=b1 x z
   omega
  subst e
  rw[uj a2 b2 fun z=>⟨fun hz=>?_,fun hz=>?_⟩]
  .rcases List.mem_cons.1 ((h z).1 (List.mem_cons_of_mem _ hz)) with w|w
   .subst w;have:=a1 z hz;omega
   exact w
  rcases List.mem_cons.1 ((h z).2 (List.mem_cons_of_mem _ hz)) with w|w
  .subst w;have:=b1 z hz;omega
  exact w
theorem P8 {V:List Int}{T:List (List Int)}(hV:EB V):∀ {k:Nat},k<=V.length->(sK V T k).Pairwise (fun x y=>x.1<y.1)/\∀x∈sK V T k,∃j,j<k/\x.1= -1-V.getD (V.length-1-j) 0
 |0,_=>⟨List.Pairwise.nil,fun x hx=>(by cases hx)⟩
 |k+1,h=>by
  obtain⟨h1,h2⟩:=P8 (T:=T) hV (k:=k) (by omega)
  unfold sK
  split
  .refine⟨List.pairwise_append.2 ⟨h1,List.pairwise_singleton _ _,fun a ha b hb=>?_⟩,fun x hx=>?_⟩
   .obtain⟨j,hj,e⟩:=h2 a ha
    rw[List.mem_singleton.1 hb,e]
    have:V.getD (V.length-1-k) 0<V.getD (V.length-1-j) 0:=by
     rw[getD_eq (show V.length-1-k<V.length by omega),getD_eq (show V.length-1-j<V.length by omega)]
     exact List.pairwise_iff_getElem.1 hV _ _ (by omega) (by omega) (by omega)
    show -1-_< -1-_
    omega
   rcases List.mem_append.1 hx with q|q
   .obtain⟨j,hj,e⟩:=h2 x q;exact⟨j,by omega,e⟩
   exact⟨k,Nat.lt_succ_self _,by rw[List.mem_singleton.1 q]⟩
  exact⟨h1,fun x hx=>let⟨j,hj,e⟩:=h2 x hx;⟨j,by omega,e⟩⟩
theorem P9 {f:Int->Int}{ds:List Int}{N:Nat}(hd:EB ds):∀ {k:Nat},k<=ds.length->(Bo f ds N k).Pairwise (fun x y=>x.1<y.1)/\∀x∈Bo f ds N k,∃j,j<k/\x.1=ds.getD j 0
 |0,_=>⟨List.Pairwise.nil,fun x hx=>(by cases hx)⟩
 |k+1,h=>by
  obtain⟨h1,h2⟩:=P9 (f:=f) (N:=N) hd (k:=k) (by omega)
  unfold Bo
  split
  .refine⟨List.pairwise_append.2 ⟨h1,List.pairwise_singleton _ _,fun a ha b hb=>?_⟩,fun x hx=>?_⟩
   .obtain⟨j,hj,e⟩:=h2 a ha
    rw[List.mem_singleton.1 hb,e]
    show ds.getD j 0<ds.getD k 0
    rw[getD_eq (show j<ds.length by omega),getD_eq (show k<ds.length by omega)]
    exact List.pairwise_iff_getElem.1 hd _ _ (by omega) (by omega) (by omega)
   rcases List.mem_append.1 hx with q|q
   .obtain⟨j,hj,e⟩:=h2 x q;exact⟨j,by omega,e⟩
   exact⟨k,Nat.lt_succ_self _,by rw[List.mem_singleton.1 q]⟩
  exact⟨h1,fun x hx=>let⟨j,hj,e⟩:=h2 x hx;⟨j,by omega,e⟩⟩
theorem BS {n:Int}{E:List (Int×Int)}{V L:List Int}{T:List (List Int)}(h:(aa n E V L T).2=0):(aa n E V L T).1.Pairwise fun x y=>x.1<y.1:=by
 rw[fm] at h
 obtain⟨hp,hT,_⟩:=lD h
 obtain⟨_,hV,hL,_⟩:=aJ hp
 rw[iW h]
 obtain⟨l1,l2⟩:=P8 (T:=T) (aA.1 hV).1 (Nat.le_refl _)
 obtain⟨r1,r2⟩:=P9 (f:=eF E T) (N:=(b8 L L.length).length) (CW (aA.1 hL).1 (Nat.le_refl _)) (Nat.le_refl _)
 refine List.pairwise_append.2 ⟨l1,r1,fun a ha b hb=>?_⟩
 obtain⟨j,hj,e1⟩:=l2 a ha
 obtain⟨i,hi,e2⟩:=r2 b hb
 have v0:=(aA.1 hV).2 _ (ag (l:=V) (i:=V.length-1-j) (d:=0) (by omega))
 have b0:=(aA.1 hL).2 _ ((aN _).1 (ag (l:=b8 L L.length) (i:=i) (d:=0) hi))
 rw[e1,e2]
 omega
theorem Tv {n:Int}{E:List (Int×Int)}{V L:List Int}{T S:List (List Int)}(h:aM n E V L T S=0):(aV n E V L T S).Pairwise fun x y=>x.getD 0 0<y.getD 0 0:=by
 rw[jN h]
 have hh:=rI h
 generalize Ak (aa n E V L T).1 S=U at*
 have hs:(iT U).Pairwise fun x y=>x.getD 0 0<=y.getD 0 0:=(List.pairwise_mergeSort (le:=fun a b:List Int=>decide (a.getD 0 0<=b.getD 0 0)) (fun a b c h1 h2=>by simp only[decide_eq_true_eq] at*;omega) (fun a b=>by simp only[Bool.or_eq_true,decide_eq_true_eq];omega) U).imp fun h=>of_decide_eq_true h
 have hn:(iT U).Pairwise fun x y=>x.getD 0 0≠y.getD 0 0:=by
  have:=hh.2
  rw[List.nodup_iff_pairwise_ne,List.pairwise_map] at this
  exact((List.mergeSort_perm U _).pairwise_iff fun h=>h.symm).2 this
 exact(hs.and hn).imp fun h=>by omega
end Go.Proofs.YtnfdimfepbbbpaaGreat
namespace Go.Proofs.YtnfdimfepbbbpaaGreat
open Go.RowKit
open Go.Proofs.YtnfdimfepbbbpaaGreat.Deep
section
variable {ow:List (Int×Int)}{S:List (List Int)}{N:Nat}{l:List Int}{s z:S4×List (Int×Int)}
theorem Qa {i:Int}{k:Nat}(h:lN ow l i s k=some z):(af ow (l.getD k 0)).isSome=true/\(af s.2 (l.getD k 0)).isSome=false/\∀x,(af z.2 x).isSome=true↔(af s.2 x).isSome=true\/x=l.getD k 0:=by
 have hp:∀m:List (Int×Int),∀x,(af (b9 m (l.getD k 0) i) x).isSome=true↔(af m x).isSome=true\/x=l.getD k 0:=fun m x=>by
  rw[bK]
  by_cases q:l.getD k 0=x
  .rw[if_pos q];exact⟨fun _=>.inr q.symm,fun _=>rfl⟩
  rw[if_neg q];exact⟨.inl,fun w=>w.elim id fun w=>absurd w.symm q⟩
 unfold lN at h
 by_cases q:(af ow (l.getD k 0)).isSome=false\/(af s.2 (l.getD k 0)).isSome=true\/(0<k/\l.getD k 0<=l.getD (k-1) 0)
 .rw[if_pos q] at h;cases h
 rw[if_neg q] at h
 refine⟨by cases hq:(af ow (l.getD k 0)).isSome;exact absurd (.inl hq) q;rfl,by cases hq:(af s.2 (l.getD k 0)).isSome;rfl;exact absurd (.inr (.inl hq)) q,?_⟩
 split at h
 .cases h;exact hp s.2
 split at h
 .cases h;exact hp s.2
 cases h
theorem Fv {i:Int}:∀ {k:Nat} {z:S4×List (Int×Int)},k<=l.length->runK ow l i s k=some z->
  (∀x,(af z.2 x).isSome=true↔(af s.2 x).isSome=true\/x∈l.take k)/\∀x∈l.take k,(af ow x).isSome=true/\(af s.2 x).isSome=false
 |0,z,_,h=>by
  have h:some s=some z:=h
  cases h
  exact⟨fun x=>⟨.inl,fun w=>w.elim id fun w=>(by simp at w)⟩,fun x hx=>(by simp at hx)⟩
 |k+1,z,hk,h=>by
  have h:(runK ow l i s k).bind (fun y=>lN ow l i y k)=some z:=h
  cases hq:runK ow l i s k with
  |none=>rw[hq] at h;cases h
  |some y=>
   rw[hq] at h
   obtain⟨h1,h2⟩:=Fv (k:=k) (by omega) hq
   obtain⟨k1,k2,k3⟩:=Qa (show lN ow l i y k=some z from h)
   rw[bU (show k<l.length by omega) 0]
   refine⟨fun x=>?_,fun x hx=>?_⟩
   .rw[k3,h1,List.mem_append,List.mem_singleton,or_assoc]
   rcases List.mem_append.1 hx with w|w
   .exact h2 x w
   rw[List.mem_singleton.1 w]
   refine⟨k1,?_⟩
   cases hv:(af s.2 (l.getD k 0)).isSome with
   |false=>rfl
   |true=>have:=(h1 (l.getD k 0)).2 (.inl hv);rw[k2] at this;cases this
theorem qF:∀ {i:Nat} {z:S4×List (Int×Int)},jc ow S N i=some z->(∀x,(af z.2 x).isSome=true↔∃j,j<i/\x∈S.getD j [])/\(∀j,j<i->∀x∈S.getD j [],(af ow x).isSome=true)/\∀a b,a<b->b<i->∀x∈S.getD a [],x∉S.getD b []
 |0,z,h=>by
  have h:some (jK N,([]:List (Int×Int)))=some z:=h
  cases h
  exact⟨fun x=>⟨fun w=>(by cases w),fun⟨j,w,_⟩=>(by omega)⟩,fun j w=>(by omega),fun a b _ w=>(by omega)⟩
 |i+1,z,h=>by
  have h:(jc ow S N i).bind (fun s=>mq ow S s i)=some z:=h
  cases hq:jc ow S N i with
  |none=>rw[hq] at h;cases h
  |some y=>
   rw[hq] at h
   have h:mq ow S y i=some z:=h
   obtain⟨h1,h2,h3⟩:=qF hq
   unfold mq at h
   split at h
   .cases h
   obtain⟨k1,k2⟩:=Fv (Nat.le_refl _) h
   rw[List.take_length] at k1 k2
   refine⟨fun x=>?_,fun j hj x hx=>?_,fun a b j9 hb x hx=>?_⟩
   .rw[k1,h1]
    constructor
    .rintro(⟨j,w1,w2⟩|w)
     .exact⟨j,by omega,w2⟩
     exact⟨i,Nat.lt_succ_self _,w⟩
    rintro⟨j,w1,w2⟩
    rcases Nat.lt_succ_iff_lt_or_eq.1 w1 with q|q
    .exact .inl ⟨j,q,w2⟩
    subst q;exact .inr w2
   .rcases Nat.lt_succ_iff_lt_or_eq.1 hj with q|q
    .exact h2 j q x hx
    subst q;exact(k2 x hx).1
   rcases Nat.lt_succ_iff_lt_or_eq.1 hb with q|q
   .exact h3 a b j9 q x hx
   subst q
   intro w
   have:=(h1 x).2 ⟨a,j9,hx⟩
   rw[(k2 x w).2] at this;cases this
end
theorem Qb {E:List (Int×Int)}{P:mW}{W:List (Int×List Int)}:∀ {k:Nat},k<=W.length->∀x,(af (bP E P W k) x).isSome=true↔∃w∈W.take k,w.1=x
 |0,_,x=>⟨fun h=>(by cases h),fun⟨w,hw,_⟩=>(by simp at hw)⟩
 |k+1,h,x=>by
  show(af (b9 (bP E P W k) (W.getD k (0,[])).1 _) x).isSome=true↔_
  rw[bK,bU (show k<W.length by omega) (0,[])]
  by_cases q:(W.getD k (0,[])).1=x
  .rw[if_pos q];exact⟨fun _=>⟨_,List.mem_append_right _ (List.mem_singleton.2 rfl),q⟩,fun _=>rfl⟩
  rw[if_neg q,Qb (k:=k) (by omega)]
  constructor
  .rintro⟨w,hw,e⟩;exact⟨w,List.mem_append_left _ hw,e⟩
  rintro⟨w,hw,e⟩
  rcases List.mem_append.1 hw with z|z
  .exact⟨w,z,e⟩
  rw[List.mem_singleton.1 z] at e;exact absurd e q
section
variable {S:List (List Int)}{W:List (Int×List Int)}{key:Int}
end
theorem W0 {m:List (Int×Int)}{W:List (Int×List Int)}{w:Int×List Int}{i:Nat}(hi:i<W.length)(h:(af m (W.getD i (0,[])).1).isSome=false)(e:W.getD i (0,[])=w):[w.1]∈Aj m W W.length:=by
 have key:∀k,i<k->[w.1]∈Aj m W k:=by
  intro k hk
  induction k with
  |zero=>omega
  |succ k ih=>
   unfold Aj
   rcases Nat.lt_succ_iff_lt_or_eq.1 hk with q|q
   .split
    .exact ih q
    exact List.mem_append_left _ (ih q)
   subst q
   rw[if_neg (by rw[h];decide),e]
   exact List.mem_append_right _ (List.mem_singleton.2 rfl)
 exact key _ hi
end Go.Proofs.YtnfdimfepbbbpaaGreat
namespace Go.Proofs.YtnfdimfepbbbpaaGreat
open Go.RowKit
open Go.Proofs.YtnfdimfepbbbpaaGreat.Deep
structure GrI (ow:fR)(N:Nat)(g m:List Int)(z:S4×fR):Prop where
 rt:yX ow N z
 len:g.length=N
 rY:∀x,(af z.1.1 x).isSome=true->0<=x/\x<(N:Int)
 eq:∀a b:Int,0<=a->a<(N:Int)->0<=b->b<(N:Int)->(g.getD a.toNat 0=g.getD b.toNat 0↔Rl z.1 a b)
 me:∀x,(af z.2 x).isSome=true↔x∈m
section
variable {ow:fR}{N:Nat}{W:List (Int×List Int)}{o:Int->Int}{l g m:List Int}{s:S4×fR}{S:List (List Int)}
theorem GrI.met (h:GrI ow N g m s){x i:Int}(hx:(af ow x).isSome=true):GrI ow N g (m++[x]) (s.1,b9 s.2 x i):=
 ⟨h.rt.met hx,h.len,h.rY,h.eq,fun y=>by
  show(af (b9 s.2 x i) y).isSome=true↔_
  rw[bK,List.mem_append,List.mem_singleton]
  by_cases q:x=y
  .rw[if_pos q];exact⟨fun _=>.inr q.symm,fun _=>rfl⟩
  rw[if_neg q,h.me];exact⟨.inl,fun w=>w.elim id fun w=>absurd w.symm q⟩⟩
variable (hk:∀x,(af ow x).isSome=true↔0<=LV W x)(ho:∀x,(af ow x).isSome=true->(af ow x).getD 0=o x/\0<=o x/\o x<(N:Int))
include hk ho in
end
theorem JJ {E:List (Int×Int)}{P:mW}{W:List (Int×List Int)}(hk:(W.map (·.1)).Nodup){w:Int×List Int}:∀ {k:Nat},k<=W.length->w∈W.take k->af (bP E P W k) w.1=some ((af (u7 P P.length) (cZ E w)).getD 0)
 |0,_,h=>by simp at h
 |k+1,hl,h=>by
  show af (b9 (bP E P W k) (W.getD k (0,[])).1 _) w.1=_
  rw[bU (show k<W.length by omega) (0,[])] at h
  rw[bK]
  rcases List.mem_append.1 h with q|q
  .obtain⟨j,hj,e⟩:=aB (z:=((0:Int),([]:List Int))).1 q
   have hjk:j<k:=by rw[List.length_take] at hj;omega
   rw[List.getD_eq_getElem?_getD,List.getElem?_take_of_lt hjk,<-List.getD_eq_getElem?_getD] at e
   rw[if_neg]
   .exact JJ hk (by omega) q
   intro z
   rw[<-e] at z
   have hm:∀i,i<W.length->(W.map (·.1)).getD i 0=(W.getD i (0,[])).1:=fun i hi=>by rw[List.getD_eq_getElem?_getD,List.getElem?_map,List.getD_eq_getElem?_getD,List.getElem?_eq_getElem hi];rfl
   have:=dW (z:=0) hk (i:=k) (j:=j) (by rw[List.length_map];omega) (by rw[List.length_map];omega) (by rw[hm k (by omega),hm j (by omega)];exact z)
   omega
  rw[List.mem_singleton.1 q,if_pos rfl]
end Go.Proofs.YtnfdimfepbbbpaaGreat
namespace Go.Proofs.YtnfdimfepbbbpaaGreat
open Go.RowKit
open Go.Proofs.YtnfdimfepbbbpaaGreat.Deep
theorem qG {f:Int->Int}{ds:List Int}{N:Nat}{w:Int×List Int}:∀ {k:Nat},k<=ds.length->(w∈Bo f ds N k↔∃j,j<k/\lI f (ds.getD j 0) (dZ f (ds.getD j 0) N)=true/\w=(ds.getD j 0,jm f (ds.getD j 0) (dZ f (ds.getD j 0) N)))
 |0,_=>⟨fun h=>(by cases h),fun⟨j,h,_⟩=>(by omega)⟩
 |k+1,hk=>by
  have ih:=qG (f:=f) (ds:=ds) (N:=N) (w:=w) (k:=k) (by omega)
  unfold Bo
  by_cases q:lI f (ds.getD k 0) (dZ f (ds.getD k 0) N)=true
  .rw[if_pos q,List.mem_append,ih,List.mem_singleton]
   constructor
   .rintro(⟨j,h1,h2⟩|e)
    .exact⟨j,by omega,h2⟩
    exact⟨k,Nat.lt_succ_self _,q,e⟩
   rintro⟨j,h1,h2,h3⟩
   rcases Nat.lt_succ_iff_lt_or_eq.1 h1 with z|z
   .exact .inl ⟨j,z,h2,h3⟩
   subst z;exact .inr h3
  rw[if_neg q,ih]
  constructor
  .rintro⟨j,h1,h2⟩;exact⟨j,by omega,h2⟩
  rintro⟨j,h1,h2,h3⟩
  rcases Nat.lt_succ_iff_lt_or_eq.1 h1 with z|z
  .exact⟨j,z,h2,h3⟩
  subst z;exact absurd h2 q
def Dj (w:Int×List Int)(d:Int):Prop:=d∈w.2\/(w.2.length=0/\w.1=d)
section
variable {f:Int->Int}{D:List Int}
theorem aaf (hc:∀x∈D,f x∈D)(hi:∀x∈D,∀y∈D,f x=f y->x=y){w u:Int×List Int}{d:Int}(hw:w∈Bo f D D.length D.length)(hu:u∈Bo f D D.length D.length)(h1:d∈w.2)(h2:d∈u.2):w=u:=by
 obtain⟨i,i1,i2,rfl⟩:=(qG (Nat.le_refl _)).1 hw
 obtain⟨j,j1,j2,rfl⟩:=(qG (Nat.le_refl _)).1 hu
 have Tw:D.getD i 0∈D:=ag i1
 have hxj:D.getD j 0∈D:=ag j1
 generalize D.getD i 0=x at*
 generalize D.getD j 0=y at*
 have h1:=(gQ hc hi Tw).1 h1
 have h2:=(gQ hc hi hxj).1 h2
 have key:∀x y,x∈D->y∈D->gP f x y->lI f x (dZ f x D.length)=true->x<=y:=fun x y hx hy ho hl=>by
  have:=(gQ hc hi hx).2 ho
  unfold jm at this
  obtain⟨k,hk,e⟩:=List.mem_map.1 this
  have hk:=List.mem_range.1 hk
  by_cases z:k=0
  .subst z;exact Int.le_of_eq e
  have:=rC.1 hl k (by omega) hk
  rw[e] at this;omega
 have a:=key x y Tw hxj (h1.trans (h2.symm hc hi hxj)) i2
 have b:=key y x hxj Tw (h2.trans (h1.symm hc hi Tw)) j2
 rw[show x=y by omega]
theorem aag (ha:EB D)(hc:∀x∈D,f x∈D)(hi:∀x∈D,∀y∈D,f x=f y->x=y){d:Int}(hd:d∈D):∃w∈Bo f D D.length D.length,d∈w.2:=by
 classical
 obtain⟨k,hk,e⟩:=aB (z:=(0:Int)).1 hd
 obtain⟨i,_,hik,hp⟩:=Ja (N:=D.length) (p:=fun i=>decide (gP f (D.getD i 0) d)) hk (decide_eq_true (by rw[e];exact gP.refl d))
 rename_i hfi
 have hp:=of_decide_eq_true hp
 have Tw:D.getD i 0∈D:=ag (by omega)
 obtain⟨p0,p1,p2,p3⟩:=mR hc hi Tw
 refine⟨_,(qG (Nat.le_refl _)).2 ⟨i,by omega,rC.2 fun j j0 j1=>?_,rfl⟩,(gQ hc hi Tw).2 hp⟩
 have hm:=gO hc Tw j
 obtain⟨q,hq,eq⟩:=aB (z:=(0:Int)).1 hm
 have ho:gP f (D.getD q 0) d:=by rw[eq];exact(gP.symm hc hi Tw ⟨j,rfl⟩).trans hp
 have hle:i<=q:=by
  obtain⟨i',e',hq',_⟩:=Ja (N:=D.length) (p:=fun i=>decide (gP f (D.getD i 0) d)) hq (decide_eq_true ho)
  have:(i:Int)=(i':Int):=hfi.symm.trans e'
  omega
 have cO:q≠i:=fun z=>p3 j j0 j1 (by rw[<-eq,z])
 rw[<-eq]
 rw[getD_eq (show i<D.length by omega),getD_eq (show q<D.length by omega)]
 exact List.pairwise_iff_getElem.1 ha _ _ (by omega) (by omega) (by omega)
end
section
variable {n:Int}{E:List (Int×Int)}{V L:List Int}{T S:List (List Int)}
theorem Dk {V:List Int}{T:List (List Int)}:∀ {k j:Nat},j<k->(T.getD (V.getD (V.length-1-j) 0).toNat []).length=0->(-1-V.getD (V.length-1-j) 0,[])∈sK V T k
 |k+1,j,hj,h=>by
  unfold sK
  rcases Nat.lt_succ_iff_lt_or_eq.1 hj with z|z
  .split
   .exact List.mem_append_left _ (Dk z h)
   exact Dk z h
  subst z
  rw[if_pos h]
  exact List.mem_append_right _ (List.mem_singleton.2 rfl)
structure WkU (L V:List Int)(T:List (List Int))(W:List (Int×List Int)):Prop where
 ex:∀d,ak L d->∃w∈W,d∈w.2
 lone:∀v∈V,(T.getD v.toNat []).length=0->(-1-v,[])∈W
 uq:∀w∈W,∀u∈W,∀d,Dj w d->Dj u d->w=u
 hd:∀w∈W,∀d,w.1=d\/d∈w.2->Dj w d
theorem wg (h:(aa n E V L T).2=0):WkU L V T (aa n E V L T).1/\∀w∈(aa n E V L T).1,∀d∈w.2,eF E T d∈w.2:=by
 have hk:=qx h
 have h0:=h
 rw[fm] at h
 obtain⟨hp,hT,_⟩:=lD h
 obtain⟨_,hV,hL,_⟩:=aJ hp
 have hD:∀x∈b8 L L.length,ak L x:=fun x hx=>(aN x).1 hx
 have hc:∀x∈b8 L L.length,eF E T x∈b8 L L.length:=fun x hx=>by
  rw[fL hp hT (hD x hx)];exact(aN _).2 (dJ hp hT (hD x hx)).1
 have hi:∀x∈b8 L L.length,∀y∈b8 L L.length,eF E T x=eF E T y->x=y:=fun x hx y hy e=>by
  rw[fL hp hT (hD x hx),fL hp hT (hD y hy)] at e;exact jY hp hT (hD x hx) (hD y hy) e
 have ha:=CW (aA.1 hL).1 (Nat.le_refl _)
 rw[iW h] at hk ⊢
 have UX:∀w∈sK V T V.length,w.2.length=0/\w.1<0:=fun w hw=>by
  have:=mJ (Nat.le_refl _) w hw
  have:=(aA.1 hV).2 _ this.2
  exact⟨by omega,by omega⟩
 have hrw:∀w∈Bo (eF E T) (b8 L L.length) (b8 L L.length).length (b8 L L.length).length,w.1∈w.2/\∀d∈w.2,0<=d:=fun w hw=>by
  obtain⟨i,i1,i2,rfl⟩:=(qG (Nat.le_refl _)).1 hw
  have hx:(b8 L L.length).getD i 0∈b8 L L.length:=ag i1
  refine⟨(gQ hc hi hx).2 (gP.refl _),fun d hd=>?_⟩
  obtain⟨k,e⟩:=(gQ hc hi hx).1 hd
  have:=gO hc hx k
  rw[e] at this
  exact(bf hp (hD _ this)).2.1
 refine⟨⟨fun d hd=>?_,fun v hv hT0=>?_,fun w hw u hu d h1 h2=>?_,fun w hw d PY=>?_⟩,fun w hw d hd=>?_⟩
 .obtain⟨w,hw,hx⟩:=aag ha hc hi ((aN d).2 hd)
  exact⟨w,List.mem_append_right _ hw,hx⟩
 .obtain⟨j,hj,e⟩:=aB (z:=(0:Int)).1 hv
  have:=Dk (V:=V) (T:=T) (k:=V.length) (j:=V.length-1-j) (by omega)
  rw[show V.length-1-(V.length-1-j)=j by omega,e] at this
  exact List.mem_append_left _ (this hT0)
 .rcases List.mem_append.1 hw with a|a<;>rcases List.mem_append.1 hu with b|b
  .have Ah:=(UX w a).1
   have YR:=(UX u b).1
   have e1:w.1=d:=h1.elim (fun z=>by rw[List.eq_nil_of_length_eq_zero Ah] at z;cases z) And.right
   have e2:u.1=d:=h2.elim (fun z=>by rw[List.eq_nil_of_length_eq_zero YR] at z;cases z) And.right
   exact Prod.ext (e1.trans e2.symm) ((List.eq_nil_of_length_eq_zero Ah).trans (List.eq_nil_of_length_eq_zero YR).symm)
  .exfalso
   have Ah:=UX w a
   have e1:w.1=d:=h1.elim (fun z=>by rw[List.eq_nil_of_length_eq_zero Ah.1] at z;cases z) And.right
   have:=(hrw u b)
   have:=h2.elim (fun z=>this.2 d z) fun z=>by rw[List.eq_nil_of_length_eq_zero z.1] at this;cases this.1
   omega
  .exfalso
   have Ah:=UX u b
   have e1:u.1=d:=h2.elim (fun z=>by rw[List.eq_nil_of_length_eq_zero Ah.1] at z;cases z) And.right
   have:=(hrw w a)
   have:=h1.elim (fun z=>this.2 d z) fun z=>by rw[List.eq_nil_of_length_eq_zero z.1] at this;cases this.1
   omega
  have e1:d∈w.2:=h1.elim id fun z=>by have:=(hrw w a).1;rw[List.eq_nil_of_length_eq_zero z.1] at this;cases this
  have e2:d∈u.2:=h2.elim id fun z=>by have:=(hrw u b).1;rw[List.eq_nil_of_length_eq_zero z.1] at this;cases this
  exact aaf hc hi a b e1 e2
 .rcases PY with z|z
  .rcases List.mem_append.1 hw with a|a
   .exact .inr ⟨(UX w a).1,z⟩
   exact .inl (z▸(hrw w a).1)
  exact .inl z
 rcases List.mem_append.1 hw with a|a
 .rw[List.eq_nil_of_length_eq_zero (UX w a).1] at hd;cases hd
 obtain⟨i,i1,i2,rfl⟩:=(qG (Nat.le_refl _)).1 a
 have hx:(b8 L L.length).getD i 0∈b8 L L.length:=ag i1
 exact(gQ hc hi hx).2 (((gQ hc hi hx).1 hd).trans ⟨1,rfl⟩)
theorem Qc {num m:List (Int×Int)}{w:Int×List Int}(d:Int)[Decidable (Dj w d)]:af (Lh num m w) d=if Dj w d then some ((af num w.1).getD 0) else af m d:=by
 have h1:af (qo m w.2 ((af num w.1).getD 0) w.2.length) d=if d∈w.2 then some ((af num w.1).getD 0) else af m d:=by rw[lH (Nat.le_refl _),List.take_length]
 unfold Lh
 split
 .rename_i q
  have e:w.2=[]:=List.eq_nil_of_length_eq_zero q
  rw[bK,h1]
  by_cases z:w.1=d
  .rw[if_pos z,if_pos (show Dj w d from .inr ⟨q,z⟩)]
  rw[if_neg z,if_neg (by rw[e];exact List.not_mem_nil),if_neg]
  rintro(y|y)
  .rw[e] at y;cases y
  exact z y.2
 rename_i q
 rw[h1]
 by_cases z:d∈w.2
 .rw[if_pos z,if_pos (show Dj w d from .inl z)]
 rw[if_neg z,if_neg fun y=>y.elim z fun y=>q y.1]
theorem Qd {num:List (Int×Int)}{W:List (Int×List Int)}(hu:∀w∈W,∀u∈W,∀d,Dj w d->Dj u d->w=u){w:Int×List Int}{d:Int}(hd:Dj w d)(hW:w∈W):∀ {k:Nat},k<=W.length->w∈W.take k->af (xm num W k) d=some ((af num w.1).getD 0)
 |0,_,h=>by simp at h
 |k+1,hk,h=>by
  classical
  show af (Lh num (xm num W k) (W.getD k (0,[]))) d=_
  rw[Qc]
  by_cases q:Dj (W.getD k (0,[])) d
  .rw[if_pos q,hu _ (ag (by omega)) w hW d q hd]
  rw[if_neg q]
  refine Qd hu hd hW (by omega) ?_
  rw[bU (show k<W.length by omega) (0,[])] at h
  rcases List.mem_append.1 h with z|z
  .exact z
  rw[List.mem_singleton.1 z] at hd;exact absurd hd q
theorem JK {R:List (List Int)}{x:Int}{i:Nat}(hx:x∈R.getD i []):∀ {k:Nat},i<k->(∀j,j<k->x∈R.getD j []->j=i)->af (dG R k) x=some (i:Int)
 |k+1,hk,hu=>by
  show af (qo (dG R k) (R.getD k []) (k:Int) (R.getD k []).length) x=_
  rw[lH (Nat.le_refl _),List.take_length]
  by_cases q:x∈R.getD k []
  .rw[if_pos q,hu k (Nat.lt_succ_self _) q]
  rw[if_neg q]
  have:i≠k:=fun e=>q (e▸hx)
  exact JK hx (by omega) fun j hj=>hu j (by omega)
theorem Tx (h:aM n E V L T S=0){w:Int×List Int}(hw:w∈(aa n E V L T).1):∃i,i<(aV n E V L T S).length/\w.1∈(aV n E V L T S).getD i []/\∀j,j<(aV n E V L T S).length->w.1∈(aV n E V L T S).getD j []->j=i:=by
 obtain⟨hf,z,hz,_⟩:=aX h
 obtain⟨m1,m2,m3⟩:=qF hz
 have Tz:=Tv h
 obtain⟨sub,b1,b2,b3⟩:=ua (m:=dG S S.length) (W:=(aa n E V L T).1) (Nat.le_refl _)
 have fE:∀x,x∈aV n E V L T S↔x∈S\/x∈Aj (dG S S.length) (aa n E V L T).1 (aa n E V L T).1.length:=fun x=>by rw[jN h,rJ];exact List.mem_append
 have hex:∃x∈aV n E V L T S,w.1∈x:=by
  cases hq:(af (dG S S.length) w.1).isSome with
  |true=>
   obtain⟨j,hj,hx⟩:=(rH (Nat.le_refl _) w.1).1 hq
   exact⟨_,(fE _).2 (.inl (ag hj)),hx⟩
  |false=>
   obtain⟨k,hk,e2⟩:=aB (z:=((0:Int),([]:List Int))).1 hw
   exact⟨_,(fE _).2 (.inr (W0 hk (by rw[e2];exact hq) e2)),List.mem_singleton.2 rfl⟩
 have huq:∀x∈aV n E V L T S,∀y∈aV n E V L T S,w.1∈x->w.1∈y->x=y:=fun x hx y hy h1 h2=>by
  have ye:∀x∈S,w.1∈x->∀y,y∈Aj (dG S S.length) (aa n E V L T).1 (aa n E V L T).1.length->w.1∈y->False:=fun x hx h1 y hy h2=>by
   rw[b2] at hy
   obtain⟨q,hq,rfl⟩:=List.mem_map.1 hy
   have e:w.1=q:=List.mem_singleton.1 h2
   obtain⟨j,hj,e2⟩:=aB (z:=([]:List Int)).1 hx
   have:=(rH (Nat.le_refl S.length) q).2 ⟨j,hj,by rw[e2,<-e];exact h1⟩
   rw[b3 _ hq] at this;cases this
  rcases(fE x).1 hx with a|a<;>rcases(fE y).1 hy with b|b
  .obtain⟨i,hi,ei⟩:=aB (z:=([]:List Int)).1 a
   obtain⟨j,hj,ej⟩:=aB (z:=([]:List Int)).1 b
   rcases Nat.lt_trichotomy i j with q|q|q
   .exact absurd (ej▸h2) (m3 i j q hj _ (ei▸h1))
   .rw[<-ei,<-ej,q]
   exact absurd (ei▸h1) (m3 j i q hi _ (ej▸h2))
  .exact(ye x a h1 y b h2).elim
  .exact(ye y b h2 x a h1).elim
  rw[b2] at a b
  obtain⟨p,_,rfl⟩:=List.mem_map.1 a
  obtain⟨q,_,rfl⟩:=List.mem_map.1 b
  have e1:w.1=p:=List.mem_singleton.1 h1
  have e2:w.1=q:=List.mem_singleton.1 h2
  rw[<-e1,<-e2]
 obtain⟨x,hx,hwx⟩:=hex
 obtain⟨i,hi,e⟩:=aB (z:=([]:List Int)).1 hx
 refine⟨i,hi,by rw[e];exact hwx,fun j hj o8=>?_⟩
 have e3:=huq _ (ag (l:=aV n E V L T S) (i:=j) (d:=[]) hj) x hx o8 hwx
 have e4:(aV n E V L T S).getD j []=(aV n E V L T S).getD i []:=e3.trans e.symm
 rcases Nat.lt_trichotomy i j with q|q|q
 .exfalso
  have:=List.pairwise_iff_getElem.1 Tz i j hi hj q
  rw[<-getD_eq hi [],<-getD_eq hj [],e4] at this
  exact Int.lt_irrefl _ this
 .exact q.symm
 exfalso
 have:=List.pairwise_iff_getElem.1 Tz j i hj hi q
 rw[<-getD_eq hi [],<-getD_eq hj [],e4] at this
 exact Int.lt_irrefl _ this
end
abbrev two (g:Int->Int)(e:Int):Int×Int:=(g (2*e),g (2*e+1))
abbrev gU (f:Int->Int)(d:Int):Int:=f (an d)
structure vq (L:List Int)(tl f lf:Int->Int):Prop where
 jb:∀d,ak L d->ak L (f d)
 tail:∀d,ak L d->tl (f d)=tl (an d)
 inj:∀d e,ak L d->ak L e->f d=f e->d=e
 left:∀d,ak L d->lf (f d)=lf d
 one:∀d e,ak L d->ak L e->tl d=tl e->∃k,dx (gU f) k d=e
section
variable {L pre es:List Int}{tl f lf g:Int->Int}{S:Int->Prop}{d e x y:Int}
theorem jL (h:S (d/2)):JP S (two g) (g d) (g (an d)):=by
 have:=JP.pz (p:=two g) h
 unfold an
 by_cases q:d%2=0
 .rw[if_pos q]
  have e1:2*(d/2)=d:=by omega
  rw[show two g (d/2)=(g d,g (d+1)) by unfold two;rw[e1]] at this
  exact this
 rw[if_neg q]
 have e1:2*(d/2)+1=d:=by omega
 have e2:2*(d/2)=d-1:=by omega
 rw[show two g (d/2)=(g (d-1),g d) by unfold two;rw[e2,show d-1+1=d by omega]] at this
 exact this.sy
theorem xA (h:x/2=y/2):x=y\/x=an y:=by
 unfold an
 split<;>omega
theorem vq.W4 (h:vq L tl f lf)(hd:ak L d):ak L (gU f d)/\tl (gU f d)=tl d/\lf (gU f d)=lf (an d):=by
 have ht:=bI.2 hd
 exact⟨h.jb _ ht,by rw[h.tail _ ht,jX],h.left _ ht⟩
theorem vq.cont (h:vq L tl f lf):P7 L (two tl) (two lf):=by
 intro pre e es hs hn
 have heL:e∈L:=(hs.mem e).2 (.inr List.mem_cons_self)
 have hep:e∉pre:=fun q=>hs.dj e q List.mem_cons_self
 have dP:∀x:Int,Decidable (x∈pre):=fun x=>inferInstance
 have hd:ak L (2*e):=ck.2 ⟨e,heL,.inl rfl⟩
 have h2:(2*e)/2=e:=by omega
 have WS:an (2*e)=2*e+1:=by unfold an;rw[if_pos (by omega)]
 obtain⟨p,hp⟩:∃p:Int->Int,∀y,p y=f (if y/2∈pre then y else an y):=⟨_,fun _=>rfl⟩
 have s8:∀y,y/2∈pre->p y=f y:=fun y q=>by rw[hp,if_pos q]
 have HI:∀y,y/2∉pre->p y=gU f y:=fun y q=>by rw[hp,if_neg q]
 have hc:∀x∈b8 L L.length,p x∈b8 L L.length:=fun x hx=>by
  rw[aN] at hx ⊢
  by_cases q:x/2∈pre
  .rw[s8 x q];exact h.jb _ hx
  rw[HI x q];exact(h.W4 hx).1
 have hi:∀x∈b8 L L.length,∀y∈b8 L L.length,p x=p y->x=y:=fun x hx y hy q=>by
  rw[aN] at hx hy
  by_cases a:x/2∈pre<;>by_cases b:y/2∈pre
  .rw[s8 x a,s8 y b] at q;exact h.inj _ _ hx hy q
  .rw[s8 x a,HI y b] at q
   have:=h.inj _ _ hx (bI.2 hy) q
   rw[this,jI] at a;exact absurd a b
  .rw[HI x a,s8 y b] at q
   have:=h.inj _ _ (bI.2 hx) hy q
   rw[<-this,jI] at b;exact absurd b a
  rw[HI x a,HI y b] at q
  have:=h.inj _ _ (bI.2 hx) (bI.2 hy) q
  rw[<-jX x,this,jX]
 obtain⟨p0,_,p2,p3⟩:=mR hc hi ((aN (2*e)).2 hd)
 have key:∀k,k<dZ p (2*e) (b8 L L.length).length->ak L (dx p (k+1) (2*e))/\JP (· ∈pre) (two tl) (tl (2*e)) (tl (dx p (k+1) (2*e)))/\JP (· ∈es) (two lf) (lf (an (2*e))) (lf (dx p (k+1) (2*e))):=fun k=>by
  induction k with
  |zero=>
   intro _
   show ak L (p (2*e))/\JP _ _ _ (tl (p (2*e)))/\JP _ _ _ (lf (p (2*e)))
   rw[HI _ (by rw[h2];exact hep)]
   obtain⟨r1,r2,r3⟩:=h.W4 hd
   rw[r2,r3]
   exact⟨r1,.id _,.id _⟩
  |succ k ih=>
   intro hk
   obtain⟨i1,i2,i3⟩:=ih (by omega)
   have cO:=p3 (k+1) (by omega) hk
   show ak L (p (dx p (k+1) (2*e)))/\JP _ _ _ (tl (p (dx p (k+1) (2*e))))/\JP _ _ _ (lf (p (dx p (k+1) (2*e))))
   generalize dx p (k+1) (2*e)=y at i1 i2 i3 cO ⊢
   by_cases q:y/2∈pre
   .rw[s8 y q,h.tail y i1,h.left y i1]
    exact⟨h.jb y i1,i2.tr (jL q),i3⟩
   rw[HI y q]
   obtain⟨r1,r2,r3⟩:=h.W4 i1
   rw[r2,r3]
   refine⟨r1,i2,i3.tr (jL ?_)⟩
   rcases(hs.mem _).1 (show y/2∈L from i1) with w|w
   .exact absurd w q
   rcases List.mem_cons.1 w with w|w
   .rcases xA (x:=y) (y:=2*e) (by rw[w,h2]) with z|z
    .exact absurd z cO
    rw[z,WS] at i2;exact absurd i2 hn
   exact w
 have:=(key (dZ p (2*e) (b8 L L.length).length-1) (by omega)).2.2
 rw[show dZ p (2*e) (b8 L L.length).length-1+1=dZ p (2*e) (b8 L L.length).length by omega,p2,WS] at this
 exact this.sy
theorem vq.fF (h:vq L tl f lf)(hd:ak L d):∀ {k:Nat},(∀i,i<k->S (dx (gU f) i d/2))->ak L (dx (gU f) k d)/\tl (dx (gU f) k d)=tl d/\JP S (two lf) (lf d) (lf (dx (gU f) k d))
 |0,_=>⟨hd,rfl,.id _⟩
 |k+1,hS=>by
  obtain⟨i1,i2,i3⟩:=h.fF hd (k:=k) fun i hi=>hS i (by omega)
  obtain⟨r1,r2,r3⟩:=h.W4 i1
  refine⟨r1,r2.trans i2,?_⟩
  show JP S (two lf) (lf d) (lf (gU f (dx (gU f) k d)))
  rw[r3]
  exact i3.tr (jL (hS k (Nat.lt_succ_self _)))
theorem vq.same (h:vq L tl f lf)(hd:ak L d)(he:ak L e)(ht:tl d=tl e):JP (· ∈L) (two lf) (lf d) (lf e):=by
 obtain⟨k,hk⟩:=h.one d e hd he ht
 have:∀i,ak L (dx (gU f) i d):=fun i=>by
  induction i with
  |zero=>exact hd
  |succ i ih=>exact(h.W4 ih).1
 have:=(h.fF (S:=(· ∈L)) hd (k:=k) fun i _=>this i).2.2
 rw[hk] at this;exact this
theorem uk (h:vq L tl f lf)(hd:ak L d):∀i,ak L (dx (gU f) i d)/\tl (dx (gU f) i d)=tl d
 |0=>⟨hd,rfl⟩
 |i+1=>by
  obtain⟨a,b⟩:=uk h hd i
  obtain⟨r1,r2,_⟩:=h.W4 a
  exact⟨r1,r2.trans b⟩
theorem vq.first (h:vq L tl f lf)(hd:ak L d)(he:ak L e)(ht:tl d=tl e){Q:Int->Prop}(hQ:Q e):∃k,Q (dx (gU f) k d)/\∀i,i<k->¬Q (dx (gU f) i d):=by
 obtain⟨k,hk⟩:=h.one d e hd he ht
 have dQ:∀i,Decidable (Q (dx (gU f) i d)):=fun i=>Classical.propDecidable _
 have:∀n,(∃i,i<n/\Q (dx (gU f) i d))->∃k,Q (dx (gU f) k d)/\∀i,i<k->¬Q (dx (gU f) i d):=fun n=>by
  induction n with
  |zero=>rintro⟨i,hi,_⟩;omega
  |succ n ih=>
   rintro⟨i,hi,q⟩
   by_cases w:∃i,i<n/\Q (dx (gU f) i d)
   .exact ih w
   have:i=n:=Classical.byContradiction fun z=>w ⟨i,by omega,q⟩
   subst this
   exact⟨i,q,fun j hj z=>w ⟨j,hj,z⟩⟩
 exact this (k+1) ⟨k,Nat.lt_succ_self _,hk▸hQ⟩
end
structure iG (tl:Int->Int)(L ds:List Int):Prop where
 ne:0<ds.length
 jb:∀j,j<ds.length->ak L (ds.getD j 0)
 prv:∀j,j<ds.length->tl (an (C2 ds j))=tl (ds.getD j 0)
 vtx:∀j i,j<ds.length->i<ds.length->tl (ds.getD i 0)=tl (ds.getD j 0)->i=j
 edg:∀j i,j<ds.length->i<ds.length->ds.getD i 0/2=ds.getD j 0/2->i=j
def zR (ds:List Int)(e:Int):Prop:=∃j,j<ds.length/\ds.getD j 0/2=e
abbrev Ao (L ds:List Int)(e:Int):Prop:=e∈L/\¬zR ds e
section
variable {L H ds N M:List Int}{tl f lf g:Int->Int}{S:Int->Prop}{d e x y:Int}{i j:Nat}
theorem iG.mono (h:iG tl H ds)(hs:∀e∈H,e∈L):iG tl L ds:=⟨h.ne,fun j hj=>hs _ (h.jb j hj),h.prv,h.vtx,h.edg⟩
theorem iG.X8 (h:iG tl L ds)(hj:j+1<ds.length):tl (an (ds.getD j 0))=tl (ds.getD (j+1) 0):=by
 have:=h.prv (j+1) hj
 unfold C2 at this
 rwa[if_neg (by omega),Nat.add_sub_cancel] at this
theorem iG.lst (h:iG tl L ds):tl (an (ds.getD (ds.length-1) 0))=tl (ds.getD 0 0):=by
 have:=h.prv 0 h.ne
 unfold C2 at this
 rwa[if_pos rfl] at this
theorem Qe (g:Int->Int){p:Int->Int×Int}:JP S p (two g (d/2)).1 (two g (d/2)).2↔JP S p (g d) (g (an d)):=by
 unfold two an
 by_cases q:d%2=0
 .rw[if_pos q,show 2*(d/2)=d by omega]
 rw[if_neg q,show 2*(d/2)+1=d by omega,show 2*(d/2)=d-1 by omega]
 exact⟨fun h=>h.sy,fun h=>h.sy⟩
theorem iG.run (h:iG tl L ds)(hi:i<ds.length):∀ {m:Nat},i<=m->m<ds.length->(∀x,i<=x->x<=m->S (ds.getD x 0/2))->JP S (two tl) (tl (ds.getD i 0)) (tl (an (ds.getD m 0)))
 |0,h1,h2,hS=>by
  have:i=0:=by omega
  subst this
  exact jL (hS 0 (Nat.le_refl _) (Nat.le_refl _))
 |m+1,h1,h2,hS=>by
  by_cases q:i=m+1
  .subst q;exact jL (hS _ (Nat.le_refl _) (Nat.le_refl _))
  have ih:=h.run hi (m:=m) (by omega) (by omega) fun x a b=>hS x a (by omega)
  rw[h.X8 h2] at ih
  exact ih.tr (jL (hS _ h1 (Nat.le_refl _)))
theorem iG.ends (h:iG tl L ds)(hj:j<ds.length):JP (fun e=>e∈L/\zR ds e/\e≠ds.getD j 0/2) (two tl) (two tl (ds.getD j 0/2)).1 (two tl (ds.getD j 0/2)).2:=by
 refine(Qe tl).2 ?_
 have hS:∀x,x<ds.length->x≠j->ds.getD x 0/2∈L/\zR ds (ds.getD x 0/2)/\ds.getD x 0/2≠ds.getD j 0/2:=fun x hx hn=>⟨h.jb x hx,⟨x,hx,rfl⟩,fun q=>hn (h.edg j x hj hx q)⟩
 have h0:JP (fun e=>e∈L/\zR ds e/\e≠ds.getD j 0/2) (two tl) (tl (an (ds.getD j 0))) (tl (ds.getD 0 0)):=by
  by_cases q:j+1<ds.length
  .rw[h.X8 q,<-h.lst]
   exact h.run q (by omega) (by omega) fun x a b=>hS x (by omega) (by omega)
  rw[show j=ds.length-1 by omega,h.lst];exact .id _
 have h1:JP (fun e=>e∈L/\zR ds e/\e≠ds.getD j 0/2) (two tl) (tl (ds.getD 0 0)) (tl (ds.getD j 0)):=by
  by_cases q:j=0
  .subst q;exact .id _
  have:=h.X8 (j:=j-1) (by omega)
  rw[show j-1+1=j by omega] at this
  rw[<-this]
  exact h.run h.ne (by omega) (by omega) fun x a b=>hS x (by omega) (by omega)
 exact(h0.tr h1).sy
theorem iG.part (h:iG tl L ds)(hP:nS L N M (two tl) (two lf))(hj:j<ds.length):¬JP (Ao L ds) (two lf) (lf (ds.getD j 0)) (lf (an (ds.getD j 0))):=by
 intro w
 have w:=(Qe lf).2 w
 refine hP.cut (S:=fun e=>zR ds e/\e≠ds.getD j 0/2) (h.jb j hj) (fun q=>q.2 rfl) (h.ends hj) (w.mono fun e he=>⟨he.1,fun q=>he.2 q.1,fun q=>he.2 (q▸⟨j,hj,rfl⟩)⟩)
theorem iG.at (h:iG tl L ds)(hj:j+1<ds.length)(hx:zR ds (x/2))(ht:tl x=tl (ds.getD (j+1) 0)):x=ds.getD (j+1) 0\/x=an (ds.getD j 0):=by
 obtain⟨i,hi,e⟩:=hx
 rcases xA (x:=x) (y:=ds.getD i 0) e.symm with q|q
 .rw[q] at ht
  have:=h.vtx _ _ hj hi ht
  rw[q,this];exact .inl rfl
 rw[q] at ht
 by_cases z:i+1<ds.length
 .rw[h.X8 z] at ht
  have:=h.vtx _ _ hj z ht
  rw[q,show i=j by omega];exact .inr rfl
 rw[show i=ds.length-1 by omega,h.lst] at ht
 have:=h.vtx _ _ hj h.ne ht
 omega
theorem rN (f:Int->Int)(d:Int):∀k,dx f (k+1) d=dx f k (f d)
 |0=>rfl
 |k+1=>congrArg f (rN f d k)
theorem vq.along (r:vq L tl f lf)(h:iG tl L ds)(hj:j+1<ds.length):JP (Ao L ds) (two lf) (lf (ds.getD j 0)) (lf (ds.getD (j+1) 0)):=by
 have hd:=h.jb j (by omega)
 have Rb:=h.jb (j+1) hj
 have ht:=bI.2 hd
 have hy:=r.jb _ hd
 have Yz:tl (f (ds.getD j 0))=tl (ds.getD (j+1) 0):=by rw[r.tail _ hd,h.X8 hj]
 have sj:gU f (an (ds.getD j 0))=f (ds.getD j 0):=by show f (an (an _))=_;rw[jX]
 obtain⟨k,hk,ye⟩:=r.first hy Rb Yz (Q:=fun z=>z=ds.getD (j+1) 0) rfl
 have hS:∀i,i<k->Ao L ds (dx (gU f) i (f (ds.getD j 0))/2):=fun i hi=>by
  obtain⟨a,b⟩:=uk r hy i
  refine⟨a,fun q=>?_⟩
  rcases h.at hj q (b.trans Yz) with z|z
  .exact ye i hi z
  have hp:dx (gU f) (i+1) (an (ds.getD j 0))=an (ds.getD j 0):=by rw[rN,sj,z]
  have h2:dx (gU f) (k+1) (an (ds.getD j 0))=ds.getD (j+1) 0:=by rw[rN,sj,hk]
  rw[G9 (by omega) hp] at h2
  have iL:(k+1)%(i+1)<i+1:=Nat.mod_lt _ (by omega)
  by_cases w:(k+1)%(i+1)=0
  .rw[w] at h2
   have h2:an (ds.getD j 0)=ds.getD (j+1) 0:=h2
   have:=h.edg j (j+1) (by omega) hj (by rw[<-h2,jI])
   omega
  obtain⟨m,hm⟩:∃m,(k+1)%(i+1)=m+1:=⟨_,(Nat.succ_pred w).symm⟩
  rw[hm,rN,sj] at h2
  exact ye m (by omega) h2
 have:=(r.fF hy (k:=k) hS).2.2
 rw[hk,r.left _ hd] at this
 exact this
theorem iG.chi (h:iG tl L ds)(r:vq L tl f lf)(hP:nS L N M (two tl) (two lf)):∀j,j<ds.length->JP (Ao L ds) (two lf) (lf (ds.getD j 0)) (lf (ds.getD 0 0))/\¬JP (Ao L ds) (two lf) (lf (an (ds.getD j 0))) (lf (ds.getD 0 0)):=by
 have key:∀j,j<ds.length->JP (Ao L ds) (two lf) (lf (ds.getD j 0)) (lf (ds.getD 0 0)):=fun j=>by
  induction j with
  |zero=>exact fun _=>.id _
  |succ j ih=>exact fun hj=>(r.along h hj).sy.tr (ih (by omega))
 exact fun j hj=>⟨key j hj,fun w=>h.part hP hj ((key j hj).tr w.sy)⟩
abbrev Lf (L ds:List Int)(lf:Int->Int)(a:Int):Prop:=JP (Ao L ds) (two lf) a (lf (ds.getD 0 0))
theorem iG.pz (h:iG tl L ds)(r:vq L tl f lf)(hP:nS L N M (two tl) (two lf))(hd:ak L d):(Lf L ds lf (lf d)↔Lf L ds lf (lf (an d)))↔¬zR ds (d/2):=by
 constructor
 .rintro q ⟨j,hj,e⟩
  obtain⟨c1,c2⟩:=h.chi r hP j hj
  rcases xA (x:=d) (y:=ds.getD j 0) e.symm with w|w
  .rw[<-w] at c1 c2;exact c2 (q.1 c1)
  rw[<-jX d] at w
  have w:an d=ds.getD j 0:=by rw[<-jX (an d),w,jX]
  rw[<-w] at c1 c2
  rw[jX] at c2
  exact c2 (q.2 c1)
 intro q
 have:=jL (S:=Ao L ds) (g:=lf) (d:=d) ⟨hd,q⟩
 exact⟨fun w=>this.sy.tr w,fun w=>this.tr w⟩
end
def par {α:Type}(p:α->Bool):List α->Bool
 |[]=>false
 |x::l=>xor (p x) (par p l)
section
variable {α β:Type}{p q:α->Bool}{l m:List α}
theorem um:par p (l++m)=xor (par p l) (par p m):=by
 induction l with
 |nil=>simp[par]
 |cons x l ih=>simp only[List.cons_append,par,ih,Bool.xor_assoc]
theorem JL:par (fun x=>xor (p x) (q x)) l=xor (par p l) (par q l):=by
 induction l with
 |nil=>rfl
 |cons x l ih=>
  simp only[par,ih]
  generalize p x=a;generalize q x=b;generalize par p l=c;generalize par q l=d
  revert a b c d;decide
theorem nU (h:∀x∈l,p x=q x):par p l=par q l:=by
 induction l with
 |nil=>rfl
 |cons x l ih=>simp only[par,h x List.mem_cons_self,ih fun y hy=>h y (List.mem_cons_of_mem _ hy)]
theorem qH (h:∀x∈l,p x=false):par p l=false:=by
 induction l with
 |nil=>rfl
 |cons x l ih=>simp only[par,h x List.mem_cons_self,ih fun y hy=>h y (List.mem_cons_of_mem _ hy)];rfl
theorem Fw {p:β->Bool}{f:α->List β}:par p (l.flatMap f)=par (fun x=>par p (f x)) l:=by
 induction l with
 |nil=>rfl
 |cons x l ih=>rw[List.flatMap_cons,um,ih];rfl
theorem JM {a:α}(hn:l.Nodup)(ha:a∈l)(h:∀x∈l,x≠a->p x=false):par p l=p a:=by
 induction l with
 |nil=>cases ha
 |cons x l ih=>
  obtain⟨n1,n2⟩:=List.nodup_cons.1 hn
  rcases List.mem_cons.1 ha with e|ha
  .subst e
   show xor (p a) (par p l)=_
   rw[qH fun y hy=>h y (List.mem_cons_of_mem _ hy) fun z=>n1 (z▸hy),Bool.xor_false]
  show xor (p x) (par p l)=_
  rw[h x List.mem_cons_self fun z=>n1 (z▸ha),ih n2 ha fun y hy=>h y (List.mem_cons_of_mem _ hy),Bool.false_xor]
theorem TA {a b:α}(hn:l.Nodup)(ha:a∈l)(hb:b∈l)(j9:a≠b)(h:∀x∈l,x≠a->x≠b->p x=false):par p l=xor (p a) (p b):=by
 induction l with
 |nil=>cases ha
 |cons x l ih=>
  obtain⟨n1,n2⟩:=List.nodup_cons.1 hn
  show xor (p x) (par p l)=_
  rcases List.mem_cons.1 ha with e|ha
  .subst e
   rcases List.mem_cons.1 hb with e|hb
   .exact absurd e.symm j9
   rw[JM n2 hb fun y hy z=>h y (List.mem_cons_of_mem _ hy) (fun w=>n1 (w▸hy)) z]
  rcases List.mem_cons.1 hb with e|hb
  .rw[e]
   rw[e] at h
   rw[JM n2 ha fun y hy z=>h y (List.mem_cons_of_mem _ hy) z (fun w=>n1 (by rw[<-w];exact hy)),Bool.xor_comm]
  rw[h x List.mem_cons_self (fun z=>n1 (z▸ha)) (fun z=>n1 (z▸hb)),Bool.false_xor,ih n2 ha hb fun y hy=>h y (List.mem_cons_of_mem _ hy)]
end
theorem bx1 {s t p q:Bool}(h:xor p q=xor s t):xor s p=xor t q:=by cases s<;>cases t<;>cases p<;>cases q<;>simp_all
theorem bx2 {t p q r:Bool}(h1:xor r p=false)(h2:xor r q=false)(h:xor true p=xor t q):t=true:=by cases t<;>cases p<;>cases q<;>cases r<;>simp_all
theorem TB {P Q:Prop}[Decidable P][Decidable Q]{R:Prop}[Decidable R](h:(P↔Q)↔¬R):xor (decide P) (decide Q)=decide R:=by
 by_cases p:P<;>by_cases q:Q<;>by_cases r:R<;>simp_all
abbrev ko (L H:List Int)(e:Int):Prop:=e∈L/\e∉H
structure WkA (L H:List Int)(tl lf:Int->Int)(W:List (List Int))(cy:List Int->List (List Int)):Prop where
 nd:(W.flatMap id).Nodup
 mem:∀d,d∈W.flatMap id↔ak H d
 one:∀w∈W,∀d∈w,∀e∈w,JP (ko L H) (two lf) (lf d) (lf e)
 X7:∀w∈W,∀c∈cy w,iG tl H c/\c.getD 0 0∈w
 par:∀w∈W,∀e,par (fun d=>decide (d/2=e)) w=par (fun c=>@decide (zR c e) (Classical.propDecidable _)) (cy w)
section
variable {L H ds N M N' M':List Int}{tl f lf f' lP lX lY vx:Int->Int}{S:Int->Prop}{d e x y a b:Int}{W:List (List Int)}{cy:List Int->List (List Int)}{Pt:Int->Prop}
theorem Qf (h:iG tl H ds)(k:zR ds e):e∈H:=by
 obtain⟨j,hj,rfl⟩:=k
 exact h.jb j hj
theorem Dl (h:iG tl H ds)(hH:∀e∈H,e∈L)(k:JP (ko L H) (two lf) a b):JP (Ao L ds) (two lf) a b:=k.mono fun f hf=>⟨hf.1,fun q=>hf.2 (Qf h q)⟩
open Classical in
theorem Qg (r:vq L tl f lf)(hP:nS L N M (two tl) (two lf))(hH:∀e∈H,e∈L)(hW:WkA L H tl lf W cy)(hc:JP (· ∈L) (two lf) a b)(hs:∀w∈W,∀c∈cy w,(Lf L c lf a↔Lf L c lf b)):JP (ko L H) (two lf) a b:=by
 obtain⟨T,hT⟩:∃T:Int->Prop,∀x,T x↔JP (ko L H) (two lf) a x:=⟨_,fun _=>Iff.rfl⟩
 obtain⟨Z,hZ⟩:∃Z,Z=W.flatMap fun w=>if ∃d∈w,T (lf d) then cy w else[]:=⟨_,rfl⟩
 have hZm:∀c∈Z,∃w∈W,c∈cy w/\∃d∈w,T (lf d):=fun c L2=>by
  rw[hZ] at L2
  obtain⟨w,hw,h⟩:=List.mem_flatMap.1 L2
  split at h
  .rename_i q;exact⟨w,hw,h,q⟩
  cases h
 have hZH:∀c∈Z,iG tl H c:=fun c L2=>by
  obtain⟨w,hw,h,_⟩:=hZm c L2
  exact(hW.X7 w hw c h).1
 obtain⟨F,hF⟩:∃F:Int->Bool,∀x,F x=xor (decide (T x)) (par (fun c=>decide (Lf L c lf x)) Z):=⟨_,fun _=>rfl⟩
 have hTj:∀x y,JP (ko L H) (two lf) x y->(T x↔T y):=fun x y q=>by
  rw[hT,hT];exact⟨fun h=>h.tr q,fun h=>h.tr q.sy⟩
 have hTw:∀w∈W,∀d∈w,((∃d∈w,T (lf d))↔T (lf d)):=fun w hw d hd=>by
  constructor
  .rintro⟨e,he,q⟩;exact(hTj _ _ (hW.one w hw e he d hd)).1 q
  exact fun q=>⟨d,hd,q⟩
 have step:∀e∈L,F (lf (2*e))=F (lf (2*e+1)):=fun e he=>by
  have hd:ak L (2*e):=ck.2 ⟨e,he,.inl rfl⟩
  have WS:an (2*e)=2*e+1:=by unfold an;rw[if_pos (by omega)]
  have X5:∀c∈Z,xor (decide (Lf L c lf (lf (2*e)))) (decide (Lf L c lf (lf (2*e+1))))=decide (zR c e):=fun c L2=>by
   have:=((hZH c L2).mono hH).pz r hP hd
   rw[WS,show 2*e/2=e by omega] at this
   exact TB this
  have h1:xor (par (fun c=>decide (Lf L c lf (lf (2*e)))) Z) (par (fun c=>decide (Lf L c lf (lf (2*e+1)))) Z)=par (fun c=>decide (zR c e)) Z:=by
   rw[<-JL];exact nU X5
  have h2:par (fun c=>decide (zR c e)) Z=xor (decide (T (lf (2*e)))) (decide (T (lf (2*e+1)))):=by
   by_cases q:e∈H
   .have e1:par (fun c=>decide (zR c e)) Z=par (fun d=>decide (d/2=e/\T (lf d))) (W.flatMap id):=by
     rw[hZ,Fw,Fw]
     refine nU fun w hw=>?_
     by_cases z:∃d∈w,T (lf d)
     .rw[if_pos z]
      have:=hW.par w hw e
      refine Eq.trans this.symm (nU fun d hd=>?_)
      have:=(hTw w hw d hd).1 z
      simp[this]
     rw[if_neg z]
     refine(qH fun d hd=>?_).symm
     have:¬T (lf d):=fun q=>z ⟨d,hd,q⟩
     simp[this]
    have m1:2*e∈W.flatMap id:=(hW.mem _).2 (by unfold ak;rw[show 2*e/2=e by omega];exact q)
    have m2:2*e+1∈W.flatMap id:=(hW.mem _).2 (by unfold ak;rw[show(2*e+1)/2=e by omega];exact q)
    rw[e1,TA hW.nd m1 m2 (by omega) fun x _ n1 n2=>decide_eq_false fun z=>by omega]
    have s1:2*e/2=e:=by omega
    have s2:(2*e+1)/2=e:=by omega
    simp[s1,s2]
   rw[qH fun c L2=>decide_eq_false fun z=>q (Qf (hZH c L2) z)]
   have:=hTj _ _ (JP.pz (S:=ko L H) (p:=two lf) ⟨he,q⟩)
   have:decide (T (lf (2*e)))=decide (T (lf (2*e+1))):=decide_eq_decide.2 this
   rw[this];simp
  rw[hF,hF]
  rw[h2] at h1
  exact bx1 h1
 have dL:∀x y,JP (· ∈L) (two lf) x y->F x=F y:=fun x y q=>by
  induction q with
  |of q=>obtain⟨e,he,rfl,rfl⟩:=q;exact step e he
  |id _=>rfl
  |sy _ ih=>exact ih.symm
  |tr _ _ i1 i2=>exact i1.trans i2
 have ha:par (fun c=>decide (¬Lf L c lf a)) Z=false:=qH fun c L2=>by
  obtain⟨w,hw,h1,h2⟩:=hZm c L2
  obtain⟨h3,h4⟩:=hW.X7 w hw c h1
  have:=(hT _).1 ((hTw w hw _ h4).1 h2)
  exact decide_eq_false fun z=>z (Dl h3 hH this)
 have hb:par (fun c=>decide (¬Lf L c lf b)) Z=false:=by
  rw[<-ha]
  refine nU fun c L2=>?_
  obtain⟨w,hw,h1,h2⟩:=hZm c L2
  have:=hs w hw c h1
  exact decide_eq_decide.2 (not_congr this.symm)
 have hz:∀x,par (fun c=>decide (¬Lf L c lf x)) Z=xor (par (fun _=>true) Z) (par (fun c=>decide (Lf L c lf x)) Z):=fun x=>by
  rw[<-JL]
  exact nU fun c _=>by by_cases q:Lf L c lf x<;>simp[q]
 have j9:=dL a b hc
 have hTa:T a:=(hT a).2 (.id _)
 rw[hF,hF,decide_eq_true hTa] at j9
 rw[hz] at ha hb
 exact(hT b).1 (of_decide_eq_true (bx2 ha hb j9))
structure TC (L H N M N' M':List Int)(tl f f' lX lP:Int->Int):Prop where
 sub:∀e∈H,e∈L
 rx:vq L tl f lX
 rp:vq H tl f' lP
 px:nS L N M (two tl) (two lX)
 pp:nS H N' M' (two tl) (two lP)
 res:∀d,ak H d->JP (ko L H) (two lX) (lX d) (lX (f' d))
theorem TC.tw (h:TC L H N M N' M' tl f f' lX lP)(hc:iG tl H ds)(hd:ak H d):(Lf H ds lP (lP d)↔Lf L ds lX (lX d))↔(Lf H ds lP (lP (an d))↔Lf L ds lX (lX (an d))):=by
 have h1:=hc.pz h.rp h.pp hd
 have h2:=(hc.mono h.sub).pz h.rx h.px (h.sub _ hd)
 by_cases a:Lf H ds lP (lP d)<;>by_cases b:Lf H ds lP (lP (an d))<;>by_cases c:Lf L ds lX (lX d)<;>by_cases e:Lf L ds lX (lX (an d))<;>by_cases q:zR ds (d/2)<;>simp_all
theorem TC.nx (h:TC L H N M N' M' tl f f' lX lP)(hc:iG tl H ds)(hd:ak H d):(Lf H ds lP (lP d)↔Lf L ds lX (lX d))↔(Lf H ds lP (lP (f' d))↔Lf L ds lX (lX (f' d))):=by
 rw[h.rp.left d hd]
 have:=Dl hc h.sub (h.res d hd)
 have:Lf L ds lX (lX d)↔Lf L ds lX (lX (f' d)):=⟨fun q=>this.sy.tr q,fun q=>this.tr q⟩
 rw[this]
theorem TC.at (h:TC L H N M N' M' tl f f' lX lP)(hc:iG tl H ds){j:Nat}(hj:j<ds.length)(hd:ak H d)(ht:tl (ds.getD j 0)=tl d):Lf H ds lP (lP d)↔Lf L ds lX (lX d):=by
 obtain⟨k,hk⟩:=h.rp.one _ _ (hc.jb j hj) hd ht
 have key:∀k,ak H (dx (gU f') k (ds.getD j 0))/\(Lf H ds lP (lP (dx (gU f') k (ds.getD j 0)))↔Lf L ds lX (lX (dx (gU f') k (ds.getD j 0)))):=fun k=>by
  induction k with
  |zero=>exact⟨hc.jb j hj,fun _=>((hc.mono h.sub).chi h.rx h.px j hj).1,fun _=>(hc.chi h.rp h.pp j hj).1⟩
  |succ k ih=>
   obtain⟨i1,i2⟩:=ih
   exact⟨(h.rp.W4 i1).1,(h.nx hc (bI.2 i1)).1 ((h.tw hc i1).1 i2)⟩
 rw[<-hk];exact(key k).2
structure Pts (H M M':List Int)(tl lX lP lY vx:Int->Int)(Pt:Int->Prop):Prop where
 jb:∀d,ak H d->Pt d/\vx d=tl d/\lY d=lX d
 lone:∀k,Pt k->¬ak H k->∀d,ak H d->tl d≠vx k
theorem TC.back (h:TC L H N M N' M' tl f f' lX lP)(hp:Pts H M M' tl lX lP lY vx Pt)(wx:WkA L H tl lX W cy)(wp:WkA H H tl lP W cy)(cx:∀k k',Pt k->Pt k'->JP (· ∈L) (two lX) (lY k) (lY k'))(cp:∀k k',Pt k->Pt k'->JP (· ∈H) (two lP) (lP k) (lP k'))
  (hs:∀w∈W,∀c∈cy w,∀k,Pt k->(∀j,j<c.length->tl (c.getD j 0)≠vx k)->(Lf H c lP (lP k)↔Lf L c lX (lY k))) {k k':Int} (hk:Pt k) (zS:Pt k'):lP k=lP k'↔JP (ko L H) (two lX) (lY k) (lY k'):=by
 have all:∀w∈W,∀c∈cy w,∀k,Pt k->(Lf H c lP (lP k)↔Lf L c lX (lY k)):=fun w hw c hc k hk=>by
  by_cases q:∃j,j<c.length/\tl (c.getD j 0)=vx k
  .obtain⟨j,hj,e⟩:=q
   have An:=(wp.X7 w hw c hc).1
   by_cases z:ak H k
   .obtain⟨_,z2,z3⟩:=hp.jb k z
    rw[z3]
    exact h.at An hj z (e.trans z2)
   exact absurd e (hp.lone k hk z _ (An.jb j hj))
  exact hs w hw c hc k hk fun j hj e=>q ⟨j,hj,e⟩
 constructor
 .intro e
  refine Qg h.rx h.px h.sub wx (cx k k' hk zS) fun w hw c hc=>?_
  rw[<-all w hw c hc k hk,<-all w hw c hc k' zS,e]
 intro e
 have:=Qg h.rp h.pp (fun _ q=>q) wp (cp k k' hk zS) fun w hw c hc=>by
  have:=Dl (wp.X7 w hw c hc).1 h.sub e
  rw[all w hw c hc k hk,all w hw c hc k' zS]
  exact⟨fun q=>this.sy.tr q,fun q=>this.tr q⟩
 exact JP.none (fun f hf=>hf.2 hf.1) this
theorem HJ (hH:∀e∈H,e∈L)(hp:Pts H M M' tl lX lP lY vx Pt)(hA:∀k k',Pt k->Pt k'->(lP k=lP k'↔JP (ko L H) (two lX) (lY k) (lY k')))(hc:iG tl H ds){k:Int}(hk:Pt k):Lf H ds lP (lP k)↔Lf L ds lX (lY k):=by
 have Qh:∀e∈H,ak H (2*e)/\ak H (2*e+1):=fun e he=>⟨ck.2 ⟨e,he,.inl rfl⟩,ck.2 ⟨e,he,.inr rfl⟩⟩
 have hmo:∀ {a b},JP (ko L H) (two lX) a b->JP (Ao L ds) (two lX) a b:=fun q=>Dl hc hH q
 have h0:=hp.jb _ (hc.jb 0 hc.ne)
 constructor
 .intro q
  have key:∀a b,JP (Ao H ds) (two lP) a b->(∀k,Pt k->lP k=a->∃k',Pt k'/\lP k'=b/\JP (Ao L ds) (two lX) (lY k) (lY k'))/\∀k,Pt k->lP k=b->∃k',Pt k'/\lP k'=a/\JP (Ao L ds) (two lX) (lY k) (lY k'):=fun a b q=>by
   induction q with
   |of q=>
    obtain⟨e,he,rfl,rfl⟩:=q
    obtain⟨d1,d2⟩:=Qh e he.1
    obtain⟨p1,_,l1⟩:=hp.jb _ d1
    obtain⟨p2,_,l2⟩:=hp.jb _ d2
    have hx:=JP.pz (S:=Ao L ds) (p:=two lX) ⟨hH e he.1,he.2⟩
    refine⟨fun k hk ek=>⟨_,p2,rfl,?_⟩,fun k hk ek=>⟨_,p1,rfl,?_⟩⟩
    .have:=hmo ((hA k _ hk p1).1 ek)
     rw[l1] at this
     rw[l2]
     exact this.tr hx
    have:=hmo ((hA k _ hk p2).1 ek)
    rw[l2] at this
    rw[l1]
    exact this.tr hx.sy
   |id _=>exact⟨fun k hk e=>⟨k,hk,e,.id _⟩,fun k hk e=>⟨k,hk,e,.id _⟩⟩
   |sy _ ih=>exact⟨ih.2,ih.1⟩
   |tr _ _ i1 i2=>
    refine⟨fun k hk e=>?_,fun k hk e=>?_⟩
    .obtain⟨k1,a1,a2,a3⟩:=i1.1 k hk e
     obtain⟨k2,b1,b2,b3⟩:=i2.1 k1 a1 a2
     exact⟨k2,b1,b2,a3.tr b3⟩
    obtain⟨k1,a1,a2,a3⟩:=i2.2 k hk e
    obtain⟨k2,b1,b2,b3⟩:=i1.2 k1 a1 a2
    exact⟨k2,b1,b2,a3.tr b3⟩
  obtain⟨k',h1,h2,h3⟩:=(key _ _ q).1 k hk rfl
  have:=hmo ((hA k' _ h1 h0.1).1 h2)
  rw[h0.2.2] at this
  exact h3.tr this
 intro q
 have key:∀a b,JP (Ao L ds) (two lX) a b->(∀k,Pt k->JP (ko L H) (two lX) (lY k) a->∃k',Pt k'/\JP (ko L H) (two lX) (lY k') b/\JP (Ao H ds) (two lP) (lP k) (lP k'))/\∀k,Pt k->JP (ko L H) (two lX) (lY k) b->∃k',Pt k'/\JP (ko L H) (two lX) (lY k') a/\JP (Ao H ds) (two lP) (lP k) (lP k'):=fun a b q=>by
  induction q with
  |of q=>
   obtain⟨e,he,rfl,rfl⟩:=q
   by_cases z:e∈H
   .obtain⟨d1,d2⟩:=Qh e z
    obtain⟨p1,_,l1⟩:=hp.jb _ d1
    obtain⟨p2,_,l2⟩:=hp.jb _ d2
    have hx:=JP.pz (S:=Ao H ds) (p:=two lP) ⟨z,he.2⟩
    refine⟨fun k hk ek=>⟨_,p2,by rw[l2];exact .id _,?_⟩,fun k hk ek=>⟨_,p1,by rw[l1];exact .id _,?_⟩⟩
    .rw[(hA k _ hk p1).2 (by rw[l1];exact ek)];exact hx
    rw[(hA k _ hk p2).2 (by rw[l2];exact ek)];exact hx.sy
   have hx:=JP.pz (S:=ko L H) (p:=two lX) ⟨he.1,z⟩
   exact⟨fun k hk ek=>⟨k,hk,ek.tr hx,.id _⟩,fun k hk ek=>⟨k,hk,ek.tr hx.sy,.id _⟩⟩
  |id _=>exact⟨fun k hk e=>⟨k,hk,e,.id _⟩,fun k hk e=>⟨k,hk,e,.id _⟩⟩
  |sy _ ih=>exact⟨ih.2,ih.1⟩
  |tr _ _ i1 i2=>
   refine⟨fun k hk e=>?_,fun k hk e=>?_⟩
   .obtain⟨k1,a1,a2,a3⟩:=i1.1 k hk e
    obtain⟨k2,b1,b2,b3⟩:=i2.1 k1 a1 a2
    exact⟨k2,b1,b2,a3.tr b3⟩
   obtain⟨k1,a1,a2,a3⟩:=i2.2 k hk e
   obtain⟨k2,b1,b2,b3⟩:=i1.2 k1 a1 a2
   exact⟨k2,b1,b2,a3.tr b3⟩
 obtain⟨k',h1,h2,h3⟩:=(key _ _ q).1 k hk (.id _)
 have:=(hA k' _ h1 h0.1).2 (by rw[h0.2.2];exact h2)
 rw[this] at h3
 exact h3
end
def sW (f:Int->Int)(a b:Int)(x:Int):Int:=if x=a then f b else if x=b then f a else f x
structure Dm (D:List Int)(f:Int->Int):Prop where
 cl:∀x∈D,f x∈D
 ij:∀x∈D,∀y∈D,f x=f y->x=y
section
variable {D rs Dt:List Int}{f g:Int->Int}{a b x y:Int}{R J:Int->Int->Prop}
theorem BT:sW f a b a=f b:=if_pos rfl
theorem BU:sW f a b b=f a:=by
 unfold sW;split
 .rename_i e;rw[e]
 rw[if_pos rfl]
theorem zq (h1:x≠a)(h2:x≠b):sW f a b x=f x:=by unfold sW;rw[if_neg h1,if_neg h2]
theorem HK (f:Int->Int)(a b x:Int):(x=a/\sW f a b x=f b)\/(x=b/\sW f a b x=f a)\/(x≠a/\x≠b/\sW f a b x=f x):=by
 by_cases p:x=a
 .exact .inl ⟨p,by rw[p,BT]⟩
 by_cases q:x=b
 .exact .inr (.inl ⟨q,by rw[q,BU]⟩)
 exact .inr (.inr ⟨p,q,zq p q⟩)
theorem Qi (h:Dm D f)(ha:a∈D)(hb:b∈D):Dm D (sW f a b):=by
 refine⟨fun x hx=>?_,fun x hx y hy e=>?_⟩
 .rcases HK f a b x with⟨_,e⟩|⟨_,e⟩|⟨_,_,e⟩
  .rw[e];exact h.cl b hb
  .rw[e];exact h.cl a ha
  rw[e];exact h.cl x hx
 rcases HK f a b x with⟨p,q⟩|⟨p,q⟩|⟨p,p',q⟩<;>rcases HK f a b y with⟨u,v⟩|⟨u,v⟩|⟨u,u',v⟩<;>rw[q,v] at e
 .rw[p,u]
 .rw[p,u,h.ij _ hb _ ha e]
 .exact absurd (h.ij _ hb _ hy e).symm u'
 .rw[p,u,h.ij _ ha _ hb e]
 .rw[p,u]
 .exact absurd (h.ij _ ha _ hy e).symm u
 .exact absurd (h.ij _ hx _ hb e) p'
 .exact absurd (h.ij _ hx _ ha e) p
 exact h.ij _ hx _ hy e
theorem aah (j9:a≠b):sW (sW f a b) a b x=f x:=by
 by_cases p:x=a
 .subst p;rw[BT,BU]
 by_cases q:x=b
 .subst q;rw[BU,BT]
 rw[zq p q,zq p q]
theorem Lt (h:gP f a b)(j9:a≠b):∃m,dx f (m+1) a=b/\∀i,i<=m->dx f i a≠b:=by
 obtain⟨k,hk⟩:=h
 have:∀n,(∃i,i<n/\dx f i a=b)->∃m,dx f m a=b/\∀i,i<m->dx f i a≠b:=fun n=>by
  induction n with
  |zero=>rintro⟨i,hi,_⟩;omega
  |succ n ih=>
   rintro⟨i,hi,q⟩
   by_cases w:∃i,i<n/\dx f i a=b
   .exact ih w
   exact⟨i,q,fun j hj z=>w ⟨j,by omega,z⟩⟩
 obtain⟨m,h1,h2⟩:=this (k+1) ⟨k,Nat.lt_succ_self _,hk⟩
 cases m with
 |zero=>exact absurd h1 j9
 |succ m=>exact⟨m,h1,fun i hi=>h2 i (by omega)⟩
theorem Qj (h:gP f a b)(j9:a≠b):¬gP (sW f a b) b a:=by
 obtain⟨m,h1,h2⟩:=Lt h j9
 have hna:∀i,0<i->i<=m+1->dx f i a≠a:=fun i h0 hi e=>by
  by_cases q:i=m+1
  .subst q;exact j9 (e.symm.trans h1)
  have e2:dx f (m+1-i) a=b:=by
   have:=qp (f:=f) (d:=a) i (m+1-i)
   rw[show i+(m+1-i)=m+1 by omega,h1,e] at this
   exact this.symm
  exact h2 _ (by omega) e2
 have key:∀k,∃i,0<i/\i<=m+1/\dx (sW f a b) k b=dx f i a:=fun k=>by
  induction k with
  |zero=>exact⟨m+1,Nat.succ_pos _,Nat.le_refl _,h1.symm⟩
  |succ k ih=>
   obtain⟨i,i0,i1,e⟩:=ih
   show ∃i,0<i/\i<=m+1/\sW f a b (dx (sW f a b) k b)=dx f i a
   rw[e]
   by_cases q:i=m+1
   .subst q
    rw[h1,BU]
    exact⟨1,Nat.one_pos,by omega,rfl⟩
   rw[zq (hna i i0 i1) (h2 i (by omega))]
   exact⟨i+1,Nat.succ_pos _,by omega,rfl⟩
 rintro⟨k,hk⟩
 obtain⟨i,i0,i1,e⟩:=key k
 exact hna i i0 i1 (e.symm.trans hk)
theorem Qk (hp:Dm D f)(hb:b∈D)(j9:a≠b)(h:¬gP f b a):gP (sW f a b) a b:=by
 obtain⟨k,_,hk⟩:=IY hp.cl hp.ij hb
 have:∀n,(∃i,i<n/\dx f (i+1) b=b)->∃m,dx f (m+1) b=b/\∀i,i<m->dx f (i+1) b≠b:=fun n=>by
  induction n with
  |zero=>rintro⟨i,hi,_⟩;omega
  |succ n ih=>
   rintro⟨i,hi,q⟩
   by_cases w:∃i,i<n/\dx f (i+1) b=b
   .exact ih w
   exact⟨i,q,fun j hj z=>w ⟨j,by omega,z⟩⟩
 obtain⟨m,h1,h2⟩:=this (k+1) ⟨k,Nat.lt_succ_self _,hk⟩
 have key:∀i,i<=m->dx (sW f a b) (i+1) a=dx f (i+1) b:=fun i=>by
  induction i with
  |zero=>intro _;show sW f a b a=f b;exact BT
  |succ i ih=>
   intro hi
   show sW f a b (dx (sW f a b) (i+1) a)=f (dx f (i+1) b)
   rw[ih (by omega),zq (fun e=>h ⟨_,e⟩) (h2 i (by omega))]
 exact⟨m+1,(key m (Nat.le_refl _)).trans h1⟩
def Q6 (R:Int->Int->Prop)(a b x y:Int):Prop:=R x y\/(R x a/\R b y)\/(R x b/\R a y)
structure Sym (R:Int->Int->Prop):Prop where
 s:∀ {x y},R x y->R y x
 t:∀ {x y z},R x y->R y z->R x z
theorem Sym.jn (h:Sym R):Sym (Q6 R a b):=by
 refine⟨fun q=>?_,fun p q=>?_⟩
 .rcases q with z|⟨z,w⟩|⟨z,w⟩
  .exact .inl (h.s z)
  .exact .inr (.inr ⟨h.s w,h.s z⟩)
  exact .inr (.inl ⟨h.s w,h.s z⟩)
 rcases p with z|⟨z,w⟩|⟨z,w⟩<;>rcases q with u|⟨u,v⟩|⟨u,v⟩
 .exact .inl (h.t z u)
 .exact .inr (.inl ⟨h.t z u,v⟩)
 .exact .inr (.inr ⟨h.t z u,v⟩)
 .exact .inr (.inl ⟨z,h.t w u⟩)
 .exact .inr (.inl ⟨z,v⟩)
 .exact .inl (h.t z v)
 .exact .inr (.inr ⟨z,h.t w u⟩)
 .exact .inl (h.t z v)
 exact .inr (.inr ⟨z,v⟩)
theorem TD (h:Sym R)(hx:∀x∈D,R x x):∃rs,lQ D R rs:=by
 have key:∀l:List Int,(∀x∈l,x∈D)->∃rs:List Int,rs.Nodup/\(∀r∈rs,r∈l)/\(∀x∈l,∃r∈rs,R x r)/\∀r∈rs,∀r'∈rs,R r r'->r=r':=fun l=>by
  induction l with
  |nil=>exact fun _=>⟨[],List.nodup_nil,fun r h=>(by cases h),fun r h=>(by cases h),fun r h=>(by cases h)⟩
  |cons x l ih=>
   intro hl
   obtain⟨rs,h1,h2,h3,h4⟩:=ih fun y hy=>hl y (List.mem_cons_of_mem _ hy)
   by_cases q:∃r∈rs,R x r
   .exact⟨rs,h1,fun r hr=>List.mem_cons_of_mem _ (h2 r hr),fun y hy=>(List.mem_cons.1 hy).elim (fun e=>e▸q) (h3 y),h4⟩
   refine⟨x::rs,List.nodup_cons.2 ⟨fun z=>q ⟨x,z,hx x (hl x List.mem_cons_self)⟩,h1⟩,fun r hr=>(List.mem_cons.1 hr).elim (fun e=>e▸List.mem_cons_self) fun z=>List.mem_cons_of_mem _ (h2 r z),fun y hy=>?_,fun r hr r' wB w=>?_⟩
   .rcases List.mem_cons.1 hy with e|hy
    .subst e;exact⟨y,List.mem_cons_self,hx y (hl y List.mem_cons_self)⟩
    obtain⟨r,hr,z⟩:=h3 y hy;exact⟨r,List.mem_cons_of_mem _ hr,z⟩
   rcases List.mem_cons.1 hr with e|k<;>rcases List.mem_cons.1 wB with e'|k'
   .rw[e,e']
   .exact absurd ⟨r',k',e▸w⟩ q
   .exact absurd ⟨r,k,h.s (e'▸w)⟩ q
   exact h4 r k r' k' w
 obtain⟨rs,h1,h2,h3,h4⟩:=key D fun _ h=>h
 exact⟨rs,h1,h2,h3,h4⟩
theorem zu (h:Sym R)(k:lQ D R rs)(k':lQ D R Dt):rs.length=Dt.length:=
 Nat.le_antisymm (k.le k' (fun _ _=>h.s) fun _ _ _=>h.t) (k'.le k (fun _ _=>h.s) fun _ _ _=>h.t)
theorem oT {R':Int->Int->Prop}(h:∀x y,x∈D->y∈D->(R x y↔R' x y))(hr:lQ D R rs):lQ D R' rs:=
 ⟨hr.nd,hr.sub,fun x hx=>let⟨r,h1,h2⟩:=hr.ex x hx;⟨r,h1,(h x r hx (hr.sub r h1)).1 h2⟩,fun r h1 r' h2 w=>hr.uq r h1 r' h2 ((h r r' (hr.sub r h1) (hr.sub r' h2)).2 w)⟩
theorem BV (h:Sym R)(hr:lQ D R rs)(ha:a∈D)(hb:b∈D):∃Dt,lQ D (Q6 R a b) Dt/\((R a b/\Dt.length=rs.length)\/(¬R a b/\Dt.length+1=rs.length)):=by
 by_cases q:R a b
 .refine⟨rs,⟨hr.nd,hr.sub,fun x hx=>?_,fun r h1 r' h2 w=>hr.uq r h1 r' h2 ?_⟩,.inl ⟨q,rfl⟩⟩
  .obtain⟨r,h1,h2⟩:=hr.ex x hx
   exact⟨r,h1,.inl h2⟩
  rcases w with z|⟨z1,z2⟩|⟨z1,z2⟩
  .exact z
  .exact h.t z1 (h.t q z2)
  exact h.t z1 (h.t (h.s q) z2)
 obtain⟨r1,m1,j1⟩:=hr.ex a ha
 obtain⟨r2,m2,j2⟩:=hr.ex b hb
 have cO:r1≠r2:=fun z=>q (h.t j1 (z▸h.s j2))
 refine⟨rs.erase r2,⟨hr.nd.erase _,fun r k=>hr.sub r (List.mem_of_mem_erase k),fun x hx=>?_,fun r k r' k' w=>?_⟩,.inr ⟨q,?_⟩⟩
 .obtain⟨r,h3,h4⟩:=hr.ex x hx
  by_cases z:r=r2
  .subst z
   exact⟨r1,(List.Nodup.mem_erase_iff hr.nd).2 ⟨cO,m1⟩,.inr (.inr ⟨h.t h4 (h.s j2),j1⟩)⟩
  exact⟨r,(List.Nodup.mem_erase_iff hr.nd).2 ⟨z,h3⟩,.inl h4⟩
 .obtain⟨n1,n2⟩:=(List.Nodup.mem_erase_iff hr.nd).1 k
  obtain⟨n3,n4⟩:=(List.Nodup.mem_erase_iff hr.nd).1 k'
  rcases w with z|⟨z1,z2⟩|⟨z1,z2⟩
  .exact hr.uq _ n2 _ n4 z
  .exact absurd (hr.uq _ m2 _ n4 (h.t (h.s j2) z2)).symm n3
  exact absurd (hr.uq _ n2 _ m2 (h.t z1 j2)) n1
 rw[List.length_erase_of_mem m2]
 have:=List.length_pos_of_mem m2
 omega
def pN (D:List Int)(f:Int->Int)(x y:Int):Prop:=x∈D/\y∈D/\gP f x y
theorem pN.sy (hp:Dm D f):Sym (pN D f):=⟨fun q=>⟨q.2.1,q.1,q.2.2.symm hp.cl hp.ij q.1⟩,fun p q=>⟨p.1,q.2.1,p.2.2.trans q.2.2⟩⟩
theorem pN.st (hp:Dm D f)(hx:x∈D):pN D f x (f x):=⟨hx,hp.cl x hx,1,rfl⟩
theorem ur (hp:Dm D f)(ha:a∈D)(hb:b∈D)(h:pN D (sW f a b) x y):Q6 (pN D f) a b x y:=by
 obtain⟨hx,_,k,rfl⟩:=h
 have hs:=pN.sy hp
 have hq:=Qi hp ha hb
 have hj:=hs.jn (a:=a) (b:=b)
 induction k with
 |zero=>exact .inl ⟨hx,hx,.refl _⟩
 |succ k ih=>
  have hz:=gO hq.cl hx k
  show Q6 (pN D f) a b x (sW f a b (dx (sW f a b) k x))
  generalize dx (sW f a b) k x=z at*
  refine hj.t (ih hz) ?_
  by_cases p:z=a
  .subst p
   rw[BT]
   exact .inr (.inl ⟨⟨ha,ha,.refl _⟩,pN.st hp hb⟩)
  by_cases q:z=b
  .subst q
   rw[BU]
   exact .inr (.inr ⟨⟨hb,hb,.refl _⟩,pN.st hp ha⟩)
  rw[zq p q]
  exact .inl (pN.st hp hz)
theorem Ql (hp:Dm D f)(ha:a∈D)(hb:b∈D)(h:Q6 (pN D (sW f a b)) a b x y):Q6 (pN D f) a b x y:=by
 have hs:=pN.sy hp
 have hj:=hs.jn (a:=a) (b:=b)
 have j9:Q6 (pN D f) a b a b:=.inr (.inl ⟨⟨ha,ha,.refl _⟩,⟨hb,hb,.refl _⟩⟩)
 rcases h with z|⟨z,w⟩|⟨z,w⟩
 .exact ur hp ha hb z
 .exact hj.t (ur hp ha hb z) (hj.t j9 (ur hp ha hb w))
 exact hj.t (ur hp ha hb z) (hj.t (hj.s j9) (ur hp ha hb w))
theorem nV (h:∀x∈D,f x=g x)(hg:Dm D g)(hx:x∈D):∀k,dx f k x=dx g k x
 |0=>rfl
 |k+1=>by
  show f (dx f k x)=g (dx g k x)
  rw[nV h hg hx k,h _ (gO hg.cl hx k)]
theorem nW (h:∀x∈D,f x=g x)(hg:Dm D g):Dm D f:=⟨fun x hx=>by rw[h x hx];exact hg.cl x hx,fun x hx y hy e=>by rw[h x hx,h y hy] at e;exact hg.ij x hx y hy e⟩
theorem rO (h:∀x∈D,f x=g x)(hg:Dm D g):pN D f x y↔pN D g x y:=by
 constructor
 .rintro⟨hx,hy,k,e⟩;exact⟨hx,hy,k,by rw[<-nV h hg hx k];exact e⟩
 rintro⟨hx,hy,k,e⟩;exact⟨hx,hy,k,by rw[nV h hg hx k];exact e⟩
theorem W5 (hp:Dm D f)(ha:a∈D)(hb:b∈D)(j9:a≠b)(hr:lQ D (pN D f) rs)(wB:lQ D (pN D (sW f a b)) Dt):Dt.length+1=rs.length\/rs.length+1=Dt.length:=by
 have hq:=Qi hp ha hb
 have hs:=pN.sy hp
 have hs':=pN.sy hq
 obtain⟨j,j1,j2⟩:=BV hs hr ha hb
 obtain⟨j',j1',j2'⟩:=BV hs' wB ha hb
 have back:∀x y,Q6 (pN D f) a b x y->Q6 (pN D (sW f a b)) a b x y:=fun x y h=>by
  refine Ql hq ha hb ?_
  have e:∀u v,pN D (sW (sW f a b) a b) u v↔pN D f u v:=fun u v=>rO (fun x _=>aah j9) hp
  unfold Q6 at h ⊢
  rw[e,e,e,e,e];exact h
 have:=zu hs.jn j1 (oT (fun x y _ _=>⟨Ql hp ha hb,back x y⟩) j1')
 have key:pN D f a b↔¬pN D (sW f a b) a b:=by
  constructor
  .exact fun h k=>Qj h.2.2 j9 (hs'.s k).2.2
  intro h
  refine Classical.byContradiction fun q=>h ⟨ha,hb,Qk hp hb j9 fun z=>q (hs.s ⟨hb,ha,z⟩)⟩
 rcases j2 with⟨q,e⟩|⟨q,e⟩<;>rcases j2' with⟨q',e'⟩|⟨q',e'⟩
 .exact absurd q' (key.1 q)
 .omega
 .omega
 exact absurd (key.2 q') q
end
section
variable {L pre es vs rs ws:List Int}{tl f lf:Int->Int}{d e:Int}
def sX (f:Int->Int)(pre:List Int)(y:Int):Int:=f (if y/2∈pre then y else an y)
theorem uu (h:vq L tl f lf)(pre:List Int):Dm (b8 L L.length) (sX f pre):=by
 have hm:∀y,y∈b8 L L.length->ak L (if y/2∈pre then y else an y):=fun y hy=>by
  have:=(aN y).1 hy
  split
  .exact this
  exact bI.2 this
 refine⟨fun x hx=>(aN _).2 (h.jb _ (hm x hx)),fun x hx y hy e=>?_⟩
 have e:=h.inj _ _ (hm x hx) (hm y hy) e
 split at e<;>split at e
 .exact e
 .rename_i p q;rw[e,jI] at p;exact absurd p q
 .rename_i p q;rw[<-e,jI] at q;exact absurd q p
 rw[<-jX x,e,jX]
theorem W6 (h:vq L tl f lf)(he:e∈L)(hn:e∉pre)(x:Int):sX f (e::pre) x=sW (sX f pre) (2*e) (2*e+1) x:=by
 have t1:an (2*e)=2*e+1:=by unfold an;rw[if_pos (by omega)]
 have t2:an (2*e+1)=2*e:=by unfold an;rw[if_neg (by omega)];omega
 have d1:2*e/2=e:=by omega
 have d2:(2*e+1)/2=e:=by omega
 by_cases p:x=2*e
 .subst p
  rw[BT];unfold sX
  rw[d1,d2,if_pos List.mem_cons_self,if_neg hn,t2]
 by_cases q:x=2*e+1
 .subst q
  rw[BU];unfold sX
  rw[d1,d2,if_pos List.mem_cons_self,if_neg hn,t1]
 rw[zq p q]
 unfold sX
 have:x/2≠e:=by omega
 by_cases z:x/2∈pre
 .rw[if_pos z,if_pos (List.mem_cons_of_mem _ z)]
 rw[if_neg z,if_neg fun w=>(List.mem_cons.1 w).elim this z]
theorem JN (h:vq L tl f lf):∀ {es pre:List Int} {rs ws:List Int},HG L pre es->lQ (b8 L L.length) (pN (b8 L L.length) (sX f pre)) rs->lQ (b8 L L.length) (pN (b8 L L.length) (sX f (es.reverse++pre))) ws->(rs.length+ws.length+es.length)%2=0
 |[],pre,rs,ws,_,h1,h2=>by
  have:=zu (pN.sy (uu h pre)) h1 h2
  show(rs.length+ws.length+0)%2=0
  omega
 |e::es,pre,rs,ws,hs,h1,h2=>by
  have heL:e∈L:=(hs.mem e).2 (.inr List.mem_cons_self)
  have hep:e∉pre:=fun q=>hs.dj e q List.mem_cons_self
  have hp:=uu h (e::pre)
  obtain⟨us,hu⟩:=TD (pN.sy hp) (D:=b8 L L.length) fun x hx=>⟨hx,hx,.refl _⟩
  rw[List.reverse_cons,List.append_assoc] at h2
  have ih:=JN h hs.tl hu h2
  have c:=W5 (uu h pre) (a:=2*e) (b:=2*e+1) ((aN _).2 (ck.2 ⟨e,heL,.inl rfl⟩)) ((aN _).2 (ck.2 ⟨e,heL,.inr rfl⟩)) (by omega) h1
   (oT (fun x y _ _=>(rO (fun z _=>(W6 h heL hep z).symm) hp).symm) hu)
  rw[List.length_cons]
  omega
theorem vq.even (h:vq L tl f lf)(hL:L.Nodup)(hv:lQ (b8 L L.length) (fun x y=>tl x=tl y) vs)(hw:lQ (b8 L L.length) (pN (b8 L L.length) f) ws):(vs.length+ws.length+L.length)%2=0:=by
 have hs:HG L [] L:=⟨fun f=>by simp,hL,fun f hf=>by cases hf⟩
 have h1:lQ (b8 L L.length) (pN (b8 L L.length) (sX f [])) vs:=by
  refine oT (fun x y hx hy=>?_) hv
  have e0:∀z,sX f [] z=gU f z:=fun z=>by unfold sX;rw[if_neg List.not_mem_nil]
  have wj:=(aN x).1 hx
  have GL:=(aN y).1 hy
  have hc:pN (b8 L L.length) (sX f []) x y↔pN (b8 L L.length) (gU f) x y:=rO (fun z _=>e0 z) (nW (fun z _=>(e0 z).symm) (uu h []))
  rw[hc]
  constructor
  .intro e
   obtain⟨k,hk⟩:=h.one x y wj GL e
   exact⟨hx,hy,k,hk⟩
  rintro⟨_,_,k,rfl⟩
  exact(uk h wj k).2.symm
 have h2:lQ (b8 L L.length) (pN (b8 L L.length) (sX f (L.reverse++[]))) ws:=by
  refine oT (fun x y hx hy=>?_) hw
  have e0:∀z∈b8 L L.length,sX f (L.reverse++[]) z=f z:=fun z hz=>by
   unfold sX
   rw[if_pos]
   have:z/2∈L:=(aN z).1 hz
   simpa using this
  exact(rO e0 (nW (fun z hz=>(e0 z hz).symm) (uu h _))).symm
 exact JN h hs h1 h2
end
theorem W7 {s:S4}{x y:Int}(hx:(af s.1 x).isSome=true)(hy:(af s.1 y).isSome=true)(h:V4 s x y=true):(Bz s x y).2.2.2=s.2.2.2-1:=by
 show E3 s.1 s.2.1 s.2.2.1 s.2.2.2 x y=_
 have e1:bD s.1 s.2.1 x=s.1:=oL hx
 have e2:∀z,(af s.1 z).isSome=true->∀g,gR s.1 g z=g:=fun z hz g=>if_pos hz
 unfold V4 LR at h
 unfold E3
 split at h
 .cases h
 rename_i q
 rw[if_neg q,e1,e2 x hx,e2 y hy]
def JnP (ow:fR)(S:List (List Int))(a b:Int):Prop:=∃j x y,j<S.length/\x∈S.getD j []/\y∈S.getD j []/\af ow x=some a/\af ow y=some b
def HL (S:List (List Int)):Nat->Nat
 |0=>0
 |k+1=>HL S k+(S.getD k []).length
section
variable {ow:fR}{S:List (List Int)}{N:Nat}{l:List Int}{s z:S4×fR}{J:Int->Int->Prop}
structure RcI (ow:fR)(S:List (List Int))(N:Nat)(s:S4×fR):Prop where
 r:yX ow N s
 j:∀a b,Rl s.1 a b->pM (JnP ow S) a b
theorem TE (ho:CZ ow N){i:Int}{k j:Nat}(hj:j<S.length)(hS:S.getD j []=l)(hk:k<l.length)(hl:0<k->(af ow (l.getD 0 0)).isSome=true)(h:RcI ow S N s)(e:lN ow l i s k=some z):
  RcI ow S N z/\z.1.2.2.2=s.1.2.2.2-(if k=0 then 0 else 1):=by
 have hr:=tX ho hl h.r e
 unfold lN at e
 split at e
 .cases e
 rename_i q
 have hx:(af ow (l.getD k 0)).isSome=true:=by
  cases hq:(af ow (l.getD k 0)).isSome with
  |true=>rfl
  |false=>exact(q (.inl hq)).elim
 split at e
 .rename_i h0
  cases e
  rw[if_pos h0]
  exact⟨⟨hr,h.j⟩,(Int.sub_zero _).symm⟩
 rename_i h0
 split at e
 .rename_i ht
  cases e
  rw[if_neg h0]
  obtain⟨c0,XR⟩:=Option.isSome_iff_exists.1 (hl (by omega))
  obtain⟨c1,vI⟩:=Option.isSome_iff_exists.1 hx
  have b0:=ho.v _ _ XR
  have b1:=ho.v _ _ vI
  rw[XR,vI] at hr ht ⊢
  have p0:=h.r.all c0 b0.1 b0.2
  have p1:=h.r.all c1 b1.1 b1.2
  refine⟨⟨hr,fun a b j9=>?_⟩,W7 p0 p1 ht⟩
  have j9:Rl (Bz s.1 c0 c1) a b:=j9
  have ha:=h.r.ok.add c0
  have hb:=ha.1.add c1
  have jx:∀a b,Rl (cI (cI s.1 c0) c1) a b->pM (JnP ow S) a b:=fun a b w=>by
   rcases(hb.2 a b).1 w with w|⟨w1,w2⟩
   .rcases(ha.2 a b).1 w with w|⟨w1,w2⟩
    .exact h.j a b w
    rw[w1,w2];exact .id _
   rw[w1,w2];exact .id _
  have AR:pM (JnP ow S) c0 c1:=.of ⟨j,_,_,hj,by rw[hS];exact ag (by omega),by rw[hS];exact ag hk,XR,vI⟩
  rcases((h.r.ok.jn c0 c1).2.2 a b).1 j9 with w|⟨w1,w2⟩|⟨w1,w2⟩
  .exact jx a b w
  .exact((jx _ _ w1).tr AR).tr (jx _ _ w2)
  exact((jx _ _ w1).tr AR.sy).tr (jx _ _ w2)
 cases e
theorem JO (ho:CZ ow N){i:Int}{j:Nat}(hj:j<S.length)(hS:S.getD j []=l)(h:RcI ow S N s):∀ {k:Nat} {z:S4×fR},k<=l.length->runK ow l i s k=some z->RcI ow S N z/\z.1.2.2.2+((k-1:Nat):Int)=s.1.2.2.2
 |0,z,_,e=>by
  have e:some s=some z:=e
  cases e
  exact⟨h,Int.add_zero _⟩
 |k+1,z,hk,e=>by
  have e:(runK ow l i s k).bind (fun y=>lN ow l i y k)=some z:=e
  cases hq:runK ow l i s k with
  |none=>rw[hq] at e;cases e
  |some y=>
   rw[hq] at e
   obtain⟨h1,h2⟩:=JO ho hj hS h (k:=k) (by omega) hq
   obtain⟨h3,h4⟩:=TE ho hj hS (by omega) (fun h0=>oM h0 hq) h1 (show lN ow l i y k=some z from e)
   refine⟨h3,?_⟩
   rw[h4]
   split<;>omega
theorem JQ (ho:CZ ow N):∀ {i:Nat} {z:S4×fR},i<=S.length->jc ow S N i=some z->RcI ow S N z/\z.1.2.2.2+(HL S i:Int)=(N:Int)+(i:Int)
 |0,z,_,e=>by
  have e:some (jK N,([]:fR))=some z:=e
  cases e
  obtain⟨a1,a2,a3,a4⟩:=tW N
  refine⟨⟨yX.start,fun a b w=>?_⟩,?_⟩
  .rw[((a4 a b).1 w).2.2];exact .id _
  show(jK N).2.2.2+0=(N:Int)+0
  rw[a1.cnt]
  have hl:=a1.rep.len
  have:kg (jK N).2.2.1=N:=by
   have hN:∀k,(jK k).2.2.2=(k:Int):=fun k=>by
    induction k with
    |zero=>rfl
    |succ k ih=>
     show gR (jK k).1 (jK k).2.2.2 (k:Int)=_
     have hn:af (jK k).1 (k:Int)=none:=by
      cases hq:af (jK k).1 (k:Int) with
      |none=>rfl
      |some _=>have:=((tW k).2.2.1 (k:Int)).1 (by rw[hq];rfl);omega
     unfold gR
     rw[hn,ih];simp
   have:=a1.cnt
   rw[hN N] at this
   omega
  rw[this]
 |i+1,z,hi,e=>by
  have e:(jc ow S N i).bind (fun s=>mq ow S s i)=some z:=e
  cases hq:jc ow S N i with
  |none=>rw[hq] at e;cases e
  |some y=>
   rw[hq] at e
   have e:mq ow S y i=some z:=e
   obtain⟨h1,h2⟩:=JQ ho (i:=i) (by omega) hq
   unfold mq at e
   split at e
   .cases e
   rename_i w
   obtain⟨h3,h4⟩:=JO ho (j:=i) (by omega) rfl h1 (Nat.le_refl _) e
   refine⟨h3,?_⟩
   show z.1.2.2.2+((HL S i+(S.getD i []).length:Nat):Int)=_
   have:2<=(S.getD i []).length:=Nat.le_of_not_lt fun q=>w (.inl q)
   omega
theorem TF {U:List Int}{i j:Nat}(h:kg U<=1)(hi:i<U.length)(hj:j<U.length)(e1:aD U (i:Int)=(i:Int))(e2:aD U (j:Int)=(j:Int)):i=j:=by
 refine Classical.byContradiction fun q=>?_
 unfold kg at h
 rw[List.countP_eq_length_filter] at h
 have hn:[i,j].Nodup:=by simp[q]
 have:=hn.length_le_of_subset (l₂:=(List.range U.length).filter fun i:Nat=>decide (aD U (i:Int)=(i:Int))) fun x hx=>by
  rw[List.mem_filter,List.mem_range]
  rcases List.mem_cons.1 hx with e|hx
  .subst e;exact⟨hi,decide_eq_true e1⟩
  rw[List.mem_singleton.1 hx];exact⟨hj,decide_eq_true e2⟩
 simp at this
 omega
theorem TG {s:S4}(h:lM s)(hc:s.2.2.2<=1){a b:Int}(ha:(af s.1 a).isSome=true)(hb:(af s.1 b).isSome=true):Rl s a b:=by
 obtain⟨i,hi⟩:=Option.isSome_iff_exists.1 ha
 obtain⟨j,hj⟩:=Option.isSome_iff_exists.1 hb
 refine⟨i,j,hi,hj,?_⟩
 have hlen:=h.rep.len
 obtain⟨i0,i1,_⟩:=h.rep.at_ a i hi
 obtain⟨j0,j1,_⟩:=h.rep.at_ b j hj
 obtain⟨u1,u2,u3⟩:=eP h.rep.ok i0 (show i<(s.2.2.1.length:Int) by omega)
 obtain⟨v1,v2,v3⟩:=eP h.rep.ok j0 (show j<(s.2.2.1.length:Int) by omega)
 have ui:=iR h.rep.ok i0 (show i<(s.2.2.1.length:Int) by omega)
 have vi:=iR h.rep.ok j0 (show j<(s.2.2.1.length:Int) by omega)
 have VT:=h.cnt
 have:=TF (U:=s.2.2.1) (i:=(aD s.2.2.1 i).toNat) (j:=(aD s.2.2.1 j).toNat) (by omega) (by omega) (by omega) (by rw[Int.toNat_of_nonneg u1];exact ui) (by rw[Int.toNat_of_nonneg v1];exact vi)
 omega
theorem TH {s:S4}(h:lM s){a:Int}(ha:(af s.1 a).isSome=true):1<=s.2.2.2:=by
 obtain⟨i,hi⟩:=Option.isSome_iff_exists.1 ha
 have hlen:=h.rep.len
 obtain⟨i0,i1,_⟩:=h.rep.at_ a i hi
 obtain⟨u1,u2,u3⟩:=eP h.rep.ok i0 (show i<(s.2.2.1.length:Int) by omega)
 have ui:=iR h.rep.ok i0 (show i<(s.2.2.1.length:Int) by omega)
 have VT:=h.cnt
 have:0<kg s.2.2.1:=by
  unfold kg
  rw[List.countP_pos_iff]
  exact⟨(aD s.2.2.1 i).toNat,List.mem_range.2 (by omega),decide_eq_true (by rw[Int.toNat_of_nonneg u1];exact ui)⟩
 omega
end
section
variable {n:Int}{E:List (Int×Int)}{V L:List Int}{T S:List (List Int)}
abbrev owN (n:Int)(E:List (Int×Int))(V L:List Int)(T:List (List Int)):fR:=bP E (ay n E V L) (aa n E V L T).1 (aa n E V L T).1.length
theorem W8 (h:aM n E V L T S=0):CZ (owN n E V L T) (ay n E V L).length:=by
 have hw:=aK (aX h).1
 obtain⟨hp,_,hW⟩:=aU hw
 refine⟨fun x c hc=>Hp hp (iJ hp) hW (Nat.le_refl _) x c hc,?_⟩
 have h1:=xd (E:=E) (P:=ay n E V L) (W:=(aa n E V L T).1) (aa n E V L T).1.length
 obtain⟨hr,hV,hL,_⟩:=aJ hp
 obtain⟨r1,r2,r3,_⟩:=bz hr
 have:=aO hV r1
 have:=aO hL (by omega)
 have:=hW.len
 show(bP _ _ _ _).length<=_
 omega
theorem BW (h:aM n E V L T S=0):(∀a b:Int,0<=a->a<((ay n E V L).length:Int)->0<=b->b<((ay n E V L).length:Int)->pM (JnP (owN n E V L T) S) a b)/\(0<(ay n E V L).length->HL S S.length+1=(ay n E V L).length+S.length):=by
 obtain⟨hf,z,hz,hc⟩:=aX h
 obtain⟨r1,r2⟩:=JQ (W8 h) (Nat.le_refl _) hz
 refine⟨fun a b a0 a1 b0 b1=>r1.j a b (TG r1.r.ok hc (r1.r.all a a0 a1) (r1.r.all b b0 b1)),fun h0=>?_⟩
 have:=TH r1.r.ok (r1.r.all 0 (Int.le_refl _) (by omega))
 omega
end
end Go.Proofs.YtnfdimfepbbbpaaGreat
namespace Go.Proofs.YtnfdimfepbbbpaaGreat
open Go.RowKit
open Go.Proofs.YtnfdimfepbbbpaaGreat.Deep
section
variable {n:Int}{E:List (Int×Int)}{V L:List Int}{T S:List (List Int)}{lf:Int->Int}
theorem Qm (hp:aS n E V L=0)(hT:fB n E L T)(hl:∀d,ak L d->lf (dA E L T d)=lf d):vq L (ah E) (dA E L T) lf:=by
 refine⟨fun d hd=>(dJ hp hT hd).1,fun d hd=>(dJ hp hT hd).2,fun d e hd he q=>jY hp hT hd he q,hl,fun d e hd he q=>?_⟩
 obtain⟨t0,t1,t2⟩:=fU hp hT hd
 have t3:=(fU hp hT he).2.2
 rw[<-q] at t3
 have Bc:=hT.nd _ t1
 have uB:∀x y,kD (T.getD (ah E d).toNat []) x y->gU (dA E L T) x=y:=fun x y h=>by
  have h':=h
  obtain⟨j,hj,e1,_⟩:=h'
  have hx:=(hT.mem _ t1 x).1 (by rw[<-e1];exact ag hj)
  have:=ia hp hT (bI.2 hx.1)
  rw[jX,show(ah E x).toNat=(ah E d).toNat by rw[hx.2];rfl] at this
  exact qj Bc this h
 generalize T.getD (ah E d).toNat []=l at*
 have dn:∀m i,i+m<l.length->gP (gU (dA E L T)) (l.getD (i+m) 0) (l.getD i 0):=fun m=>by
  induction m with
  |zero=>exact fun i _=>.refl _
  |succ m ih=>
   intro i hi
   have:=uB (l.getD (i+m+1) 0) (l.getD (i+m) 0) ⟨i+m+1,by omega,rfl,by rw[show i+m+1+l.length-1=(i+m)+l.length by omega,Nat.add_mod_right,Nat.mod_eq_of_lt (by omega)]⟩
   exact gP.trans (y:=l.getD (i+m) 0) ⟨1,this⟩ (ih i (by omega))
 obtain⟨i,hi,e1⟩:=aB (z:=(0:Int)).1 t2
 obtain⟨j,hj,e2⟩:=aB (z:=(0:Int)).1 t3
 have h1:=dn i 0 (by omega)
 rw[Nat.zero_add] at h1
 have h2:=uB (l.getD 0 0) (l.getD (l.length-1) 0) ⟨0,by omega,rfl,by rw[Nat.zero_add,Nat.mod_eq_of_lt (by omega)]⟩
 have h3:=dn (l.length-1-j) j (by omega)
 rw[show j+(l.length-1-j)=l.length-1 by omega] at h3
 have:=h1.trans (gP.trans (y:=l.getD (l.length-1) 0) ⟨1,h2⟩ h3)
 rwa[e1,e2] at this
theorem Dn (h:(aa n E V L T).2=0){w:Int×List Int}(hw:w∈(aa n E V L T).1)(cO:w.2.length≠0):w.1∈w.2/\w.2.Nodup/\∀x,x∈w.2↔ak L x/\gP (dA E L T) w.1 x:=by
 have h0:=h
 rw[fm] at h
 obtain⟨hp,hT,_⟩:=lD h
 obtain⟨_,hV,hL,_⟩:=aJ hp
 have hD:∀x∈b8 L L.length,ak L x:=fun x hx=>(aN x).1 hx
 have hq:Dm (b8 L L.length) (dA E L T):=⟨fun x hx=>(aN _).2 (dJ hp hT (hD x hx)).1,fun x hx y hy e=>jY hp hT (hD x hx) (hD y hy) e⟩
 have he:∀x∈b8 L L.length,eF E T x=dA E L T x:=fun x hx=>fL hp hT (hD x hx)
 have hr:=nW he hq
 rw[iW h] at hw
 rcases List.mem_append.1 hw with a|a
 .exact absurd (mJ (Nat.le_refl _) w a).1 cO
 obtain⟨i,i1,i2,rfl⟩:=(qG (Nat.le_refl _)).1 a
 have hx:(b8 L L.length).getD i 0∈b8 L L.length:=ag i1
 refine⟨(gQ hr.cl hr.ij hx).2 (gP.refl _),sL hr.cl hr.ij hx,fun x=>?_⟩
 show x∈jm _ _ _↔_
 rw[gQ hr.cl hr.ij hx]
 constructor
 .rintro⟨k,rfl⟩
  exact⟨hD _ (gO hr.cl hx k),k,(nV he hq hx k).symm⟩
 rintro⟨_,k,e⟩
 exact⟨k,(nV he hq hx k).trans e⟩
theorem Fx (h:(aa n E V L T).2=0){w:Int×List Int}(hw:w∈(aa n E V L T).1)(he:w.2.length=0): -1-w.1∈V/\(T.getD (-1-w.1).toNat []).length=0:=by
 have UX:∀k,k<=V.length->∀w∈sK V T k,-1-w.1∈V/\(T.getD (-1-w.1).toNat []).length=0:=fun k=>by
  induction k with
  |zero=>exact fun _ w hw=>by cases hw
  |succ k ih=>
   intro hk w hw
   unfold sK at hw
   split at hw
   .rename_i q
    rcases List.mem_append.1 hw with a|a
    .exact ih (by omega) w a
    rw[List.mem_singleton.1 a]
    show -1-(-1-V.getD (V.length-1-k) 0)∈V/\(T.getD (-1-(-1-V.getD (V.length-1-k) 0)).toNat []).length=0
    rw[show -1-(-1-V.getD (V.length-1-k) 0)=V.getD (V.length-1-k) 0 by omega]
    exact⟨ag (by omega),q⟩
   exact ih (by omega) w hw
 rw[fm] at h
 rw[iW h] at hw
 rcases List.mem_append.1 hw with a|a
 .exact UX _ (Nat.le_refl _) w a
 obtain⟨i,i1,i2,rfl⟩:=(qG (Nat.le_refl _)).1 a
 exfalso
 obtain⟨hp,hT,_⟩:=lD h
 have hD:∀x∈b8 L L.length,ak L x:=fun x hx=>(aN x).1 hx
 have hq:Dm (b8 L L.length) (dA E L T):=⟨fun x hx=>(aN _).2 (dJ hp hT (hD x hx)).1,fun x hx y hy e=>jY hp hT (hD x hx) (hD y hy) e⟩
 have hr:=nW (fun x hx=>fL hp hT (hD x hx)) hq
 have:=(mR hr.cl hr.ij (show(b8 L L.length).getD i 0∈b8 L L.length from ag i1)).1
 have he:(jm (eF E T) ((b8 L L.length).getD i 0) (dZ (eF E T) ((b8 L L.length).getD i 0) (b8 L L.length).length)).length=0:=he
 rw[fM] at he
 omega
end
theorem JR {α:Type}[DecidableEq α]{a b:List α}(ha:a.Nodup)(hb:b.Nodup)(h:∀x,x∈a↔x∈b):a.length=b.length:=
 Nat.le_antisymm (ha.length_le_of_subset fun x hx=>(h x).1 hx) (hb.length_le_of_subset fun x hx=>(h x).2 hx)
theorem oU {α:Type}{l:List α}{f:α->Int}(h:l.Nodup)(hi:∀x∈l,∀y∈l,f x=f y->x=y):(l.map f).Nodup:=by
 induction l with
 |nil=>exact List.nodup_nil
 |cons x l ih=>
  obtain⟨n1,n2⟩:=List.nodup_cons.1 h
  rw[List.map_cons,List.nodup_cons]
  refine⟨fun q=>?_,ih n2 fun y hy z hz=>hi y (List.mem_cons_of_mem _ hy) z (List.mem_cons_of_mem _ hz)⟩
  obtain⟨y,hy,e⟩:=List.mem_map.1 q
  exact n1 (hi y (List.mem_cons_of_mem _ hy) x List.mem_cons_self e▸hy)
theorem BX {α:Type}(p:α->Bool)(l:List α):(l.filter p).length+(l.filter fun x=>!p x).length=l.length:=by
 induction l with
 |nil=>rfl
 |cons x l ih=>
  rw[List.filter_cons,List.filter_cons]
  cases p x<;>simp<;>omega
section
variable {n:Int}{E:List (Int×Int)}{V L:List Int}{T S:List (List Int)}
theorem HM (h:(aa n E V L T).2=0){VK LK:List Int}(hV:∀v∈VK,v∈V)(Q1:VK.Nodup)(KZ:LK.Nodup)(hL:∀e∈LK,e∈L)(hd:∀d,ak L d->(ak LK d↔ah E d∈VK)):
  (VK.length+((aa n E V L T).1.filter fun w=>decide (cZ E w∈VK)).length+LK.length)%2=0:=by
 have h0:=h
 rw[fm] at h
 obtain⟨hp,hT,_⟩:=lD h
 obtain⟨_,_,hW⟩:=aU h0
 obtain⟨hu,_⟩:=wg h0
 obtain⟨_,XZ,hLr,_⟩:=aJ hp
 have W9:=qx h0
 have hr:=Qm (lf:=fun _=>0) hp hT fun _ _=>rfl
 have L3:∀d,ak LK d->ak L d:=fun d k=>hL _ k
 have cl:∀d,ak LK d->ak LK (dA E L T d):=fun d k=>by
  have a:=hr.jb d (L3 d k)
  rw[hd _ a,hr.tail d (L3 d k),<-hd _ (bI.2 (L3 d k))]
  exact bI.2 k
 have hrK:vq LK (ah E) (dA E L T) (fun _=>0):=⟨cl,fun d k=>hr.tail d (L3 d k),fun d e k k'=>hr.inj d e (L3 d k) (L3 e k'),fun _ _=>rfl,fun d e k k'=>hr.one d e (L3 d k) (L3 e k')⟩
 have Q3:Dm (b8 LK LK.length) (dA E L T):=⟨fun x hx=>(aN _).2 (cl x ((aN x).1 hx)),fun x hx y hy e=>hrK.inj x y ((aN x).1 hx) ((aN y).1 hy) e⟩
 have vb:∀v∈VK,0<=v/\v.toNat<T.length:=fun v hv=>by
  have:=(aA.1 XZ).2 _ (hV v hv)
  have:=hT.len
  omega
 have WX:∀v∈VK,(T.getD v.toNat []).length≠0->ak LK ((T.getD v.toNat []).getD 0 0)/\ah E ((T.getD v.toNat []).getD 0 0)=v:=fun v hv q=>by
  have b:=vb v hv
  have:=(hT.mem _ b.2 _).1 (ag (l:=T.getD v.toNat []) (i:=0) (d:=0) (by omega))
  rw[Int.toNat_of_nonneg b.1] at this
  exact⟨(hd _ this.1).2 (by rw[this.2];exact hv),this.2⟩
 have tin:∀x,ak LK x->ah E x∈VK/\(T.getD (ah E x).toNat []).length≠0:=fun x hx=>by
  have:=(fU hp hT (L3 x hx)).2.2
  exact⟨(hd _ (L3 x hx)).1 hx,fun q=>by rw[List.eq_nil_of_length_eq_zero q] at this;cases this⟩
 have J5:lQ (b8 LK LK.length) (fun x y=>ah E x=ah E y) ((VK.filter fun v=>decide ((T.getD v.toNat []).length≠0)).map fun v=>(T.getD v.toNat []).getD 0 0):=by
  have hf:∀v∈VK.filter (fun v=>decide ((T.getD v.toNat []).length≠0)),v∈VK/\(T.getD v.toNat []).length≠0:=fun v hv=>by
   have:=List.mem_filter.1 hv
   exact⟨this.1,of_decide_eq_true this.2⟩
  refine⟨oU (Q1.filter _) fun x hx y hy e=>?_,fun r hr=>?_,fun x hx=>?_,fun r hr r' wB e=>?_⟩
  .obtain⟨a1,a2⟩:=hf x hx
   obtain⟨b1,b2⟩:=hf y hy
   rw[<-(WX x a1 a2).2,<-(WX y b1 b2).2,e]
  .obtain⟨v,hv,rfl⟩:=List.mem_map.1 hr
   obtain⟨a1,a2⟩:=hf v hv
   exact(aN _).2 (WX v a1 a2).1
  .obtain⟨a1,a2⟩:=tin x ((aN x).1 hx)
   exact⟨_,List.mem_map.2 ⟨_,List.mem_filter.2 ⟨a1,decide_eq_true a2⟩,rfl⟩,(WX _ a1 a2).2.symm⟩
  obtain⟨v,hv,rfl⟩:=List.mem_map.1 hr
  obtain⟨u,hu,rfl⟩:=List.mem_map.1 wB
  obtain⟨a1,a2⟩:=hf v hv
  obtain⟨b1,b2⟩:=hf u hu
  rw[(WX v a1 a2).2,(WX u b1 b2).2] at e
  rw[e]
 generalize hWe:(aa n E V L T).1=W at*
 have hws:lQ (b8 LK LK.length) (pN (b8 LK LK.length) (dA E L T)) (((W.filter fun w=>decide (cZ E w∈VK)).filter fun w=>decide (w.2.length≠0)).map (·.1)):=by
  have hf:∀w∈(W.filter fun w=>decide (cZ E w∈VK)).filter (fun w=>decide (w.2.length≠0)),w∈W/\w.2.length≠0/\ak LK w.1:=fun w hw=>by
   have a:=List.mem_filter.1 hw
   have b:=List.mem_filter.1 a.1
   have a2:=of_decide_eq_true a.2
   have b2:=of_decide_eq_true b.2
   rcases hW.key w b.1 with⟨q,_⟩|⟨_,z⟩
   .exact absurd q a2
   refine⟨b.1,a2,(hd _ z).2 ?_⟩
   unfold cZ at b2
   rwa[if_neg a2] at b2
  have Fy:∀w∈W,w.2.length≠0->w.1∈w.2/\w.2.Nodup/\∀x,x∈w.2↔ak L x/\gP (dA E L T) w.1 x:=fun w hw q=>Dn h0 (by rw[hWe];exact hw) q
  refine⟨W9.sublist (List.Sublist.map _ (List.filter_sublist.trans List.filter_sublist)),fun r hr=>?_,fun x hx=>?_,fun r hr r' wB e=>?_⟩
  .obtain⟨w,hw,rfl⟩:=List.mem_map.1 hr
   exact(aN _).2 (hf w hw).2.2
  .have Vn:=(aN x).1 hx
   obtain⟨w,hw,hxw⟩:=hu.ex x (L3 x Vn)
   have cO:w.2.length≠0:=fun q=>by rw[List.eq_nil_of_length_eq_zero q] at hxw;cases hxw
   obtain⟨o1,_,o2⟩:=Fy w hw cO
   have XL:ak L w.1:=((o2 _).1 o1).1
   obtain⟨hq1,hq2⟩:=(o2 x).1 hxw
   have hpL:Dm (b8 L L.length) (dA E L T):=⟨fun x hx=>(aN _).2 (hr.jb x ((aN x).1 hx)),fun x hx y hy e=>hr.inj x y ((aN x).1 hx) ((aN y).1 hy) e⟩
   have back:=hq2.symm hpL.cl hpL.ij ((aN _).2 XL)
   obtain⟨k,hk⟩:=back
   have h1:ak LK w.1:=by
    have:=gO Q3.cl hx k
    rw[hk] at this
    exact(aN _).1 this
   refine⟨w.1,List.mem_map.2 ⟨w,List.mem_filter.2 ⟨List.mem_filter.2 ⟨hw,decide_eq_true ?_⟩,decide_eq_true cO⟩,rfl⟩,hx,(aN _).2 h1,k,hk⟩
   unfold cZ
   rw[if_neg cO]
   exact(hd _ XL).1 h1
  obtain⟨w,hw,rfl⟩:=List.mem_map.1 hr
  obtain⟨u,FX,rfl⟩:=List.mem_map.1 wB
  obtain⟨a1,a2,a3⟩:=hf w hw
  obtain⟨b1,b2,b3⟩:=hf u FX
  obtain⟨_,_,o2⟩:=Fy w a1 a2
  obtain⟨p1,_,_⟩:=Fy u b1 b2
  have:=(o2 u.1).2 ⟨L3 _ b3,e.2.2⟩
  rw[hu.uq w a1 u b1 u.1 (.inl this) (.inl p1)]
 have FY:=hrK.even KZ J5 hws
 rw[List.length_map,List.length_map] at FY
 have aai:((VK.filter fun v=>!decide ((T.getD v.toNat []).length≠0)).map fun v=> -1-v).length=(((W.filter fun w=>decide (cZ E w∈VK)).filter fun w=>!decide (w.2.length≠0)).map (·.1)).length:=by
  refine JR (oU (Q1.filter _) fun x _ y _ e=>by omega) (W9.sublist (List.Sublist.map _ (List.filter_sublist.trans List.filter_sublist))) fun x=>?_
  rw[List.mem_map,List.mem_map]
  constructor
  .rintro⟨v,hv,rfl⟩
   obtain⟨v1,v2⟩:=List.mem_filter.1 hv
   have v2:(T.getD v.toNat []).length=0:=by simpa using v2
   have:=hu.lone v (hV v v1) v2
   refine⟨_,List.mem_filter.2 ⟨List.mem_filter.2 ⟨this,decide_eq_true ?_⟩,by simp⟩,rfl⟩
   have e:cZ E (-1-v,([]:List Int))=v:=by
    show(if([]:List Int).length=0 then -1-(-1-v) else ah E (-1-v))=v
    rw[if_pos (show([]:List Int).length=0 from rfl)];omega
   rw[e];exact v1
  rintro⟨w,hw,rfl⟩
  obtain⟨a1,a2⟩:=List.mem_filter.1 hw
  obtain⟨b1,b2⟩:=List.mem_filter.1 a1
  have a2:w.2.length=0:=by simpa using a2
  have b2:=of_decide_eq_true b2
  unfold cZ at b2
  rw[if_pos a2] at b2
  have:=(Fx h0 (by rw[hWe];exact b1) a2).2
  exact⟨-1-w.1,List.mem_filter.2 ⟨b2,by rw[decide_eq_false (fun z=>z this)];rfl⟩,by omega⟩
 rw[List.length_map,List.length_map] at aai
 have s1:=BX (fun v=>decide ((T.getD v.toNat []).length≠0)) VK
 have s2:=BX (fun w:Int×List Int=>decide (w.2.length≠0)) (W.filter fun w=>decide (cZ E w∈VK))
 omega
end
end Go.Proofs.YtnfdimfepbbbpaaGreat
namespace Go.Proofs.YtnfdimfepbbbpaaGreat
open Go.RowKit
open Go.Proofs.YtnfdimfepbbbpaaGreat.Deep
def mT (f:Nat->Nat):Nat->Nat
 |0=>0
 |k+1=>mT f k+f k
theorem uv (f g:Nat->Nat):∀N,mT (fun i=>f i+g i) N=mT f N+mT g N
 |0=>rfl
 |N+1=>by
  have:=uv f g N
  show mT _ N+(f N+g N)=(mT f N+f N)+(mT g N+g N)
  omega
theorem jM {f g:Nat->Nat}:∀ {N:Nat},(∀i,i<N->f i=g i)->mT f N=mT g N
 |0,_=>rfl
 |N+1,h=>by
  show mT f N+f N=mT g N+g N
  rw[jM fun i hi=>h i (by omega),h N (by omega)]
theorem HN:∀N,mT (fun _=>0) N=0
 |0=>rfl
 |N+1=>HN N
theorem Qn (c:Nat):∀N,mT (fun _=>c) N=c*N
 |0=>rfl
 |N+1=>by show mT _ N+c=c*(N+1);rw[Qn c N,Nat.mul_succ]
theorem Fz {q:Nat->Bool}:∀ {N i:Nat},i<N->q i=true->(∀j,j<N->q j=true->j=i)->mT (fun j=>if q j=true then 1 else 0) N=1
 |N+1,i,hi,h1,h2=>by
  show mT _ N+(if q N=true then 1 else 0)=1
  by_cases e:i=N
  .subst e
   rw[if_pos h1,jM (g:=fun _=>0) fun j hj=>if_neg fun z=>by have:=h2 j (by omega) z;omega,HN]
  rw[if_neg fun z=>e (h2 N (by omega) z).symm,Fz (i:=i) (by omega) h1 fun j hj=>h2 j (by omega)]
theorem xB {α:Type}{p:Nat->α->Bool}{N:Nat}:∀ {l:List α},(∀x∈l,∃i,i<N/\p i x=true/\∀j,j<N->p j x=true->j=i)->mT (fun i=>(l.filter (p i)).length) N=l.length
 |[],_=>HN N
 |x::l,h=>by
  obtain⟨i,h1,h2,h3⟩:=h x List.mem_cons_self
  have ih:=xB (N:=N) fun y hy=>h y (List.mem_cons_of_mem _ hy)
  have e:mT (fun i=>((x::l).filter (p i)).length) N=mT (fun i=>(l.filter (p i)).length+if p i x=true then 1 else 0) N:=jM fun j _=>by
   rw[List.filter_cons]
   cases p j x<;>simp
  rw[e,uv,ih,Fz (q:=fun j=>p j x) h1 h2 h3,List.length_cons]
section
variable {n:Int}{E:List (Int×Int)}{V L:List Int}{T S:List (List Int)}
theorem UY {u v:Int}(h:Cn E L u v):JP (· ∈L) (two (ah E)) u v:=by
 induction h with
 |refl _=>exact .id _
 |step _ ha _ ih=>
  obtain⟨f,hf,hj⟩:=ha
  have e1:ah E (2*f)=eA E f:=by unfold ah;rw[if_pos (by omega),show 2*f/2=f by omega];rfl
  have e2:ah E (2*f+1)=eB E f:=by unfold ah;rw[if_neg (by omega),show(2*f+1)/2=f by omega];rfl
  have:=JP.pz (S:=(· ∈L)) (p:=two (ah E)) hf
  rw[show(two (ah E) f).1=eA E f from e1,show(two (ah E) f).2=eB E f from e2] at this
  rcases hj with⟨q1,q2⟩|⟨q1,q2⟩
  .have q1:eA E f=_:=q1
   have q2:eB E f=_:=q2
   rw[q1,q2] at this;exact ih.tr this
  have q1:eA E f=_:=q1
  have q2:eB E f=_:=q2
  rw[q1,q2] at this;exact ih.tr this.sy
theorem aaj (hp:aS n E V L=0){u v:Int}(h:JP (· ∈L) (two (ah E)) u v):u=v\/Cn E L u v:=by
 obtain⟨_,hV,hL,_⟩:=aJ hp
 induction h with
 |of q=>
  obtain⟨f,hf,rfl,rfl⟩:=q
  have d1:ak L (2*f):=ck.2 ⟨f,hf,.inl rfl⟩
  have d2:ak L (2*f+1):=ck.2 ⟨f,hf,.inr rfl⟩
  have t1:=(aA.1 hV).2 _ (bf hp d1).1
  have t2:=(aA.1 hV).2 _ (bf hp d2).1
  have e1:ah E (2*f)=eA E f:=by unfold ah;rw[if_pos (by omega),show 2*f/2=f by omega];rfl
  have e2:ah E (2*f+1)=eB E f:=by unfold ah;rw[if_neg (by omega),show(2*f+1)/2=f by omega];rfl
  rw[e1] at t1
  rw[e2] at t2
  right
  show Cn E L (ah E (2*f)) (ah E (2*f+1))
  rw[e1,e2]
  exact Gr.iC.one (by omega) ⟨f,hf,.inl ⟨rfl,rfl⟩⟩ (by omega)
 |id _=>exact .inl rfl
 |sy _ ih=>exact ih.elim (fun e=>.inl e.symm) fun q=>.inr (Gr.iC.symm q)
 |tr _ _ i1 i2=>
  rcases i1 with e|q
  .subst e;exact i2
  rcases i2 with e|w
  .subst e;exact .inr q
  exact .inr (Gr.iC.trans q w)
theorem aak {W:List (Int×List Int)}{vs:List Int}:∀ {k:Nat},k<=W.length->Bp E W vs k=(((W.take k).filter fun w=>decide (vZ E w∈vs)).length:Int)
 |0,_=>rfl
 |k+1,h=>by
  show Bp E W vs k+(if vZ E (W.getD k (0,[]))∈vs then 1 else 0)=_
  rw[aak (k:=k) (by omega),bU (show k<W.length by omega) (0,[]),List.filter_append,List.length_append]
  by_cases q:vZ E (W.getD k (0,[]))∈vs
  .rw[if_pos q,List.filter_cons_of_pos (by simpa using q)];simp
  rw[if_neg q,List.filter_cons_of_neg (by simpa using q)];simp
theorem Qo {P:mW}{fs:List Int}{i:Nat}:∀ {k:Nat},i<k->(yS P fs k).getD i 0=Int.tdiv (2-((P.getD i ([],[])).1.length:Int)+((P.getD i ([],[])).2.length:Int)-fs.getD i 0) 2
 |k+1,h=>by
  show(yS P fs k++_).getD i 0=_
  by_cases e:i=k
  .subst e
   rw[List.getD_eq_getElem?_getD,List.getElem?_append_right (by rw[oI];exact Nat.le_refl _),oI,Nat.sub_self];rfl
  rw[List.getD_eq_getElem?_getD,List.getElem?_append_left (by rw[oI];omega),<-List.getD_eq_getElem?_getD]
  exact Qo (by omega)
theorem HO (h:iD n E V L T=0):(aa n E V L T).1.length+V.length=2*(ay n E V L).length+L.length:=by
 classical
 have kf:=aK h
 obtain⟨hp,hT,hW⟩:=aU kf
 have hg:(cn n E V L T).2=0:=by rw[xb,<-fm (V:=V)];exact kf
 have hP:=iJ hp
 obtain⟨_,hV,hL,fq⟩:=aJ hp
 have Q1:=gq (aA.1 hV).1
 have KZ:=gq (aA.1 hL).1
 obtain⟨r1,r2,r3,r4⟩:=tU (E:=E) (L:=L) V (nB hV)
 have dL:∀i,i<(ay n E V L).length->(cn n E V L T).1.getD i 0=0:=fun i hi=>by
  unfold iD at h
  rw[if_neg (by rw[hg];exact fun q=>q rfl)] at h
  split at h
  .rename_i q
   have:=List.all_eq_true.1 q
   unfold cn
   unfold cn at this
   rw[if_neg (by rw[kf];exact fun q=>q rfl)] at this ⊢
   exact of_decide_eq_true (this _ (ag (by rw[oI];exact hi)))
  cases h
 have abE:(cn n E V L T).1=yS (ay n E V L) (oH E (ay n E V L) (aa n E V L T).1 (aa n E V L T).1.length) (ay n E V L).length:=by
  unfold cn;rw[if_neg (by rw[kf];exact fun q=>q rfl)]
 have hPe:ay n E V L=mH E V L:=by rw[wY hp,rA hp]
 have hlen:(ay n E V L).length=(bJ E L V).length:=by rw[hPe];exact List.length_map ..
 have kG:∀i,i<(ay n E V L).length->(ay n E V L).getD i ([],[])=(fV E L V ((bJ E L V).getD i 0),G5 E L ((bJ E L V).getD i 0)):=fun i hi=>by
  rw[hPe];exact qn (by omega) 0
 have vS:∀d,ak L d->∀a,(ak (G5 E L a) d↔ah E d∈fV E L V a):=fun d hd a=>by
  have Qh:=bf hp hd
  unfold ak G5
  rw[List.mem_filter,decide_eq_true_eq,lF]
  have pO:d/2∈L:=hd
  have htt:=bf hp (bI.2 hd)
  have vA:=nB hV _ Qh.1
  have vB:=nB hV _ htt.1
  have j9:Cn E L a (eA E (d/2))↔Cn E L a (ah E d):=by
   unfold ah
   by_cases q:d%2=0
   .rw[if_pos q];exact Iff.rfl
   rw[if_neg q]
   have e1:ah E d=eB E (d/2):=by unfold ah;rw[if_neg q];rfl
   have e2:ah E (an d)=eA E (d/2):=by unfold an ah;rw[if_neg q,if_pos (by omega),show(d-1)/2=d/2 by omega];rfl
   rw[e1] at vA
   rw[e2] at vB
   exact⟨fun w=>w.step ⟨d/2,pO,.inl ⟨rfl,rfl⟩⟩ vA,fun w=>w.step ⟨d/2,pO,.inr ⟨rfl,rfl⟩⟩ vB⟩
  exact⟨fun w=>⟨Qh.1,j9.1 w.2⟩,fun w=>⟨pO,j9.2 w.2⟩⟩
 have one:∀i,i<(ay n E V L).length->((aa n E V L T).1.filter fun w=>decide (cZ E w∈((ay n E V L).getD i ([],[])).1)).length+((ay n E V L).getD i ([],[])).1.length=2+((ay n E V L).getD i ([],[])).2.length:=fun i hi=>by
  have hz:=dL i hi
  rw[abE,Qo hi,I3 hp hP hW hi (Nat.le_refl _),aak (Nat.le_refl _),List.take_length] at hz
  have X5:((aa n E V L T).1.filter fun w=>decide (vZ E w∈((ay n E V L).getD i ([],[])).1))=(aa n E V L T).1.filter fun w=>decide (cZ E w∈((ay n E V L).getD i ([],[])).1):=List.filter_congr fun w hw=>by rw[I2 hp hW hw]
  rw[X5] at hz
  have FY:=HM kf (VK:=((ay n E V L).getD i ([],[])).1) (LK:=((ay n E V L).getD i ([],[])).2) (hP.sub i) (by rw[kG i hi];exact Q1.filter _) (by rw[kG i hi];exact KZ.filter _) (fun e he=>by rw[kG i hi] at he;exact(List.mem_filter.1 he).1) (fun d hd=>by rw[kG i hi];exact vS d hd _)
  generalize ((aa n E V L T).1.filter fun w=>decide (cZ E w∈((ay n E V L).getD i ([],[])).1)).length=a at*
  generalize ((ay n E V L).getD i ([],[])).1.length=b at*
  generalize ((ay n E V L).getD i ([],[])).2.length=c at*
  obtain⟨y,hy⟩:∃y:Int,2-(b:Int)+(c:Int)-(a:Int)=2*y:=⟨(2-(b:Int)+(c:Int)-(a:Int))/2,by omega⟩
  rw[hy,Int.mul_tdiv_cancel_left _ (by decide)] at hz
  omega
 have s1:=xB (N:=(ay n E V L).length) (l:=(aa n E V L T).1) (p:=fun i w=>decide (cZ E w∈((ay n E V L).getD i ([],[])).1)) fun w hw=>by
  obtain⟨i,hi,hx⟩:=hP.LO _ (rB hp hW hw)
  exact⟨i,hi,decide_eq_true hx,fun j hj hy=>hP.uq j i hj hi _ (of_decide_eq_true hy) hx⟩
 have Dx:∀i j,i<(ay n E V L).length->j<(ay n E V L).length->∀x,Cn E L ((bJ E L V).getD i 0) x->Cn E L ((bJ E L V).getD j 0) x->j=i:=fun i j hi hj x h1 h2=>by
  exact dW r3 (by omega) (by omega) (r4 _ (ag (by omega)) _ (ag (by omega)) (Gr.iC.trans h2 (Gr.iC.symm h1)))
 have hex:∀v∈V,∃i,i<(ay n E V L).length/\Cn E L ((bJ E L V).getD i 0) v:=fun v hv=>by
  obtain⟨a,ha,hc⟩:=r2 v hv
  obtain⟨i,hi,rfl⟩:=aB (z:=(0:Int)).1 ha
  exact⟨i,by omega,hc⟩
 have s2:=xB (N:=(ay n E V L).length) (l:=V) (p:=fun i v=>decide (Cn E L ((bJ E L V).getD i 0) v)) fun v hv=>by
  obtain⟨i,hi,hx⟩:=hex v hv
  exact⟨i,hi,decide_eq_true hx,fun j hj hy=>Dx i j hi hj v hx (of_decide_eq_true hy)⟩
 have s3:=xB (N:=(ay n E V L).length) (l:=L) (p:=fun i e=>decide (Cn E L ((bJ E L V).getD i 0) (eA E e))) fun e he=>by
  have hA:eA E e∈V:=by
   have:=(bf hp (ck.2 ⟨e,he,.inl rfl⟩)).1
   unfold ah at this
   rw[if_pos (by omega),show 2*e/2=e by omega] at this
   exact this
  obtain⟨i,hi,hx⟩:=hex _ hA
  exact⟨i,hi,decide_eq_true hx,fun j hj hy=>Dx i j hi hj _ hx (of_decide_eq_true hy)⟩
 have t2:mT (fun i=>((ay n E V L).getD i ([],[])).1.length) (ay n E V L).length=V.length:=by
  rw[<-s2]
  refine jM fun i hi=>?_
  rw[kG i hi]
  unfold fV
  congr 1
 have t3:mT (fun i=>((ay n E V L).getD i ([],[])).2.length) (ay n E V L).length=L.length:=by
  rw[<-s3]
  refine jM fun i hi=>?_
  rw[kG i hi]
  unfold G5
  congr 1
 have:=jM one
 rw[uv,uv,s1,t2,t3,Qn] at this
 exact this
end
end Go.Proofs.YtnfdimfepbbbpaaGreat
namespace Go.Proofs.YtnfdimfepbbbpaaGreat
open Go.RowKit
open Go.Proofs.YtnfdimfepbbbpaaGreat.Deep
section
variable {ow:fR}{S:List (List Int)}{N:Nat}{l:List Int}{s z:S4×fR}
theorem FA {i:Int}:∀ {k:Nat} {z:S4×fR},runK ow l i s k=some z->∀j,0<j->j<k->l.getD (j-1) 0<l.getD j 0
 |0,z,_,j,_,hj=>by omega
 |k+1,z,h,j,h0,hj=>by
  have h:(runK ow l i s k).bind (fun y=>lN ow l i y k)=some z:=h
  cases hq:runK ow l i s k with
  |none=>rw[hq] at h;cases h
  |some y=>
   by_cases e:j=k
   .subst e
    rw[hq] at h
    have h:lN ow l i y j=some z:=h
    unfold lN at h
    split at h
    .cases h
    rename_i q
    exact Int.lt_of_not_ge fun w=>q (.inr (.inr ⟨h0,w⟩))
   exact FA hq j h0 (by omega)
theorem FB:∀ {i:Nat} {z:S4×fR},jc ow S N i=some z->∀j,j<i->∀k,0<k->k<(S.getD j []).length->(S.getD j []).getD (k-1) 0<(S.getD j []).getD k 0
 |0,z,_,j,hj=>by omega
 |i+1,z,h,j,hj=>by
  have h:(jc ow S N i).bind (fun s=>mq ow S s i)=some z:=h
  cases hq:jc ow S N i with
  |none=>rw[hq] at h;cases h
  |some y=>
   by_cases e:j=i
   .subst e
    rw[hq] at h
    have h:mq ow S y j=some z:=h
    unfold mq at h
    split at h
    .cases h
    exact FA h
   exact FB hq j (by omega)
theorem Xa {l:List Int}(h:∀k,0<k->k<l.length->l.getD (k-1) 0<l.getD k 0):EB l:=by
 refine List.pairwise_iff_getElem.2 fun i j hi hj wD=>?_
 have:=xl (f:=fun k=>l.getD k 0) (N:=l.length) h wD hj
 rw[getD_eq hi,getD_eq hj] at this
 exact this
theorem FC:∀k,k<=S.length->HL S k=(S.take k).flatten.length
 |0,_=>rfl
 |k+1,h=>by
  show HL S k+_=_
  rw[FC k (by omega),bU (show k<S.length by omega) [],List.flatten_append,List.length_append]
  simp
end
section
variable {n:Int}{E:List (Int×Int)}{V L:List Int}{T S:List (List Int)}
theorem FD (h:aM n E V L T S=0){l:List Int}(hl:l∈S):EB l/\2<=l.length:=by
 obtain⟨_,z,hz,_⟩:=aX h
 obtain⟨j,hj,rfl⟩:=aB (z:=([]:List Int)).1 hl
 exact⟨Xa (FB hz j hj),qw hz j hj⟩
theorem TI (h:aM n E V L T S=0):S.flatten.Nodup:=by
 obtain⟨_,z,hz,_⟩:=aX h
 obtain⟨_,_,m3⟩:=qF hz
 have key:∀k,k<=S.length->(S.take k).flatten.Nodup:=fun k=>by
  induction k with
  |zero=>exact fun _=>List.nodup_nil
  |succ k ih=>
   intro hk
   rw[bU (show k<S.length by omega) [],List.flatten_append,List.flatten_cons,List.flatten_nil,List.append_nil,List.nodup_append]
   refine⟨ih (by omega),gq (FD h (ag (by omega))).1,fun a ha b hb e=>?_⟩
   subst e
   obtain⟨u,hu,hx⟩:=(kO (by omega)).1 ha
   exact m3 u k hu (by omega) a hx hb
 have:=key S.length (Nat.le_refl _)
 rwa[List.take_length] at this
theorem JS {m:List (Int×Int)}{W:List (Int×List Int)}:∀ {k:Nat},k<=W.length->(Aj m W k).length+((W.take k).filter fun w=>(af m w.1).isSome).length=k
 |0,_=>rfl
 |k+1,h=>by
  have ih:=JS (m:=m) (W:=W) (k:=k) (by omega)
  rw[bU (show k<W.length by omega) (0,[]),List.filter_append,List.length_append]
  unfold Aj
  cases q:(af m (W.getD k (0,[])).1).isSome with
  |true=>rw[if_pos rfl,List.filter_cons_of_pos (by exact q)];simp;omega
  |false=>rw[if_neg (by decide),List.filter_cons_of_neg (by rw[q];decide),List.length_append];simp;omega
theorem rP (h:aM n E V L T S=0){x:Int}(hx:x∈S.flatten):∃w∈(aa n E V L T).1,w.1=x:=by
 obtain⟨_,z,hz,_⟩:=aX h
 obtain⟨_,m2,_⟩:=qF hz
 obtain⟨l,hl,hx⟩:=List.mem_flatten.1 hx
 obtain⟨j,hj,rfl⟩:=aB (z:=([]:List Int)).1 hl
 have:=(Qb (Nat.le_refl _) x).1 (m2 j hj x hx)
 rwa[List.take_length] at this
theorem TJ (h:aM n E V L T S=0):(aV n E V L T S).length+HL S S.length=S.length+(aa n E V L T).1.length:=by
 have hk:=qx (aK (aX h).1)
 have h1:=JS (m:=dG S S.length) (W:=(aa n E V L T).1) (Nat.le_refl _)
 rw[List.take_length] at h1
 have h2:(((aa n E V L T).1.filter fun w=>(af (dG S S.length) w.1).isSome).map (·.1)).length=S.flatten.length:=by
  refine JR (hk.sublist (List.Sublist.map _ List.filter_sublist)) (TI h) fun x=>?_
  rw[List.mem_map]
  constructor
  .rintro⟨w,hw,rfl⟩
   obtain⟨j,hj,hx⟩:=(rH (Nat.le_refl _) w.1).1 (List.mem_filter.1 hw).2
   exact List.mem_flatten.2 ⟨_,ag hj,hx⟩
  intro hx
  obtain⟨w,hw,rfl⟩:=rP h hx
  obtain⟨l,hl,hx⟩:=List.mem_flatten.1 hx
  obtain⟨j,hj,rfl⟩:=aB (z:=([]:List Int)).1 hl
  exact⟨w,List.mem_filter.2 ⟨hw,(rH (Nat.le_refl _) w.1).2 ⟨j,hj,hx⟩⟩,rfl⟩
 rw[List.length_map] at h2
 have h3:=FC S.length (Nat.le_refl _)
 rw[List.take_length] at h3
 rw[jN h,Jd]
 unfold Ak
 rw[List.length_append]
 omega
abbrev fG (n:Int)(E:List (Int×Int))(V L:List Int)(T S:List (List Int))(d:Int):Int:=(af (aq n E V L T S) d).getD 0
theorem sY (h:aM n E V L T S=0){w:Int×List Int}(hw:w∈(aa n E V L T).1):∃i:Nat,i<(aV n E V L T S).length/\w.1∈(aV n E V L T S).getD i []/\(∀j,j<(aV n E V L T S).length->w.1∈(aV n E V L T S).getD j []->j=i)/\∀d,Dj w d->af (aq n E V L T S) d=some (i:Int):=by
 have hu:=(wg (aK (aX h).1)).1
 obtain⟨i,hi,hx,hq⟩:=Tx h hw
 refine⟨i,hi,hx,hq,fun d hd=>?_⟩
 rw[nJ h,Qd hu.uq hd hw (Nat.le_refl _) (by rw[List.take_length];exact hw),JK hx hi hq];rfl
theorem Xb (h:aM n E V L T S=0){w:Int×List Int}(hw:w∈(aa n E V L T).1){d e:Int}(hd:Dj w d)(he:Dj w e):fG n E V L T S d=fG n E V L T S e:=by
 obtain⟨i,_,_,_,q⟩:=sY h hw
 show(af _ d).getD 0=(af _ e).getD 0
 rw[q d hd,q e he]
theorem HP (h:aM n E V L T S=0){w u:Int×List Int}(hw:w∈(aa n E V L T).1)(hu:u∈(aa n E V L T).1){d e:Int}(hd:Dj w d)(he:Dj u e):fG n E V L T S d=fG n E V L T S e↔w.1=u.1\/∃l∈S,w.1∈l/\u.1∈l:=by
 obtain⟨i,i1,i2,i3,i4⟩:=sY h hw
 obtain⟨j,j1,j2,j3,j4⟩:=sY h hu
 have e1:fG n E V L T S d=(i:Int):=by show(af _ d).getD 0=_;rw[i4 d hd];rfl
 have e2:fG n E V L T S e=(j:Int):=by show(af _ e).getD 0=_;rw[j4 e he];rfl
 rw[e1,e2]
 constructor
 .intro q
  have:i=j:=by omega
  subst this
  rcases rK h (ag (l:=aV n E V L T S) (d:=[]) i1) with z|⟨v,_,z⟩
  .exact .inr ⟨_,z,i2,j2⟩
  rw[z] at i2 j2
  exact .inl ((List.mem_singleton.1 i2).trans (List.mem_singleton.1 j2).symm)
 rintro(q|⟨l,hl,q1,q2⟩)
 .rw[q] at i2
  have:=j3 i i1 i2
  omega
 have hm:l∈aV n E V L T S:=by rw[jN h,rJ];exact List.mem_append_left _ hl
 obtain⟨k,hk,rfl⟩:=aB (z:=([]:List Int)).1 hm
 have:=i3 k hk q1
 have:=j3 k hk q2
 omega
theorem zw {w:Int×List Int}(h:(aa n E V L T).2=0)(hw:w∈(aa n E V L T).1):Dj w w.1:=(wg h).1.hd w hw w.1 (.inl rfl)
theorem FE (h:aM n E V L T S=0){d:Int}(hd:ak L d):fG n E V L T S (dA E L T d)=fG n E V L T S d:=by
 have kf:=aK (aX h).1
 obtain⟨hp,hT,_⟩:=aU kf
 obtain⟨hu,hx⟩:=wg kf
 obtain⟨w,hw,hdw⟩:=hu.ex d hd
 have h2:=hx w hw d hdw
 rw[fL hp hT hd] at h2
 exact Xb h hw (.inl h2) (.inl hdw)
theorem Qp (h:aM n E V L T S=0):vq L (ah E) (dA E L T) (fG n E V L T S):=by
 obtain⟨hp,hT,_⟩:=aU (aK (aX h).1)
 exact Qm hp hT fun d hd=>FE h hd
def s9 (V L:List Int)(T:List (List Int))(k:Int):Prop:=ak L k\/∃v∈V,(T.getD v.toNat []).length=0/\k= -1-v
def BY (E:List (Int×Int))(k:Int):Int:=if k<0 then -1-k else ah E k
section
variable {k k' u v:Int}
theorem jO (hp:aS n E V L=0)(hk:ak L k):BY E k=ah E k:=if_neg (by have:=(bf hp hk).2.1;omega)
theorem kL (hp:aS n E V L=0)(hv:v∈V):BY E (-1-v)=v:=by
 obtain⟨_,hV,_,_⟩:=aJ hp
 have:=(aA.1 hV).2 _ hv
 unfold BY
 rw[if_pos (by omega)];omega
theorem Qq (hp:aS n E V L=0)(hk:s9 V L T k):BY E k∈V:=by
 rcases hk with q|⟨v,hv,_,rfl⟩
 .rw[jO hp q];exact(bf hp q).1
 rw[kL hp hv];exact hv
theorem zx (h:(aa n E V L T).2=0)(hk:s9 V L T k):∃w∈(aa n E V L T).1,Dj w k:=by
 have hu:=(wg h).1
 rcases hk with q|⟨v,hv,h0,rfl⟩
 .obtain⟨w,hw,hd⟩:=hu.ex k q;exact⟨w,hw,.inl hd⟩
 exact⟨_,hu.lone v hv h0,.inr ⟨rfl,rfl⟩⟩
theorem zy (h:(aa n E V L T).2=0){w:Int×List Int}(hw:w∈(aa n E V L T).1):s9 V L T w.1/\BY E w.1=cZ E w:=by
 obtain⟨hp,_,hW⟩:=aU h
 rcases hW.key w hw with⟨q,z⟩|⟨q,z⟩
 .obtain⟨a,b⟩:=Fx h hw q
  refine⟨.inr ⟨-1-w.1,a,b,by omega⟩,?_⟩
  have:=kL hp a
  rw[show -1-(-1-w.1)=w.1 by omega] at this
  rw[this];unfold cZ;rw[if_pos q]
 refine⟨.inl z,?_⟩
 rw[jO hp z];unfold cZ;rw[if_neg q]
theorem Qr (h:aM n E V L T S=0)(hk:s9 V L T k):∃i:Nat,i<(aV n E V L T S).length/\fG n E V L T S k=(i:Int):=by
 obtain⟨w,hw,q⟩:=zx (aK (aX h).1) hk
 obtain⟨i,i1,_,_,i4⟩:=sY h hw
 exact⟨i,i1,by show(af _ k).getD 0=_;rw[i4 k q];rfl⟩
theorem Lu (h:aM n E V L T S=0)(hk:s9 V L T k)(zS:s9 V L T k')(hj:JP (· ∈L) (two (ah E)) (BY E k) (BY E k')):JP (· ∈L) (two (fG n E V L T S)) (fG n E V L T S k) (fG n E V L T S k'):=by
 have kf:=aK (aX h).1
 obtain⟨hp,hT,_⟩:=aU kf
 obtain⟨_,hV,_,_⟩:=aJ hp
 have r:=Qp h
 have key:∀a b,JP (· ∈L) (two (ah E)) a b->(a=b\/((∃d,ak L d/\ah E d=a)/\∃d,ak L d/\ah E d=b))/\(∀d,ak L d->ah E d=a->∃e,ak L e/\ah E e=b/\JP (· ∈L) (two (fG n E V L T S)) (fG n E V L T S d) (fG n E V L T S e))/\∀d,ak L d->ah E d=b->∃e,ak L e/\ah E e=a/\JP (· ∈L) (two (fG n E V L T S)) (fG n E V L T S d) (fG n E V L T S e):=fun a b q=>by
  induction q with
  |of q=>
   obtain⟨f,hf,rfl,rfl⟩:=q
   have d1:ak L (2*f):=ck.2 ⟨f,hf,.inl rfl⟩
   have d2:ak L (2*f+1):=ck.2 ⟨f,hf,.inr rfl⟩
   have hc:=JP.pz (S:=(· ∈L)) (p:=two (fG n E V L T S)) hf
   exact⟨.inr ⟨⟨_,d1,rfl⟩,_,d2,rfl⟩,fun d hd e=>⟨_,d2,rfl,(r.same hd d1 e).tr hc⟩,fun d hd e=>⟨_,d1,rfl,(r.same hd d2 e).tr hc.sy⟩⟩
  |id _=>exact⟨.inl rfl,fun d hd e=>⟨d,hd,e,.id _⟩,fun d hd e=>⟨d,hd,e,.id _⟩⟩
  |sy _ ih=>exact⟨ih.1.elim (fun e=>.inl e.symm) fun q=>.inr ⟨q.2,q.1⟩,ih.2.2,ih.2.1⟩
  |tr _ _ i1 i2=>
   refine⟨?_,fun d hd e=>?_,fun d hd e=>?_⟩
   .rcases i1.1 with e|q
    .subst e;exact i2.1
    rcases i2.1 with e|w
    .subst e;exact .inr q
    exact .inr ⟨q.1,w.2⟩
   .obtain⟨e1,a1,a2,a3⟩:=i1.2.1 d hd e
    obtain⟨e2,b1,b2,b3⟩:=i2.2.1 e1 a1 a2
    exact⟨e2,b1,b2,a3.tr b3⟩
   obtain⟨e1,a1,a2,a3⟩:=i2.2.2 d hd e
   obtain⟨e2,b1,b2,b3⟩:=i1.2.2 e1 a1 a2
   exact⟨e2,b1,b2,a3.tr b3⟩
 obtain⟨k1,k2,_⟩:=key _ _ hj
 have nod:∀v,v∈V->(T.getD v.toNat []).length=0->∀d,ak L d->ah E d≠v:=fun v hv h0 d hd e=>by
  have:=(fU hp hT hd).2.2
  rw[e,List.eq_nil_of_length_eq_zero h0] at this;cases this
 rcases hk with q|⟨v,hv,h0,rfl⟩
 .rcases zS with q'|⟨v',Kx,h0',rfl⟩
  .rw[jO hp q,jO hp q'] at*
   obtain⟨e,a1,a2,a3⟩:=k2 k q rfl
   exact a3.tr (r.same a1 q' a2)
  exfalso
  rw[jO hp q,kL hp Kx] at k1
  rcases k1 with e|⟨_,d,hd,e⟩
  .exact nod v' Kx h0' k q e
  exact nod v' Kx h0' d hd e
 rw[kL hp hv] at k1
 have:v=BY E k':=by
  rcases k1 with e|⟨⟨d,hd,e⟩,_⟩
  .exact e
  exact absurd e (nod v hv h0 d hd)
 rcases zS with q'|⟨v',Kx,h0',rfl⟩
 .rw[jO hp q'] at this
  exact absurd this.symm (nod v hv h0 k' q')
 rw[kL hp Kx] at this
 subst this;exact .id _
theorem zz (h:aM n E V L T S=0)(hk:s9 V L T k)(zS:s9 V L T k'):JP (· ∈L) (two (fG n E V L T S)) (fG n E V L T S k) (fG n E V L T S k'):=by
 have kf:=aK (aX h).1
 obtain⟨hp,hT,hW⟩:=aU kf
 have hP:=iJ hp
 have hPe:ay n E V L=mH E V L:=by rw[wY hp,rA hp]
 have hlen:(ay n E V L).length=(bJ E L V).length:=by rw[hPe];exact List.length_map ..
 have kG:∀i,i<(ay n E V L).length->(ay n E V L).getD i ([],[])=(fV E L V ((bJ E L V).getD i 0),G5 E L ((bJ E L V).getD i 0)):=fun i hi=>by
  rw[hPe];exact qn (by omega) 0
 have same:∀i,i<(ay n E V L).length->∀k k',s9 V L T k->s9 V L T k'->BY E k∈((ay n E V L).getD i ([],[])).1->BY E k'∈((ay n E V L).getD i ([],[])).1->JP (· ∈L) (two (fG n E V L T S)) (fG n E V L T S k) (fG n E V L T S k'):=fun i hi k k' hk zS a b=>by
  rw[kG i hi] at a b
  exact Lu h hk zS (UY (Gr.iC.trans (Gr.iC.symm (lF.1 a).2) (lF.1 b).2))
 have W9:=qx kf
 have own:∀x a,x∈S.flatten->af (owN n E V L T) x=some a->∃i:Nat,i<(ay n E V L).length/\a=(i:Int)/\s9 V L T x/\BY E x∈((ay n E V L).getD i ([],[])).1:=fun x a hx ha=>by
  obtain⟨w,hw,rfl⟩:=rP h hx
  obtain⟨p1,p2⟩:=zy kf hw
  obtain⟨i,hi,hm,e⟩:=CV hP (rB hp hW hw)
  have:=JJ (E:=E) (P:=ay n E V L) W9 (Nat.le_refl _) (by rw[List.take_length];exact hw)
  rw[this,e] at ha
  refine⟨i,hi,?_,p1,by rw[p2];exact hm⟩
  cases ha;rfl
 have key:∀a b,pM (JnP (owN n E V L T) S) a b->(∀(i:Nat) k,(i:Int)=a->i<(ay n E V L).length->s9 V L T k->BY E k∈((ay n E V L).getD i ([],[])).1->∃(j:Nat) (k':Int),(j:Int)=b/\j<(ay n E V L).length/\s9 V L T k'/\BY E k'∈((ay n E V L).getD j ([],[])).1/\JP (· ∈L) (two (fG n E V L T S)) (fG n E V L T S k) (fG n E V L T S k'))/\
   (∀(i:Nat) k,(i:Int)=b->i<(ay n E V L).length->s9 V L T k->BY E k∈((ay n E V L).getD i ([],[])).1->∃(j:Nat) (k':Int),(j:Int)=a/\j<(ay n E V L).length/\s9 V L T k'/\BY E k'∈((ay n E V L).getD j ([],[])).1/\JP (· ∈L) (two (fG n E V L T S)) (fG n E V L T S k) (fG n E V L T S k')):=fun a b q=>by
  induction q with
  |of q=>
   obtain⟨j,x,y,hj,hx,hy,ha,hb⟩:=q
   have mx:x∈S.flatten:=List.mem_flatten.2 ⟨_,ag hj,hx⟩
   have my:y∈S.flatten:=List.mem_flatten.2 ⟨_,ag hj,hy⟩
   obtain⟨i1,a1,rfl,a2,a3⟩:=own x _ mx ha
   obtain⟨i2,b1,rfl,b2,b3⟩:=own y _ my hb
   have exy:fG n E V L T S x=fG n E V L T S y:=by
    obtain⟨w,hw,rfl⟩:=rP h mx
    obtain⟨u,hu,rfl⟩:=rP h my
    exact(HP h hw hu (zw kf hw) (zw kf hu)).2 (.inr ⟨_,ag hj,hx,hy⟩)
   refine⟨fun i k e hi hk hv=>⟨i2,y,rfl,b1,b2,b3,?_⟩,fun i k e hi hk hv=>⟨i1,x,rfl,a1,a2,a3,?_⟩⟩
   .have:i=i1:=by omega
    subst this
    rw[<-exy];exact same _ hi _ _ hk a2 hv a3
   have:i=i2:=by omega
   subst this
   rw[exy];exact same _ hi _ _ hk b2 hv b3
  |id _=>exact⟨fun i k e hi hk hv=>⟨i,k,e,hi,hk,hv,.id _⟩,fun i k e hi hk hv=>⟨i,k,e,hi,hk,hv,.id _⟩⟩
  |sy _ ih=>exact⟨ih.2,ih.1⟩
  |tr _ _ i1 i2=>
   refine⟨fun i k e hi hk hv=>?_,fun i k e hi hk hv=>?_⟩
   .obtain⟨j,k1,e1,c1,c2,c3,c4⟩:=i1.1 i k e hi hk hv
    obtain⟨j2,k2,e2,d1,d2,d3,d4⟩:=i2.1 j k1 e1 c1 c2 c3
    exact⟨j2,k2,e2,d1,d2,d3,c4.tr d4⟩
   obtain⟨j,k1,e1,c1,c2,c3,c4⟩:=i2.2 i k e hi hk hv
   obtain⟨j2,k2,e2,d1,d2,d3,d4⟩:=i1.2 j k1 e1 c1 c2 c3
   exact⟨j2,k2,e2,d1,d2,d3,c4.tr d4⟩
 obtain⟨i,hi,mi⟩:=hP.LO _ (Qq hp hk)
 obtain⟨j,hj,mj⟩:=hP.LO _ (Qq hp zS)
 obtain⟨j',k1,e,c1,c2,c3,c4⟩:=(key _ _ ((BW h).1 (i:Int) (j:Int) (by omega) (by omega) (by omega) (by omega))).1 i k rfl hi hk mi
 have:j'=j:=by omega
 subst this
 exact c4.tr (same _ hj _ _ c2 zS c3 mj)
end
theorem Qs (R:Nat):((List.range R).map fun i:Nat=>(i:Int)).Nodup:=oU List.nodup_range fun x _ y _ e=>by omega
theorem Dp {R:Nat}{x:Int}:x∈((List.range R).map fun i:Nat=>(i:Int))↔∃i:Nat,i<R/\x=(i:Int):=by
 rw[List.mem_map]
 exact⟨fun⟨i,h,e⟩=>⟨i,List.mem_range.1 h,e.symm⟩,fun⟨i,h,e⟩=>⟨i,List.mem_range.2 h,e.symm⟩⟩
theorem FF (h:aM n E V L T S=0):nS L V ((List.range (aV n E V L T S).length).map fun i:Nat=>(i:Int)) (two (ah E)) (two (fG n E V L T S)):=by
 have hf:=(aX h).1
 have kf:=aK hf
 obtain⟨hp,hT,hW⟩:=aU kf
 obtain⟨_,hV,hL,_⟩:=aJ hp
 have Q1:=gq (aA.1 hV).1
 have KZ:=gq (aA.1 hL).1
 have hP:=iJ hp
 have Qh:∀e∈L,ak L (2*e)/\ak L (2*e+1):=fun e he=>⟨ck.2 ⟨e,he,.inl rfl⟩,ck.2 ⟨e,he,.inr rfl⟩⟩
 have RQ:∀d,ak L d->fG n E V L T S d∈((List.range (aV n E V L T S).length).map fun i:Nat=>(i:Int)):=fun d hd=>by
  obtain⟨i,hi,e⟩:=Qr h (.inl hd)
  exact Dp.2 ⟨i,hi,e⟩
 have h1:∀e∈L,(two (ah E) e).1∈V/\(two (ah E) e).2∈V:=fun e he=>⟨(bf hp (Qh e he).1).1,(bf hp (Qh e he).2).1⟩
 have h2:∀e∈L,(two (fG n E V L T S) e).1∈((List.range (aV n E V L T S).length).map fun i:Nat=>(i:Int))/\(two (fG n E V L T S) e).2∈((List.range (aV n E V L T S).length).map fun i:Nat=>(i:Int)):=fun e he=>⟨RQ _ (Qh e he).1,RQ _ (Qh e he).2⟩
 refine⟨KZ,Q1,Qs _,h1,h2,(Qp h).cont,?_⟩
 obtain⟨a,ha⟩:=Di (p:=two (ah E)) L
 obtain⟨b,hb⟩:=Di (p:=two (fG n E V L T S)) L
 refine⟨a,b,ha,hb,?_⟩
 obtain⟨rs,q1,q2⟩:=qE Q1 L a h1 ha
 obtain⟨us,w1,w2⟩:=qE (Qs _) L b h2 hb
 rw[List.length_map,List.length_range] at w2
 obtain⟨r1,r2,r3,r4⟩:=tU (E:=E) (L:=L) V (nB hV)
 have hrs:lQ V (JP (· ∈L) (two (ah E))) (bJ E L V):=⟨r3,r1,fun v hv=>by obtain⟨c,hc,hh⟩:=r2 v hv;exact⟨c,hc,(UY hh).sy⟩,fun x hx y hy q=>(aaj hp q).elim id fun w=>r4 x hx y hy w⟩
 have SZ:(ay n E V L).length=(bJ E L V).length:=by rw[wY hp,rA hp];exact List.length_map ..
 have e1:=zu (R:=JP (· ∈L) (two (ah E))) ⟨fun q=>pM.sy q,fun q w=>pM.tr q w⟩ q1 hrs
 have e2:=HO hf
 have e3:=TJ h
 by_cases h0:0<(ay n E V L).length
 .have e4:=(BW h).2 h0
  have eS:∀x∈((List.range (aV n E V L T S).length).map fun i:Nat=>(i:Int)),∃k,s9 V L T k/\fG n E V L T S k=x:=fun x hx=>by
   obtain⟨i,hi,rfl⟩:=Dp.1 hx
   have cO:=(rI h).1 _ (by have:=ag (l:=aV n E V L T S) (d:=[]) hi;rw[jN h,rJ] at this;exact this)
   have hm:=ag (l:=(aV n E V L T S).getD i []) (i:=0) (d:=0) (List.length_pos_iff.2 (by rw[jN h] at*;exact cO))
   have hk:∃w∈(aa n E V L T).1,w.1=((aV n E V L T S).getD i []).getD 0 0:=by
    rcases rK h (ag (l:=aV n E V L T S) (d:=[]) hi) with z|⟨v,hv,z⟩
    .exact rP h (List.mem_flatten.2 ⟨_,z,hm⟩)
    exact⟨v,hv,by rw[z];rfl⟩
   obtain⟨w,hw,e⟩:=hk
   obtain⟨j,j1,j2,j3,j4⟩:=sY h hw
   have:=j3 i hi (by rw[e];exact hm)
   subst this
   refine⟨w.1,(zy kf hw).1,?_⟩
   show(af _ w.1).getD 0=_
   rw[j4 _ (zw kf hw)];rfl
  have hR:0<(aV n E V L T S).length:=by
   have hv0:∃v,v∈V:=by
    have:(bJ E L V).getD 0 0∈bJ E L V:=ag (by omega)
    exact⟨_,r1 _ this⟩
   obtain⟨v,hv⟩:=hv0
   have:∃k,s9 V L T k:=by
    by_cases q:(T.getD v.toNat []).length=0
    .exact⟨_,.inr ⟨v,hv,q,rfl⟩⟩
    have hb:=(aA.1 hV).2 _ hv
    have hl:=hT.len
    exact⟨_,.inl ((hT.mem v.toNat (by omega) _).1 (ag (l:=T.getD v.toNat []) (i:=0) (d:=0) (by omega))).1⟩
   obtain⟨k,hk⟩:=this
   obtain⟨i,hi,_⟩:=Qr h hk
   omega
  have F7:us.length=1:=by
   obtain⟨r,hr,_⟩:=w1.ex 0 (Dp.2 ⟨0,hR,rfl⟩)
   have hle:us.length<=1:=by
    have:us.length<=[r].length:=w1.nd.length_le_of_subset fun x hx=>by
     obtain⟨k,hk,e⟩:=eS x (w1.sub x hx)
     obtain⟨k',zS,e'⟩:=eS r (w1.sub r hr)
     exact List.mem_singleton.2 (w1.uq x hx r hr (by rw[<-e,<-e'];exact zz h hk zS))
    exact this
   have:=List.length_pos_of_mem hr
   omega
  omega
 have hV0:V=[]:=by
  cases V with
  |nil=>rfl
  |cons v V=>obtain⟨i,hi,_⟩:=hP.LO v List.mem_cons_self;omega
 have hL0:L=[]:=by
  cases L with
  |nil=>rfl
  |cons e L=>have:=(bf hp (Qh e List.mem_cons_self).1).1;rw[hV0] at this;cases this
 subst hL0
 have ha:a=0:=ha
 have hb:b=0:=hb
 rw[ha,hb];rfl
end
end Go.Proofs.YtnfdimfepbbbpaaGreat
namespace Go.Proofs.YtnfdimfepbbbpaaGreat
open Go.RowKit
open Go.Proofs.YtnfdimfepbbbpaaGreat.Deep
section
variable {E:List (Int×Int)}{ds l gone:List Int}{out:List (List Int)}{e d:Int}{k:Nat}
theorem Qt:∀ {l:List Int},l.Pairwise (fun x y=>x/2≠y/2)->(par (fun d=>decide (d/2=e)) l=true↔∃x∈l,x/2=e)
 |[],_=>⟨fun h=>(by cases h),fun⟨x,h,_⟩=>(by cases h)⟩
 |x::l,h=>by
  obtain⟨h1,h2⟩:=List.pairwise_cons.1 h
  show xor (decide (x/2=e)) (par _ l)=true↔_
  by_cases q:x/2=e
  .have:par (fun d=>decide (d/2=e)) l=false:=qH fun y hy=>decide_eq_false fun z=>h1 y hy (by rw[q,z])
   rw[this,decide_eq_true q]
   exact⟨fun _=>⟨x,List.mem_cons_self,q⟩,fun _=>rfl⟩
  rw[decide_eq_false q,Bool.false_xor,Qt h2]
  exact⟨fun⟨y,hy,z⟩=>⟨y,List.mem_cons_of_mem _ hy,z⟩,fun⟨y,hy,z⟩=>(List.mem_cons.1 hy).elim (fun w=>absurd (w▸z) q) fun w=>⟨y,w,z⟩⟩
theorem Xc (h:LU E l l.length):l.Pairwise (fun x y=>x/2≠y/2):=by
 refine List.pairwise_iff_getElem.2 fun i j hi hj wD=>?_
 have:=(h.2 j hj i wD).2
 rwa[getD_eq hi,getD_eq hj] at this
theorem Xd (h:LU E l l.length)[Decidable (zR l e)]:par (fun d=>decide (d/2=e)) l=decide (zR l e):=by
 have h1:=Qt (e:=e) (Xc h)
 have h2:zR l e↔∃x∈l,x/2=e:=⟨fun⟨j,hj,q⟩=>⟨_,ag hj,q⟩,fun⟨x,hx,q⟩=>by obtain⟨j,hj,rfl⟩:=aB (z:=(0:Int)).1 hx;exact⟨j,hj,q⟩⟩
 by_cases q:zR l e
 .rw[decide_eq_true q];exact h1.2 (h2.1 q)
 rw[decide_eq_false q];exact Bool.eq_false_iff.2 fun z=>q (h2.2 (h1.1 z))
theorem Qu {p:Int->Bool}(l:List Int)(i:Nat):par p l=xor (par p (l.take i)) (par p (l.drop i)):=by
 rw[<-um,List.take_append_drop]
open Classical in
theorem HQ (si:∀k,k+1<ds.length->ah E (ds.getD (k+1) 0)=DB E (ds.getD k 0)):∀ {k:Nat},k<=ds.length->
  xor (par (fun c=>decide (zR c e)) (vf E ds k).2) (par (fun d=>decide (d/2=e)) (vf E ds k).1)=par (fun d=>decide (d/2=e)) (ds.take k)/\
  ((vf E ds k).1≠[]->ah E ((vf E ds k).1.getD 0 0)=ah E (ds.getD 0 0))/\((vf E ds k).1=[]->0<k->DB E (ds.getD (k-1) 0)=ah E (ds.getD 0 0))
 |0,_=>⟨rfl,fun h=>absurd rfl h,fun _ h=>absurd h (Nat.lt_irrefl _)⟩
 |k+1,hk=>by
  obtain⟨i1,i2,i3⟩:=HQ si (k:=k) (by omega)
  have An:=(uh si hk).2
  have uB:vf E ds (k+1)=zQ E (vf E ds k) (ds.getD k 0):=rfl
  rw[uB] at An ⊢
  generalize vf E ds k=s at*
  obtain⟨g0,out⟩:=s
  change (g0≠[]->ah E (g0.getD 0 0)=_) at i2
  change (g0=[]->_) at i3
  change xor (par _ out) (par _ g0)=_ at i1
  have Xw:=JI (E:=E) (v:=ah E (an (ds.getD k 0))) (l:=g0++[ds.getD k 0])
  have hG:ah E ((g0++[ds.getD k 0]).getD 0 0)=ah E (ds.getD 0 0):=by
   cases g0 with
   |cons x t=>exact i2 (by simp)
   |nil=>
    show ah E (ds.getD k 0)=_
    cases k with
    |zero=>rfl
    |succ k=>rw[si k (by omega)];exact i3 rfl (Nat.succ_pos _)
  have hGp:par (fun d=>decide (d/2=e)) (g0++[ds.getD k 0])=xor (par (fun d=>decide (d/2=e)) g0) (decide (ds.getD k 0/2=e)):=by
   rw[um];show xor _ (xor _ false)=_;rw[Bool.xor_false]
  have htk:par (fun d=>decide (d/2=e)) (ds.take (k+1))=xor (par (fun d=>decide (d/2=e)) (ds.take k)) (decide (ds.getD k 0/2=e)):=by
   rw[bU (show k<ds.length by omega) 0,um];show xor _ (xor _ false)=_;rw[Bool.xor_false]
  rw[htk,<-i1]
  unfold zQ at An ⊢
  dsimp only at An ⊢
  have hlG:0<(g0++[ds.getD k 0]).length:=by simp
  generalize hg:g0++[ds.getD k 0]=G at*
  rcases Xw with⟨j1,j2⟩|⟨i,j1,j2,j3⟩
  .rw[if_pos (by rw[j1];decide)]
   refine⟨?_,fun _=>hG,fun q=>?_⟩
   .show xor (par _ out) (par _ G)=_
    rw[hGp,Bool.xor_assoc]
   have q:G=[]:=q
   rw[q] at hlG;simp at hlG
  rw[if_neg (by omega),j1,Int.toNat_natCast] at An ⊢
  refine⟨?_,fun q=>?_,fun q _=>?_⟩
  .show xor (par _ (if _ then _ else _)) (par _ (G.take i))=_
   rw[Bool.xor_assoc,<-hGp,Qu G i]
   split
   .rename_i hb
    rw[if_pos hb] at An
    have:=(An (G.drop i) (List.mem_append_right _ (List.mem_singleton.2 rfl))).1
    rw[um]
    show xor (xor _ (xor (decide (zR (G.drop i) e)) false)) _=_
    rw[Bool.xor_false,<-Xd this]
    generalize par _ out=a
    generalize par _ (G.drop i)=b
    generalize par _ (G.take i)=c
    revert a b c;decide
   rename_i hb
   have h2:(G.drop i).length=2:=Classical.byContradiction fun z=>hb (.inl (by omega))
   have h3:(G.drop i).getD 0 0=an ((G.drop i).getD 1 0):=Classical.byContradiction fun z=>hb (.inr z)
   have:par (fun d=>decide (d/2=e)) (G.drop i)=false:=by
    generalize G.drop i=m at*
    match m,h2,h3 with
    |[a,b],_,h3=>
     have h3:a=an b:=h3
     show xor (decide (a/2=e)) (xor (decide (b/2=e)) false)=false
     rw[h3,jI,Bool.xor_false,Bool.xor_self]
   rw[this,Bool.xor_false]
  .show ah E ((G.take i).getD 0 0)=_
   have q:G.take i≠[]:=q
   rw[we (Nat.pos_of_ne_zero fun z=>q (by rw[z];rfl))]
   exact hG
  have q:G.take i=[]:=q
  have h0:i=0:=Classical.byContradiction fun z=>by
   have:(G.take i).length=0:=by rw[q];rfl
   rw[List.length_take] at this;omega
  subst h0
  rw[Nat.add_sub_cancel,<-hG,j3]
theorem Xe (si:∀k,k+1<ds.length->ah E (ds.getD (k+1) 0)=DB E (ds.getD k 0))(hc:ah E (ds.getD 0 0)=DB E (ds.getD (ds.length-1) 0)):(vf E ds ds.length).1=[]:=by
 refine Classical.byContradiction fun q=>?_
 have h1:=(uh si (Nat.le_refl _)).1
 have h2:=(HQ (e:=0) si (Nat.le_refl _)).2.1 q
 have h3:=(h1.la q).2
 have:=h1.no 0 (List.length_pos_iff.2 q)
 rw[h3,h2,hc] at this
 exact this rfl
end
section
variable {n:Int}{E:List (Int×Int)}{V L H:List Int}{T S:List (List Int)}
theorem HR (h:(aa n E V L T).2=0){w:Int×List Int}(hw:w∈(aa n E V L T).1)(cO:w.2.length≠0):ah E (w.2.getD 0 0)=DB E (w.2.getD (w.2.length-1) 0):=by
 rw[fm] at h
 obtain⟨hp,hT,_⟩:=lD h
 rw[iW h] at hw
 rcases List.mem_append.1 hw with q|q
 .exact absurd (mJ (Nat.le_refl _) w q).1 cO
 obtain⟨d,hd,rfl⟩:=xz (Nat.le_refl _) q
 have Pq:=(aN d).1 hd
 obtain⟨hc,hi,p⟩:=(⟨fun x hx=>by rw[fL hp hT ((aN x).1 hx)];exact(aN _).2 (dJ hp hT ((aN x).1 hx)).1,fun x hx y hy e=>by rw[fL hp hT ((aN x).1 hx),fL hp hT ((aN y).1 hy)] at e;exact jY hp hT ((aN x).1 hx) ((aN y).1 hy) e,tv⟩:(∀x∈b8 L L.length,eF E T x∈b8 L L.length)/\(∀x∈b8 L L.length,∀y∈b8 L L.length,eF E T x=eF E T y->x=y)/\True)
 obtain⟨p0,_,p2,_⟩:=mR hc hi hd
 show ah E ((jm (eF E T) d (dZ (eF E T) d (b8 L L.length).length)).getD 0 0)=DB E ((jm (eF E T) d (dZ (eF E T) d (b8 L L.length).length)).getD ((jm (eF E T) d (dZ (eF E T) d (b8 L L.length).length)).length-1) 0)
 rw[fM,iE (by omega),iE (by omega)]
 generalize dZ (eF E T) d (b8 L L.length).length=m at*
 have hx:=(aN _).1 (gO hc hd (m-1))
 have e:eF E T (dx (eF E T) (m-1) d)=d:=by
  show dx (eF E T) (m-1+1) d=d
  rw[show m-1+1=m by omega];exact p2
 show ah E d=_
 conv=>lhs;rw[<-e]
 rw[fL hp hT hx]
 exact(dJ hp hT hx).2
theorem JT:∀ {l:List (List Int)},(∀x∈l,x.Nodup)->l.Pairwise (fun a b=> ∀x∈a,x∉b)->(l.flatMap id).Nodup
 |[],_,_=>List.nodup_nil
 |a::l,h1,h2=>by
  obtain⟨p1,p2⟩:=List.pairwise_cons.1 h2
  rw[List.flatMap_cons,List.nodup_append]
  refine⟨h1 a List.mem_cons_self,JT (fun x hx=>h1 x (List.mem_cons_of_mem _ hx)) p2,fun x hx y hy e=>?_⟩
  subst e
  obtain⟨b,hb,hxb⟩:=List.mem_flatMap.1 hy
  exact p1 b hb x hx hxb
theorem Qv {c:List Int}(h:LU E c c.length)(cO:c≠[])(hd:∀d∈c,ak H d):iG (ah E) H c:=by
 refine⟨List.length_pos_iff.2 cO,fun j hj=>hd _ (ag hj),fun j hj=>h.1 j hj,fun j i hj hi e=>?_,fun j i hj hi e=>?_⟩
 .rcases Nat.lt_trichotomy i j with q|q|q
  .exact absurd e (h.2 j hj i q).1
  .exact q
  exact absurd e.symm (h.2 i hi j q).1
 rcases Nat.lt_trichotomy i j with q|q|q
 .exact absurd e (h.2 j hj i q).2
 .exact q
 exact absurd e.symm (h.2 i hi j q).2
theorem BZ (hp:aS n E V H=0){ds:List Int}(hd:∀d∈ds,ak H d):eR n E ds=(vf E ds ds.length).2:=by
 refine y5 (aJ hp).1 fun d hx=>?_
 have:=bf hp (hd d hx)
 exact⟨this.2.1,this.2.2.1⟩
theorem sZ (h:(aa n E V H T).2=0){w:Int×List Int}(hw:w∈(aa n E V H T).1){c:List Int}(hc:c∈eR n E w.2):iG (ah E) H c/\∀x∈c,x∈w.2:=by
 obtain⟨hp,_,_⟩:=aU h
 have hd:=(fS h w hw).1
 have hm:=(y8 hc).2
 rw[BZ hp hd] at hc
 obtain⟨c1,c2⟩:=(uh (oQ h hw) (Nat.le_refl _)).2 c hc
 exact⟨Qv c1 c2 fun d hx=>hd d (hm d hx),hm⟩
theorem HS (h:(aa n E V H T).2=0){lf:Int->Int}(hr:∀d,ak H d->JP (ko L H) (two lf) (lf d) (lf (dA E H T d))):WkA L H (ah E) lf ((aa n E V H T).1.map (·.2)) (eR n E):=by
 obtain⟨hp,hT,hW⟩:=aU h
 obtain⟨hu,_⟩:=wg h
 have PY:=fS h
 have Tz:=BS h
 have Fy:∀w∈(aa n E V H T).1,w.2.length≠0->w.1∈w.2/\w.2.Nodup/\∀x,x∈w.2↔ak H x/\gP (dA E H T) w.1 x:=fun w hw q=>Dn h hw q
 refine⟨?_,fun d=>?_,fun w hw d hd e he=>?_,fun w hw c hc=>?_,fun w hw e=>?_⟩
 .refine JT (fun x hx=>?_) (List.pairwise_map.2 (Tz.imp_of_mem fun {a b} ha hb j9 x hx wj=>?_))
  .obtain⟨w,hw,rfl⟩:=List.mem_map.1 hx
   by_cases q:w.2.length=0
   .rw[List.eq_nil_of_length_eq_zero q];exact List.nodup_nil
   exact(Fy w hw q).2.1
  have:=hu.uq a ha b hb x (.inl hx) (.inl wj)
  rw[this] at j9;omega
 .rw[List.mem_flatMap]
  constructor
  .rintro⟨x,hx,hd⟩
   obtain⟨w,hw,rfl⟩:=List.mem_map.1 hx
   exact(PY w hw).1 d hd
  intro hd
  obtain⟨w,hw,hx⟩:=hu.ex d hd
  exact⟨_,List.mem_map.2 ⟨w,hw,rfl⟩,hx⟩
 .obtain⟨w,Bd,rfl⟩:=List.mem_map.1 hw
  have cO:w.2.length≠0:=fun q=>by rw[List.eq_nil_of_length_eq_zero q] at hd;cases hd
  obtain⟨o1,_,o2⟩:=Fy w Bd cO
  have h1:=((o2 _).1 o1).1
  have key:∀k,ak H (dx (dA E H T) k w.1)/\JP (ko L H) (two lf) (lf w.1) (lf (dx (dA E H T) k w.1)):=fun k=>by
   induction k with
   |zero=>exact⟨h1,.id _⟩
   |succ k ih=>exact⟨(dJ hp hT ih.1).1,ih.2.tr (hr _ ih.1)⟩
  have st:∀x∈w.2,JP (ko L H) (two lf) (lf w.1) (lf x):=fun x hx=>by
   obtain⟨k,rfl⟩:=((o2 x).1 hx).2
   exact(key k).2
  exact(st d hd).sy.tr (st e he)
 .obtain⟨w,Bd,rfl⟩:=List.mem_map.1 hw
  obtain⟨c1,c2⟩:=sZ h Bd hc
  exact⟨c1,c2 _ (ag c1.ne)⟩
 obtain⟨w,Bd,rfl⟩:=List.mem_map.1 hw
 rw[BZ hp (PY w Bd).1]
 by_cases q:w.2.length=0
 .rw[List.eq_nil_of_length_eq_zero q];rfl
 have h1:=(HQ (e:=e) (oQ h Bd) (Nat.le_refl _)).1
 rw[Xe (oQ h Bd) (HR h Bd q),List.take_length] at h1
 rw[<-h1]
 exact Bool.xor_false _
end
end Go.Proofs.YtnfdimfepbbbpaaGreat
namespace Go.Proofs.YtnfdimfepbbbpaaGreat
open Go.RowKit
open Go.Proofs.YtnfdimfepbbbpaaGreat.Deep
theorem Qw {ds:List Int}{e:Int}:∀ {k:Nat},(af (BI ds k) e).isSome=true↔∃j,j<k/\ds.getD j 0/2=e
 |0=>⟨fun h=>(by cases h),fun⟨j,h,_⟩=>(by omega)⟩
 |k+1=>by
  show(af (b9 (BI ds k) (ds.getD k 0/2) (k:Int)) e).isSome=true↔_
  rw[bK]
  by_cases q:ds.getD k 0/2=e
  .rw[if_pos q];exact⟨fun _=>⟨k,Nat.lt_succ_self _,q⟩,fun _=>rfl⟩
  rw[if_neg q,Qw (k:=k)]
  exact⟨fun⟨j,h1,h2⟩=>⟨j,by omega,h2⟩,fun⟨j,h1,h2⟩=>⟨j,by
   rcases Nat.lt_succ_iff_lt_or_eq.1 h1 with z|z
   .exact z
   subst z;exact absurd h2 q,h2⟩⟩
theorem pM.iff {R S:Int->Int->Prop}(h:∀a b,R a b↔S a b){a b:Int}:pM R a b↔pM S a b:=⟨.mono fun a b=>(h a b).1,.mono fun a b=>(h a b).2⟩
section
variable {n:Int}{E:List (Int×Int)}{V L:List Int}{T S:List (List Int)}{ds:List Int}
theorem uw {m:List (Int×Int)}{x:Int}:∀k,af (Q2 E ds m k) x=if decide (∃j,j<k/\ah E (ds.getD j 0)=x)=true then some 0 else af m x
 |0=>by rw[if_neg];rfl;exact fun q=>by obtain⟨j,hj,_⟩:=of_decide_eq_true q;omega
 |k+1=>by
  show af (b9 (Q2 E ds m k) (ah E (ds.getD k 0)) 0) x=_
  rw[bK,uw k]
  by_cases q:ah E (ds.getD k 0)=x
  .rw[if_pos q,if_pos (decide_eq_true ⟨k,Nat.lt_succ_self _,q⟩)]
  rw[if_neg q]
  by_cases z:∃j,j<k/\ah E (ds.getD j 0)=x
  .rw[if_pos (decide_eq_true z),if_pos (decide_eq_true (let⟨j,h1,h2⟩:=z;⟨j,by omega,h2⟩))]
  rw[if_neg (fun y=>z (of_decide_eq_true y)),if_neg]
  intro y
  obtain⟨j,h1,h2⟩:=of_decide_eq_true y
  rcases Nat.lt_succ_iff_lt_or_eq.1 h1 with w|w
  .exact z ⟨j,w,h2⟩
  subst w;exact q h2
theorem zA {sd:List (Int×Int)}{x:Int}:∀ {k:Nat},k<=V.length->af (Jm T sd V k) x=if x∈V.take k then some ((af sd (if 0<(T.getD x.toNat []).length then(T.getD x.toNat []).getD 0 0 else -1-x)).getD 0) else none
 |0,_=>by rw[if_neg (by simp)];rfl
 |k+1,h=>by
  show af (b9 (Jm T sd V k) (V.getD k 0) _) x=_
  rw[bK,zA (k:=k) (by omega),bU (show k<V.length by omega) 0]
  by_cases q:V.getD k 0=x
  .rw[if_pos q,if_pos (List.mem_append_right _ (List.mem_singleton.2 q.symm)),q]
  rw[if_neg q]
  by_cases z:x∈V.take k
  .rw[if_pos z,if_pos (List.mem_append_left _ z)]
  rw[if_neg z,if_neg]
  intro y
  rcases List.mem_append.1 y with w|w
  .exact z w
  exact q (List.mem_singleton.1 w).symm
end
end Go.Proofs.YtnfdimfepbbbpaaGreat
namespace Go.Proofs.YtnfdimfepbbbpaaGreat
open Go.RowKit
open Go.Proofs.YtnfdimfepbbbpaaGreat.Deep
section
variable {a b l:List Int}{t x y:Int}{p:Int->Bool}{r:Int->Int}
theorem B0 {i:Int}(h0:0<=i)(h1:i<=(l.length:Int)):cW (cW l i) ((l.length:Int)-i)=l:=by
 have hl:=gr h0 h1
 unfold cW at hl ⊢
 have e:((l.length:Int)-i).toNat=(l.drop i.toNat).length:=by rw[List.length_drop];omega
 rw[e,List.drop_left,List.take_left,List.take_append_drop]
theorem jP {i:Int}(h0:0<=i)(h1:i<=(l.length:Int)):kD (cW l i) x y↔kD l x y:=by
 refine⟨u5 h0 h1,fun h=>?_⟩
 have:=B0 h0 h1
 rw[<-this] at h
 exact u5 (by omega) (by rw[gr h0 h1];omega) h
theorem vr (h:kE a b=true):∃i:Int,0<=i/\i<=(a.length:Int)/\b=cW a i:=by
 obtain⟨h1,h2⟩:=of_decide_eq_true (p:=Fe a b) h
 rcases h2 with q|⟨i,hi,e1,e2⟩
 .refine⟨0,Int.le_refl _,by omega,?_⟩
  rw[List.eq_nil_of_length_eq_zero q,List.eq_nil_of_length_eq_zero (show b.length=0 by omega)];rfl
 refine⟨((a.length-i:Nat):Int),by omega,by omega,?_⟩
 unfold cW
 rw[Int.toNat_natCast,e1,e2,List.take_append_drop]
theorem Lv {i:Int}(h0:0<=i)(h1:i<=(a.length:Int)):kE a (cW a i)=true:=by
 refine decide_eq_true ⟨(gr h0 h1).symm,?_⟩
 by_cases q:a.length=0
 .exact .inl q
 right
 rw[gr h0 h1]
 by_cases z:i=0
 .subst z
  refine⟨0,by omega,?_⟩
  unfold SO cW;simp
 refine⟨a.length-i.toNat,by omega,?_⟩
 unfold SO cW
 have e:a.length-(a.length-i.toNat)=i.toNat:=by omega
 have e2:a.length-i.toNat=(a.drop i.toNat).length:=by rw[List.length_drop]
 rw[e,e2,List.drop_left,List.take_left]
 exact⟨rfl,rfl⟩
theorem Lw (C:List Int):∃k,k<=C.length/\(t::C).getD (C.length-k) 0=(t::C.filter p).getD (C.filter p).length 0/\∀i,i<k->p ((t::C).getD (C.length-i) 0)=false:=by
 have key:∀C:List Int,∃k,k<=C.length/\(t::C).getD (C.length-k) 0=(t::C.filter p).getD (C.filter p).length 0/\∀i,i<k->p ((t::C).getD (C.length-i) 0)=false:=by
  refine wW ⟨0,Nat.le_refl _,rfl,fun i h=>absurd h (Nat.not_lt_zero _)⟩ fun C c ih=>?_
  have hl:(C++[c]).length=C.length+1:=by simp
  have ug:(t::(C++[c])).getD (C.length+1) 0=c:=by
   show(C++[c]).getD C.length 0=c
   exact zo
  by_cases q:p c=true
  .refine⟨0,Nat.zero_le _,?_,fun i h=>absurd h (Nat.not_lt_zero _)⟩
   rw[hl,Nat.sub_zero,ug,List.filter_append,List.filter_cons_of_pos q]
   have:(C.filter p++[c]).length=(C.filter p).length+1:=by simp
   show c=(t::(C.filter p++[c])).getD (C.filter p++[c]).length 0
   rw[this]
   show c=(C.filter p++[c]).getD (C.filter p).length 0
   rw[zo]
  obtain⟨k,k1,k2,k3⟩:=ih
  have iL:∀j,j<=C.length->(t::(C++[c])).getD j 0=(t::C).getD j 0:=fun j hj=>by
   cases j with
   |zero=>rfl
   |succ j=>exact sV (by omega)
  refine⟨k+1,by omega,?_,fun i hi=>?_⟩
  .rw[hl,show C.length+1-(k+1)=C.length-k by omega,iL _ (by omega),k2,List.filter_append,List.filter_cons_of_neg q,List.filter_nil,List.append_nil]
  rw[hl]
  cases i with
  |zero=>rw[Nat.sub_zero,ug];exact Bool.eq_false_iff.2 q
  |succ i=>rw[show C.length+1-(i+1)=C.length-i by omega,iL _ (by omega)];exact k3 i (by omega)
 exact key C
theorem Lx (hn:l.Nodup)(hr:∀x∈l,kD l x (r x))(ht:t∈l)(hp:p t=true)(h:kD (l.filter p) t y):∃k,dx r (k+1) t=y/\∀i,i<k->p (dx r (i+1) t)=false:=by
 obtain⟨A,B,rfl⟩:=List.append_of_mem ht
 have e1:cW (A++t::B) (A.length:Int)=t::(B++A):=by
  unfold cW;rw[Int.toNat_natCast,List.drop_left,List.take_left];rfl
 have e2:cW ((A++t::B).filter p) ((A.filter p).length:Int)=t::(B++A).filter p:=by
  rw[List.filter_append,List.filter_cons_of_pos hp]
  unfold cW;rw[Int.toNat_natCast,List.drop_left,List.take_left,List.filter_append];rfl
 have h':kD (t::(B++A).filter p) t y:=by
  rw[<-e2]
  refine(jP (by omega) ?_).2 h
  rw[List.filter_append,List.length_append];omega
 have wB:∀x∈t::(B++A),kD (t::(B++A)) x (r x):=fun x hx=>by
  rw[<-e1]
  refine(jP (by omega) (by rw[List.length_append];omega)).2 (hr x ?_)
  simp only[List.mem_append,List.mem_cons] at hx ⊢
  rcases hx with q|q|q
  .exact .inr (.inl q)
  .exact .inr (.inr q)
  exact .inl q
 have T8:(t::(B++A)).Nodup:=by
  have:(A++t::B).Perm (t::(B++A)):=by
   have:=(List.perm_append_comm (l₁:=A) (l₂:=t::B));simpa using this
  exact(this.nodup_iff).1 hn
 generalize B++A=C at*
 have uB:∀j,j<(t::C).length->r ((t::C).getD j 0)=(t::C).getD ((j+C.length)%(C.length+1)) 0:=fun j hj=>by
  refine qj T8 (wB _ (ag hj)) ⟨j,hj,rfl,?_⟩
  rw[List.length_cons,show j+(C.length+1)-1=j+C.length by omega]
 have walk:∀i,i<=C.length->dx r (i+1) t=(t::C).getD (C.length-i) 0:=fun i=>by
  induction i with
  |zero=>
   intro _
   show r t=_
   have:=uB 0 (Nat.succ_pos _)
   rw[Nat.zero_add,Nat.mod_eq_of_lt (Nat.lt_succ_self _)] at this
   exact this
  |succ i ih=>
   intro hi
   show r (dx r (i+1) t)=_
   rw[ih (by omega),uB _ (by rw[List.length_cons];omega),show C.length-i+C.length=(C.length-(i+1))+(C.length+1) by omega,Nat.add_mod_right,Nat.mod_eq_of_lt (by omega)]
 obtain⟨k,k1,k2,k3⟩:=Lw (t:=t) (p:=p) C
 have hnf:(t::C.filter p).Nodup:=by
  have:=T8.sublist (List.Sublist.cons_cons t (List.filter_sublist (p:=p)))
  exact this
 have ey:y=(t::C.filter p).getD (C.filter p).length 0:=by
  refine qj hnf h' ⟨0,Nat.succ_pos _,rfl,?_⟩
  rw[List.length_cons,Nat.zero_add,Nat.add_sub_cancel,Nat.mod_eq_of_lt (Nat.lt_succ_self _)]
 exact⟨k,by rw[walk k k1,k2,ey],fun i hi=>by rw[walk i (by omega)];exact k3 i hi⟩
end
abbrev Ap (H l:List Int):List Int:=l.filter fun d=>hasB H (d/2)
section
variable {n:Int}{E:List (Int×Int)}{V H VG L:List Int}{T S U R:List (List Int)}{ds:List Int}{d e v:Int}
structure Ly (n:Int)(E:List (Int×Int))(V H VG L:List Int)(T S U R:List (List Int)):Prop where
 p:aM n E V H T S=0
 x:aM n E VG L U R=0
 e:∀e∈H,e∈L
 v:∀v∈V,v∈VG
 t:∀v∈V,kE (Ap H (U.getD v.toNat [])) (T.getD v.toNat [])=true
theorem Ly.res (h:Ly n E V H VG L T S U R)(hd:ak H d):JP (ko L H) (two (fG n E VG L U R)) (fG n E VG L U R d) (fG n E VG L U R (dA E H T d)):=by
 obtain⟨hp,hT,_⟩:=aU (aK (aX h.p).1)
 obtain⟨A9,hU,_⟩:=aU (aK (aX h.x).1)
 obtain⟨_,_,hHr,_⟩:=aJ hp
 have ht:=bI.2 hd
 have hv:=(bf hp ht).1
 have hpr:=ia hp hT hd
 have eS:=fU A9 hU (show ak L (an d) from h.e _ ht)
 have Bc:=hU.nd _ eS.2.1
 obtain⟨i,i0,i1,ei⟩:=vr (h.t _ hv)
 rw[ei] at hpr
 have hpr:=(jP i0 i1).1 hpr
 have hr:∀x∈U.getD (ah E (an d)).toNat [],kD (U.getD (ah E (an d)).toNat []) x (gU (dA E L U) x):=fun x hx=>by
  obtain⟨x1,x2⟩:=(hU.mem _ eS.2.1 x).1 hx
  have:=ia A9 hU (bI.2 x1)
  rwa[jX,show(ah E x).toNat=(ah E (an d)).toNat by rw[x2];rfl] at this
 have X9:(fun d:Int=>hasB H (d/2)) (an d)=true:=by
  show hasB H (an d/2)=true
  rw[fk hHr];exact decide_eq_true ht
 obtain⟨k,k1,k2⟩:=Lx Bc hr eS.2.2 X9 hpr
 have rX:=Qp h.x
 have hdL:ak L d:=h.e _ hd
 have e0:gU (dA E L U) (an d)=dA E L U d:=by show dA E L U (an (an d))=_;rw[jX]
 have ye:∀i,i<k->ko L H (dx (gU (dA E L U)) i (dA E L U d)/2):=fun i hi=>by
  have:=k2 i hi
  rw[rN,e0,fk hHr] at this
  exact⟨(uk rX (rX.jb _ hdL) i).1,of_decide_eq_false this⟩
 have:=(rX.fF (S:=ko L H) (rX.jb _ hdL) (k:=k) ye).2.2
 rw[rN,e0] at k1
 rw[k1,rX.left _ hdL] at this
 exact this
theorem Ly.tw2 (h:Ly n E V H VG L T S U R):TC L H VG ((List.range (aV n E VG L U R).length).map fun i:Nat=>(i:Int)) V ((List.range (aV n E V H T S).length).map fun i:Nat=>(i:Int)) (ah E) (dA E L U) (dA E H T) (fG n E VG L U R) (fG n E V H T S):=
 ⟨h.e,Qp h.x,Qp h.p,FF h.x,FF h.p,fun d hd=>h.res hd⟩
def qI (U:List (List Int))(k:Int):Int:=if k<0 then if 0<(U.getD (-1-k).toNat []).length then(U.getD (-1-k).toNat []).getD 0 0 else k else k
theorem Ly.pts (h:Ly n E V H VG L T S U R):Pts H ((List.range (aV n E VG L U R).length).map fun i:Nat=>(i:Int)) ((List.range (aV n E V H T S).length).map fun i:Nat=>(i:Int)) (ah E) (fG n E VG L U R) (fG n E V H T S) (fun k=>fG n E VG L U R (qI U k)) (BY E) (s9 V H T):=by
 obtain⟨hp,hT,_⟩:=aU (aK (aX h.p).1)
 refine⟨fun d hd=>⟨.inl hd,jO hp hd,?_⟩,fun k hk hn d hd e=>?_⟩
 .have:=(bf hp hd).2.1
  show fG n E VG L U R (qI U d)=_
  unfold qI;rw[if_neg (by omega)]
 rcases hk with q|⟨v,hv,h0,rfl⟩
 .exact hn q
 rw[kL hp hv] at e
 have:=(fU hp hT hd).2.2
 rw[e,List.eq_nil_of_length_eq_zero h0] at this;cases this
theorem Ly.pl (h:Ly n E V H VG L T S U R){k:Int}(hk:s9 V H T k):s9 VG L U (qI U k):=by
 obtain⟨hp,hT,_⟩:=aU (aK (aX h.p).1)
 obtain⟨A9,hU,_⟩:=aU (aK (aX h.x).1)
 obtain⟨_,hV',_,_⟩:=aJ A9
 rcases hk with q|⟨v,hv,h0,rfl⟩
 .have:=(bf hp q).2.1
  unfold qI;rw[if_neg (by omega)]
  exact .inl (h.e _ q)
 have hb:=(aA.1 hV').2 _ (h.v v hv)
 have hl:=hU.len
 unfold qI
 rw[if_pos (by omega),show -1-(-1-v)=v by omega]
 by_cases q:0<(U.getD v.toNat []).length
 .rw[if_pos q]
  exact .inl ((hU.mem v.toNat (by omega) _).1 (ag q)).1
 rw[if_neg q]
 exact .inr ⟨v,h.v v hv,by omega,rfl⟩
theorem FG {L H:List Int}{tl f lf:Int->Int}(r:vq L tl f lf)(hc:iG tl H ds)(hd:ak L d)(he:ak L e)(ht:tl d=tl e)(jU:∀j,j<ds.length->tl (ds.getD j 0)≠tl d):JP (Ao L ds) (two lf) (lf d) (lf e):=by
 obtain⟨k,hk⟩:=r.one d e hd he ht
 have:=(r.fF (S:=Ao L ds) hd (k:=k) fun i _=>by
  obtain⟨a,b⟩:=uk r hd i
  refine⟨a,fun q=>?_⟩
  obtain⟨j,hj,ej⟩:=q
  rcases xA ej.symm with w|w
  .exact jU j hj (by rw[<-w,b])
  by_cases z:j+1<ds.length
  .exact jU (j+1) z (by rw[<-hc.X8 z,<-w,b])
  exact jU 0 hc.ne (by rw[<-hc.lst,show ds.length-1=j by omega,<-w,b])).2.2
 rwa[hk] at this
theorem JU {e:Int}:(af (BI ds ds.length) e).isSome=false↔¬zR ds e:=by
 have h:=Qw (ds:=ds) (e:=e) (k:=ds.length)
 constructor
 .intro q z
  rw[h.2 z] at q;cases q
 intro q
 exact Bool.eq_false_iff.2 fun z=>q (h.1 z)
theorem TK (a b:Int):pM (Ts (aq n E V L T S) (BI ds ds.length) L L.length) a b↔JP (Ao L ds) (two (fG n E V L T S)) a b:=by
 refine pM.iff fun a b=>?_
 constructor
 .rintro⟨j,hj,ho,ha,hb⟩
  exact⟨_,⟨ag hj,JU.1 ho⟩,ha,hb⟩
 rintro⟨f,⟨hf,ho⟩,ha,hb⟩
 obtain⟨j,hj,rfl⟩:=aB (z:=(0:Int)).1 hf
 exact⟨j,hj,JU.2 ho,ha,hb⟩
def zB (T:List (List Int))(v:Int):Int:=if 0<(T.getD v.toNat []).length then(T.getD v.toNat []).getD 0 0 else -1-v
theorem JV (h:aM n E V L T S=0)(hc:mu n E V L ds=true)(hv:v∈V)(ho:Wc E ds v=true):af (sS n E V L T S ds) v=some 0:=by
 unfold sS ue
 rw[if_pos (by rw[hc,decide_eq_true h];rfl),uw]
 exact if_pos ho
theorem ux (h:aM n E V L T S=0)(hc:mu n E V L ds=true)(hv:v∈V)(ho:Wc E ds v=false):∃s,af (sS n E V L T S ds) v=some s/\(s=1\/s=2)/\(s=1↔Lf L ds (fG n E V L T S) (fG n E V L T S (zB T v))):=by
 have kf:=aK (aX h).1
 have hu:=(wg kf).1
 obtain⟨hp,hT,_⟩:=aU kf
 obtain⟨_,hV,_,_⟩:=aJ hp
 have hk:s9 V L T (zB T v):=by
  unfold zB
  by_cases q:0<(T.getD v.toNat []).length
  .rw[if_pos q]
   have hb:=(aA.1 hV).2 _ hv
   have hl:=hT.len
   exact .inl ((hT.mem v.toNat (by omega) _).1 (ag q)).1
  rw[if_neg q];exact .inr ⟨v,hv,by omega,rfl⟩
 obtain⟨w,hw,hon⟩:=zx kf hk
 obtain⟨i,_,_,_,hi⟩:=sY h hw
 have hi:=hi _ hon
 refine⟨Jh (dF (aq n E V L T S) L ds) (fG n E V L T S (ds.getD 0 0)) (fG n E V L T S (zB T v)),?_,?_,?_⟩
 .unfold sS ue
  rw[if_pos (by rw[hc,decide_eq_true h];rfl),uw,if_neg,zA (Nat.le_refl _),List.take_length,if_pos hv,vn hc h,O1]
  .show some (((af (aq n E V L T S) (zB T v)).map _).getD 0)=_
   show _=some (Jh _ ((af (aq n E V L T S) (ds.getD 0 0)).getD 0) ((af (aq n E V L T S) (zB T v)).getD 0))
   rw[hi];rfl
  show ¬Wc E ds v=true
  rw[ho];decide
 .unfold Jh;split
  .exact .inl rfl
  exact .inr rfl
 rw[Tu,TK]
def aal (n:Int)(E:List (Int×Int))(V H VG L:List Int)(T S U R:List (List Int)):Prop:=
 ∀w∈(aa n E V H T).1,∀c∈eR n E w.2,∀v∈V,Wc E c v=false->(Lf H c (fG n E V H T S) (fG n E V H T S (zB T v))↔Lf L c (fG n E VG L U R) (fG n E VG L U R (zB U v)))
def abF (n:Int)(E:List (Int×Int))(V H VG L:List Int)(T S U R:List (List Int)):Prop:=
 ∀w∈(aa n E V H T).1,∀u∈(aa n E V H T).1,((w.1=u.1\/∃l∈S,w.1∈l/\u.1∈l)↔JP (ko L H) (two (fG n E VG L U R)) (fG n E VG L U R (qI U w.1)) (fG n E VG L U R (qI U u.1)))
theorem JW {c:List Int}:Wc E c v=false↔∀j,j<c.length->ah E (c.getD j 0)≠v:=
 ⟨fun h j hj e=>of_decide_eq_false h ⟨j,hj,e⟩,fun h=>decide_eq_false fun⟨j,hj,e⟩=>h j hj e⟩
theorem Ly.pu (h:Ly n E V H VG L T S U R)(hv:v∈V):qI U (-1-v)=zB U v:=by
 obtain⟨hp,_,_⟩:=aU (aK (aX h.p).1)
 obtain⟨_,hV,_,_⟩:=aJ hp
 have:=(aA.1 hV).2 _ hv
 unfold qI zB
 rw[if_pos (by omega),show -1-(-1-v)=v by omega]
theorem Ly.agree (h:Ly n E V H VG L T S U R):aal n E V H VG L T S U R↔abF n E V H VG L T S U R:=by
 have FH:=aK (aX h.p).1
 have hwx:=aK (aX h.x).1
 obtain⟨hp,hT,hW⟩:=aU FH
 obtain⟨A9,hU,_⟩:=aU hwx
 obtain⟨_,hV,_,_⟩:=aJ hp
 have hu:=(wg FH).1
 have h2:=h.tw2
 have X9:=h.pts
 have ug:∀v∈V,s9 V H T (zB T v)/\BY E (zB T v)=v:=fun v hv=>by
  have hb:=(aA.1 hV).2 _ hv
  have hl:=hT.len
  unfold zB
  by_cases q:0<(T.getD v.toNat []).length
  .rw[if_pos q]
   obtain⟨m1,m2⟩:=(hT.mem v.toNat (by omega) _).1 (ag (d:=0) q)
   exact⟨.inl m1,by rw[jO hp m1,m2];omega⟩
  rw[if_neg q];exact⟨.inr ⟨v,hv,by omega,rfl⟩,kL hp hv⟩
 have Xf:∀v∈V,∀d,ak H d->ah E d=v->ak L (zB U v)/\ah E (zB U v)=v:=fun v hv d hd e=>by
  have eS:=fU A9 hU (show ak L d from h.e _ hd)
  rw[e] at eS
  have q:0<(U.getD v.toNat []).length:=List.length_pos_of_mem eS.2.2
  unfold zB
  rw[if_pos q]
  obtain⟨m1,m2⟩:=(hU.mem v.toNat eS.2.1 _).1 (ag (d:=0) q)
  exact⟨m1,by rw[m2];omega⟩
 have bp:∀c,iG (ah E) H c->∀k,s9 V H T k->(∀j,j<c.length->ah E (c.getD j 0)≠BY E k)->(Lf H c (fG n E V H T S) (fG n E V H T S k)↔Lf H c (fG n E V H T S) (fG n E V H T S (zB T (BY E k))))/\(Lf L c (fG n E VG L U R) (fG n E VG L U R (qI U k))↔Lf L c (fG n E VG L U R) (fG n E VG L U R (zB U (BY E k)))):=fun c hc k hk jU=>by
  rcases hk with q|⟨v,hv,h0,rfl⟩
  .rw[jO hp q] at jU ⊢
   have hv:=(bf hp q).1
   have hk0:=(bf hp q).2.1
   obtain⟨a1,a2⟩:=ug _ hv
   have ad:ak H (zB T (ah E k)):=by
    rcases a1 with w|⟨u,FX,w0,w1⟩
    .exact w
    exfalso
    rw[w1,kL hp FX] at a2
    have:=(fU hp hT q).2.2
    rw[<-a2,List.eq_nil_of_length_eq_zero w0] at this;cases this
   rw[jO hp ad] at a2
   obtain⟨b1,b2⟩:=Xf _ hv k q rfl
   have j1:=FG h2.rp hc q ad a2.symm jU
   have j2:=FG h2.rx hc (show ak L k from h.e _ q) b1 b2.symm jU
   have e:qI U k=k:=by unfold qI;rw[if_neg (by omega)]
   rw[e]
   exact⟨⟨fun w=>j1.sy.tr w,fun w=>j1.tr w⟩,⟨fun w=>j2.sy.tr w,fun w=>j2.tr w⟩⟩
  rw[kL hp hv,h.pu hv]
  have:zB T v= -1-v:=by unfold zB;rw[if_neg (by omega)]
  rw[this]
  exact⟨Iff.rfl,Iff.rfl⟩
 constructor
 .intro hA w hw u FX
  have hkw:=(zy FH hw).1
  have hku:=(zy FH FX).1
  rw[<-HP h.p hw FX (zw FH hw) (zw FH FX)]
  refine h2.back X9 (HS FH fun d hd=>h.res hd) (HS FH fun d hd=>by rw[FE h.p hd];exact .id _) (fun k k' hk zS=>zz h.x (h.pl hk) (h.pl zS)) (fun k k' hk zS=>zz h.p hk zS) (fun l hl c hc k hk jU=>?_) hkw hku
  obtain⟨w',zK,rfl⟩:=List.mem_map.1 hl
  have An:=(sZ FH zK hc).1
  obtain⟨b1,b2⟩:=bp c An k hk jU
  rw[b1,b2]
  exact hA w' zK c hc _ (Qq hp hk) (JW.2 jU)
 intro hR w hw c hc v hv jU
 have An:=(sZ FH hw hc).1
 obtain⟨a1,a2⟩:=ug v hv
 have dL:∀k k',s9 V H T k->s9 V H T k'->(fG n E V H T S k=fG n E V H T S k'↔JP (ko L H) (two (fG n E VG L U R)) (fG n E VG L U R (qI U k)) (fG n E VG L U R (qI U k'))):=fun k k' hk zS=>by
  obtain⟨x,hx,ox⟩:=zx FH hk
  obtain⟨y,hy,oy⟩:=zx FH zS
  have wX:=HS (L:=L) (lf:=fG n E VG L U R) FH fun d hd=>h.res hd
  have mv:∀(z:Int×List Int),z∈(aa n E V H T).1->∀k,Dj z k->JP (ko L H) (two (fG n E VG L U R)) (fG n E VG L U R (qI U k)) (fG n E VG L U R (qI U z.1)):=fun z hz k ok=>by
   rcases ok with q|⟨_,q⟩
   .have cO:z.2.length≠0:=fun w=>by rw[List.eq_nil_of_length_eq_zero w] at q;cases q
    obtain⟨o1,_,o2⟩:=Dn FH hz cO
    have d1:=(bf hp ((o2 _).1 o1).1).2.1
    have d2:=(bf hp ((o2 _).1 q).1).2.1
    have e1:qI U k=k:=by unfold qI;rw[if_neg (by omega)]
    have e2:qI U z.1=z.1:=by unfold qI;rw[if_neg (by omega)]
    rw[e1,e2]
    exact wX.one z.2 (List.mem_map.2 ⟨z,hz,rfl⟩) k q z.1 o1
   rw[q];exact .id _
  rw[HP h.p hx hy ox oy,hR x hx y hy]
  have m1:=mv x hx k ox
  have m2:=mv y hy k' oy
  exact⟨fun q=>m1.tr (q.tr m2.sy),fun q=>m1.sy.tr (q.tr m2)⟩
 have:=HJ h.e X9 dL An a1
 have aam:=JW.1 jU
 obtain⟨_,b2⟩:=bp c An _ a1 (by rw[a2];exact aam)
 rw[this,b2,a2]
end
end Go.Proofs.YtnfdimfepbbbpaaGreat
namespace Go.Proofs.YtnfdimfepbbbpaaGreat
open Go.RowKit
open Go.Proofs.YtnfdimfepbbbpaaGreat.Deep
section
variable {l a b:List Int}{i j:Int}
theorem Qx {a b:List Int}(h:a.length=b.length)(k:∀i,i<a.length->a.getD i 0=b.getD i 0):a=b:=List.ext_getElem h fun i h1 h2=>by
 have:=k i h1
 rwa[getD_eq h1,getD_eq h2] at this
theorem B3 (h0:0<=i)(h1:i<=(l.length:Int))(k0:0<=j)(k1:j<=(l.length:Int)):∃k:Int,0<=k/\k<=(l.length:Int)/\cW (cW l i) j=cW l k:=by
 have hl:=gr h0 h1
 by_cases q:l.length=0
 .refine⟨0,Int.le_refl _,by omega,?_⟩
  rw[List.eq_nil_of_length_eq_zero q];unfold cW;simp
 refine⟨(((i.toNat+j.toNat)%l.length:Nat):Int),by omega,by have:=Nat.mod_lt (i.toNat+j.toNat) (Nat.pos_of_ne_zero q);omega,?_⟩
 have hm:=Nat.mod_lt (i.toNat+j.toNat) (Nat.pos_of_ne_zero q)
 refine Qx ?_ fun k hk=>?_
 .rw[gr k0 (by rw[hl];exact k1),hl,gr (by omega) (by omega)]
 rw[gr k0 (by rw[hl];exact k1),hl] at hk
 rw[jW k0 (by rw[hl];exact k1) (by rw[hl];exact hk),hl,jW h0 h1 (Nat.mod_lt _ (by omega)),jW (by omega) (by omega) hk]
 congr 1
 rw[Int.toNat_natCast,Nat.mod_add_mod,Nat.add_mod_mod]
 congr 1;omega
theorem FI (h0:0<=i)(h1:i<=(l.length:Int))(hl:0<l.length):∃k:Nat,k<l.length/\cW l i=cW l (k:Int):=by
 by_cases q:i=(l.length:Int)
 .refine⟨0,hl,?_⟩
  subst q
  unfold cW;simp
 exact⟨i.toNat,by omega,by rw[Int.toNat_of_nonneg h0]⟩
theorem vt {l:List Int}:∀ {k:Nat},k<=l.length->∀j,j<k->l.getD (gN l k).toNat 0<=l.getD j 0
 |k+1,hk,j,hj=>by
  unfold gN
  split
  .rename_i q
   rw[Int.toNat_natCast]
   by_cases e:j=k
   .subst e;exact Int.le_refl _
   have:=vt (l:=l) (k:=k) (by omega) j (by omega);omega
  rename_i q
  by_cases e:j=k
  .subst e;omega
  exact vt (l:=l) (by omega) j (by omega)
theorem zC (h:0<l.length):(aI l).getD 0 0∈l/\∀x∈l,(aI l).getD 0 0<=x:=by
 refine⟨sI (ag (by rw[di];exact h)),fun x hx=>?_⟩
 obtain⟨j,hj,rfl⟩:=aB (z:=(0:Int)).1 hx
 have hb:=lz l l.length
 unfold aI
 rw[jW hb.1 (by omega) h,Nat.zero_add]
 have:=vt (l:=l) (Nat.le_refl _) j hj
 by_cases q:gN l l.length=0
 .rw[q] at this ⊢;rw[show(0:Int).toNat=0 from rfl,Nat.zero_mod];exact this
 rw[Nat.mod_eq_of_lt (by omega)];exact this
theorem FJ {x:Int}:x∈cW l i↔x∈l:=by
 unfold cW
 rw[List.mem_append]
 conv=>rhs;rw[<-List.take_append_drop i.toNat l,List.mem_append]
 exact Or.comm
theorem sk (hn:l.Nodup)(h0:0<=i)(h1:i<=(l.length:Int)):aI (cW l i)=aI l:=by
 by_cases q:l.length=0
 .rw[List.eq_nil_of_length_eq_zero q];unfold cW;simp
 have hl:=gr h0 h1
 obtain⟨j,j0,j1,ej⟩:=jG (cW l i)
 rw[hl] at j1
 obtain⟨k,k0,k1,ek⟩:=B3 h0 h1 j0 j1
 obtain⟨m,m1,em⟩:=FI k0 k1 (by omega)
 obtain⟨p,p0,p1,ep⟩:=jG l
 obtain⟨r,r1,er⟩:=FI p0 p1 (by omega)
 have ea:=(ej.trans ek).trans em
 have eb:=ep.trans er
 obtain⟨a1,a2⟩:=zC (l:=cW l i) (by omega)
 obtain⟨b1,b2⟩:=zC (l:=l) (by omega)
 have j9:(aI (cW l i)).getD 0 0=(aI l).getD 0 0:=by
  have:=a2 _ (FJ.2 b1)
  have:=b2 _ (FJ.1 a1)
  omega
 rw[ea,eb,jW (by omega) (by omega) (by omega),jW (by omega) (by omega) (by omega),Nat.zero_add,Nat.zero_add,Int.toNat_natCast,Int.toNat_natCast,Nat.mod_eq_of_lt m1,Nat.mod_eq_of_lt r1] at j9
 rw[ea,eb,dW hn m1 r1 j9]
theorem wh (hn:l.Nodup):aI (aI l)=aI l:=by
 obtain⟨i,i0,i1,e⟩:=jG l
 conv=>lhs;rw[e]
 exact sk hn i0 i1
theorem oV (hn:a.Nodup):kE a b=true↔aI a=aI b:=by
 constructor
 .intro h
  obtain⟨i,i0,i1,rfl⟩:=vr h
  exact(sk hn i0 i1).symm
 intro h
 obtain⟨i,i0,i1,e⟩:=jG a
 obtain⟨j,j0,j1,e'⟩:=jG b
 have hlen:a.length=b.length:=by rw[<-di a,<-di b,h]
 have hb:=B0 j0 j1
 rw[<-e',<-h,e] at hb
 obtain⟨k,k0,k1,ek⟩:=B3 (l:=a) i0 i1 (j:=(b.length:Int)-j) (by omega) (by omega)
 rw[ek] at hb
 rw[<-hb]
 exact Lv k0 k1
end
def toT (H:List Int)(U:List (List Int)):List (List Int):=U.map fun l=>aI (Ap H l)
theorem toT_len (H:List Int)(U:List (List Int)):(toT H U).length=U.length:=List.length_map ..
theorem toT_at {H:List Int}{U:List (List Int)}{v:Nat}(hv:v<U.length):(toT H U).getD v []=aI (Ap H (U.getD v [])):=lE hv _ _
section
variable {n:Int}{E:List (Int×Int)}{V H VG L:List Int}{T S U R:List (List Int)}{d v:Int}
theorem toT_turns (hp:aS n E V H=0)(hs:∀e∈H,e∈L)(hU:fB n E L U):fB n E H (toT H U):=by
 obtain⟨_,_,hH,_⟩:=aJ hp
 refine⟨by rw[toT_len];exact hU.len,fun v hv=>?_,fun v hv d=>?_⟩
 .rw[toT_len] at hv
  rw[toT_at hv]
  exact qm ((hU.nd v hv).filter _)
 rw[toT_len] at hv
 rw[toT_at hv,ny,List.mem_filter,hU.mem v hv,fk hH,decide_eq_true_eq]
 exact⟨fun q=>⟨q.2,q.1.2⟩,fun q=>⟨⟨hs _ q.1,q.2⟩,q.1⟩⟩
theorem toT_walks (hp:aS n E V H=0)(hs:∀e∈H,e∈L)(hU:fB n E L U):(aa n E V H (toT H U)).2=0:=by
 rw[fm];exact sJ hp (toT_turns hp hs hU)
theorem B4 {f g:Int->Int}{D:List Int}{N:Nat}(h:∀x∈D,f x=g x)(hg:Dm D g):∀ {k:Nat},k<=D.length->Bo f D N k=Bo g D N k
 |0,_=>rfl
 |k+1,hk=>by
  have ih:=B4 (N:=N) h hg (k:=k) (by omega)
  have hx:D.getD k 0∈D:=ag (by omega)
  have XW:=nV h hg hx
  have hpd:dZ f (D.getD k 0) N=dZ g (D.getD k 0) N:=by
   unfold dZ
   simp only[XW]
  have Fy:∀p,jm f (D.getD k 0) p=jm g (D.getD k 0) p:=fun p=>by
   unfold jm
   exact List.map_congr_left fun i _=>XW i
  have Ls:∀p,lI f (D.getD k 0) p=lI g (D.getD k 0) p:=fun p=>by
   unfold lI
   simp only[XW]
  unfold Bo
  rw[ih,hpd,Ls,Fy]
theorem HT {T T':List (List Int)}(hp:aS n E V H=0)(hT:fB n E H T)(hT':fB n E H T')(h:∀v∈V,kE (T.getD v.toNat []) (T'.getD v.toNat [])=true):(aa n E V H T).1=(aa n E V H T').1:=by
 have h1:=sJ hp hT
 have h2:=sJ hp hT'
 rw[iW h1,iW h2]
 have hD:∀x∈b8 H H.length,ak H x:=fun x hx=>(aN x).1 hx
 have hq:Dm (b8 H H.length) (dA E H T'):=⟨fun x hx=>(aN _).2 (dJ hp hT' (hD x hx)).1,fun x hx y hy e=>jY hp hT' (hD x hx) (hD y hy) e⟩
 have e1:∀x∈b8 H H.length,eF E T' x=dA E H T' x:=fun x hx=>fL hp hT' (hD x hx)
 have e2:∀x∈b8 H H.length,eF E T x=eF E T' x:=fun x hx=>by
  rw[fL hp hT (hD x hx),e1 x hx]
  have a:=ia hp hT (hD x hx)
  have b:=ia hp hT' (hD x hx)
  have hv:=(bf hp (bI.2 (hD x hx))).1
  obtain⟨i,i0,i1,ei⟩:=vr (h _ hv)
  rw[ei] at b
  exact qj (hT.nd _ (fU hp hT (bI.2 (hD x hx))).2.1) a ((jP i0 i1).1 b)
 rw[B4 e2 (nW e1 hq) (Nat.le_refl _)]
 have:∀k,k<=V.length->sK V T k=sK V T' k:=fun k=>by
  induction k with
  |zero=>exact fun _=>rfl
  |succ k ih=>
   intro hk
   have hv:V.getD (V.length-1-k) 0∈V:=ag (by omega)
   have hl:(T.getD (V.getD (V.length-1-k) 0).toNat []).length=(T'.getD (V.getD (V.length-1-k) 0).toNat []).length:=(of_decide_eq_true (p:=Fe _ _) (h _ hv)).1
   unfold sK
   rw[ih (by omega),hl]
 rw[this _ (Nat.le_refl _)]
end
open Classical in
noncomputable def jo (R:Int×List Int->Int×List Int->Prop) (W:List (Int×List Int)) (w:Int×List Int):List Int:=(W.filter fun u=>decide (R w u)).map (·.1)
open Classical in
noncomputable def toG (R:Int×List Int->Int×List Int->Prop) (W:List (Int×List Int)):List (List Int):=(W.filter fun w=>decide ((jo R W w).getD 0 0=w.1/\1<(jo R W w).length)).map (jo R W)
structure TL (R:Int×List Int->Int×List Int->Prop)(W:List (Int×List Int)):Prop where
 r:∀w∈W,R w w
 s:∀ {u w},R u w->R w u
 t:∀ {u v w},R u v->R v w->R u w
 a:W.Pairwise fun x y=>x.1<y.1
section
variable {R:Int×List Int->Int×List Int->Prop}{W:List (Int×List Int)}{w u:Int×List Int}{S:List (List Int)}
open Classical in
theorem fO {x:Int}:x∈jo R W w↔∃u∈W,R w u/\u.1=x:=by
 unfold jo
 rw[List.mem_map]
 constructor
 .rintro⟨u,hu,e⟩
  have:=List.mem_filter.1 hu
  exact⟨u,this.1,of_decide_eq_true this.2,e⟩
 rintro⟨u,hu,h,e⟩
 exact⟨u,List.mem_filter.2 ⟨hu,decide_eq_true h⟩,e⟩
theorem Dq (h:TL R W)(hw:w∈W)(hu:u∈W)(e:w.1=u.1):w=u:=by
 obtain⟨i,hi,rfl⟩:=List.getElem_of_mem hw
 obtain⟨j,hj,rfl⟩:=List.getElem_of_mem hu
 rcases Nat.lt_trichotomy i j with q|q|q
 .have:=List.pairwise_iff_getElem.1 h.a i j hi hj q;omega
 .subst q;rfl
 have:=List.pairwise_iff_getElem.1 h.a j i hj hi q;omega
theorem uy (h:TL R W):EB (jo R W w):=List.pairwise_map.2 (h.a.sublist List.filter_sublist)
theorem TM (h:TL R W)(q:R w u):jo R W w=jo R W u:=by
 refine IN (uy h) (uy h) fun x=>?_
 rw[fO,fO]
 exact⟨fun⟨v,hv,r,e⟩=>⟨v,hv,h.t (h.s q) r,e⟩,fun⟨v,hv,r,e⟩=>⟨v,hv,h.t q r,e⟩⟩
theorem Lz (h:TL R W)(hw:w∈W):∃u∈W,R w u/\(jo R W u).getD 0 0=u.1/\jo R W u=jo R W w:=by
 have hm:w.1∈jo R W w:=fO.2 ⟨w,hw,h.r w hw,rfl⟩
 obtain⟨u,hu,r,e⟩:=fO.1 (ag (l:=jo R W w) (i:=0) (d:=0) (List.length_pos_of_mem hm))
 have:=TM h r
 exact⟨u,hu,r,by rw[<-this,e],this.symm⟩
theorem xD (h:TL R W){x:List Int}:x∈toG R W↔∃w∈W,jo R W w=x/\1<x.length:=by
 unfold toG
 rw[List.mem_map]
 constructor
 .rintro⟨w,hw,e⟩
  have:=List.mem_filter.1 hw
  exact⟨w,this.1,e,e▸(of_decide_eq_true this.2).2⟩
 rintro⟨w,hw,e,hl⟩
 obtain⟨u,hu,_,h1,h2⟩:=Lz h hw
 exact⟨u,List.mem_filter.2 ⟨hu,decide_eq_true ⟨h1,by rw[h2,e];exact hl⟩⟩,h2.trans e⟩
theorem toG_asc (h:TL R W):(toG R W).Pairwise fun x y=>x.getD 0 0<y.getD 0 0:=by
 unfold toG
 refine List.pairwise_map.2 ((h.a.sublist List.filter_sublist).imp_of_mem fun {a b} ha hb j9=>?_)
 have h1:=(of_decide_eq_true (List.mem_filter.1 ha).2).1
 have h2:=(of_decide_eq_true (List.mem_filter.1 hb).2).1
 rw[h1,h2];exact j9
theorem toG_eq (h:TL R W)(ha:S.Pairwise fun x y=>x.getD 0 0<y.getD 0 0)(hl:∀l∈S,EB l/\2<=l.length)(hk:∀l∈S,∀x∈l,∃w∈W,w.1=x)(hd:∀l∈S,∀m∈S,∀x,x∈l->x∈m->l=m):
  toG R W=S↔∀w∈W,∀u∈W,((w.1=u.1\/∃l∈S,w.1∈l/\u.1∈l)↔R w u):=by
 constructor
 .intro e w hw u hu
  constructor
  .rintro(q|⟨l,LA,q1,q2⟩)
   .rw[Dq h hw hu q];exact h.r u hu
   rw[<-e] at LA
   obtain⟨z,hz,rfl,_⟩:=(xD h).1 LA
   obtain⟨a,ha',r1,e1⟩:=fO.1 q1
   obtain⟨b,mX,r2,e2⟩:=fO.1 q2
   rw[Dq h ha' hw e1] at r1
   rw[Dq h mX hu e2] at r2
   exact h.t (h.s r1) r2
  intro r
  by_cases q:w.1=u.1
  .exact .inl q
  right
  have m1:w.1∈jo R W w:=fO.2 ⟨w,hw,h.r w hw,rfl⟩
  have m2:u.1∈jo R W w:=fO.2 ⟨u,hu,r,rfl⟩
  refine⟨jo R W w,?_,m1,m2⟩
  rw[<-e]
  refine(xD h).2 ⟨w,hw,rfl,?_⟩
  have hn:[w.1,u.1].Nodup:=by simp[q]
  have:=hn.length_le_of_subset (l₂:=jo R W w) fun x hx=>by
   rcases List.mem_cons.1 hx with z|z
   .rw[z];exact m1
   rw[List.mem_singleton.1 z];exact m2
  exact this
 intro hR
 have key:∀l∈S,∀w∈W,w.1∈l->l=jo R W w:=fun l LA w hw hwl=>by
  refine IN (hl l LA).1 (uy h) fun x=>?_
  rw[fO]
  constructor
  .intro hx
   obtain⟨u,hu,e⟩:=hk l LA x hx
   exact⟨u,hu,(hR w hw u hu).1 (.inr ⟨l,LA,hwl,by rw[e];exact hx⟩),e⟩
  rintro⟨u,hu,r,rfl⟩
  rcases(hR w hw u hu).2 r with q|⟨m,hm,q1,q2⟩
  .rw[<-q];exact hwl
  rw[hd l LA m hm _ hwl q1];exact q2
 refine uj (f:=fun x:List Int=>x.getD 0 0) (toG_asc h) ha fun x=>?_
 rw[xD h]
 constructor
 .rintro⟨w,hw,rfl,hlen⟩
  have hm:w.1∈jo R W w:=fO.2 ⟨w,hw,h.r w hw,rfl⟩
  have:∃y∈jo R W w,y≠w.1:=Classical.byContradiction fun z=>by
   have:=(gq (uy h (w:=w))).length_le_of_subset (l₂:=[w.1]) fun y hy=>List.mem_singleton.2 (Classical.byContradiction fun q=>z ⟨y,hy,q⟩)
   simp at this;omega
  obtain⟨y,hy,cO⟩:=this
  obtain⟨u,hu,r,rfl⟩:=fO.1 hy
  rcases(hR w hw u hu).2 r with q|⟨l,LA,q1,_⟩
  .exact absurd q.symm cO
  rw[<-key l LA w hw q1];exact LA
 intro hx
 have h2:=(hl x hx).2
 have hm:=ag (l:=x) (i:=0) (d:=0) (by omega)
 obtain⟨w,hw,e⟩:=hk x hx _ hm
 exact⟨w,hw,(key x hx w hw (by rw[e];exact hm)).symm,by omega⟩
end
end Go.Proofs.YtnfdimfepbbbpaaGreat
namespace Go.Proofs.YtnfdimfepbbbpaaGreat
open Go.RowKit
open Go.Proofs.YtnfdimfepbbbpaaGreat.Deep
structure L4 (left:fR)(lf:Int->Bool)(s:S4):Prop where
 ok:lM s
 rl:∀a b,Rl s a b->a=b
 all:∀k v,af left k=some v->lf k=false->(af s.1 v).isSome=true
 bd:∀x∈s.2.1,0<=x/\x<=100000
section
variable {left:fR}{lf:Int->Bool}{s s0:S4}{x y v a b:Int}{H L:List Int}
theorem L4.start:L4 left (fun z=>(af left z).isSome) ([],[],[],0):=
 ⟨lM.nil,fun a b ⟨i,_,h,_⟩=>(by cases h),fun k v h q=>(by rw[h] at q;cases q),fun x h=>(by cases h)⟩
theorem Qy {M:fR}{K:List Int}:(af (bD M K x) x).isSome=true:=by
 unfold bD
 split
 .rename_i q;exact q
 rw[bK,if_pos rfl];rfl
theorem LB {M:fR}{K:List Int}(h:(af M y).isSome=true):(af (bD M K x) y).isSome=true:=by
 unfold bD
 split
 .exact h
 rw[bK];split
 .rfl
 exact h
theorem L4.step (h:L4 left lf s)(hv:af left x=some v)(hb:0<=v/\v<=100000):L4 left (fun z=>lf z && !decide (z=x)) (cI s v):=by
 obtain⟨a1,a2⟩:=h.ok.add v
 refine⟨a1,fun a b q=>?_,fun k u hk q=>?_,fun y hy=>?_⟩
 .rcases(a2 a b).1 q with w|⟨w1,w2⟩
  .exact h.rl a b w
  rw[w1,w2]
 .rcases BL q with z|z
  .exact LB (h.all k u hk z)
  subst z
  rw[hv] at hk;cases hk
  exact Qy
 have hy:y∈bT s.1 s.2.1 v:=hy
 unfold bT at hy
 split at hy
 .exact h.bd y hy
 rcases List.mem_append.1 hy with w|w
 .exact h.bd y w
 rw[List.mem_singleton.1 w];exact hb
theorem Qz {M:fR}{K U:List Int}(h:gT M K U):K.Nodup:=by
 rw[List.nodup_iff_pairwise_ne,List.pairwise_iff_getElem]
 intro i j hi hj wD e
 have h1:=h.ex i hi
 have h2:=h.ex j hj
 rw[getD_eq hi] at h1
 rw[getD_eq hj,<-e] at h2
 rw[h1] at h2
 have:(i:Int)=j:=by injection h2
 omega
theorem Xg {K:List Int}(hn:K.Nodup)(h:∀x∈K,0<=x/\x<=100000):K.length<=100001:=by
 have:=hn.length_le_of_subset (l₂:=(List.range 100001).map fun i:Nat=>(i:Int)) fun x hx=>by
  have:=h x hx
  exact List.mem_map.2 ⟨x.toNat,List.mem_range.2 (by omega),by omega⟩
 rwa[List.length_map,List.length_range] at this
theorem L4.len (h:L4 left lf s):s.2.1.length<=100001:=Xg (Qz h.ok.rep) h.bd
def jH (left:fR)(H L:List Int)(s:S4):Nat->S4
 |0=>s
 |k+1=>if hasB H (L.getD k 0)=true then jH left H L s k else Bz (jH left H L s k) ((af left (2*L.getD k 0)).getD 0) ((af left (2*L.getD k 0+1)).getD 0)
theorem Xh {i:Int}(h0:0<=i)(h:hasB H (L.getD i.toNat 0)=true):jH left H L s (i+1).toNat=jH left H L s i.toNat:=by
 rw[show(i+1).toNat=i.toNat+1 by omega];exact if_pos h
theorem aan {i:Int}(h0:0<=i)(h:hasB H (L.getD i.toNat 0)=false):jH left H L s (i+1).toNat=Bz (jH left H L s i.toNat) ((af left (2*L.getD i.toNat 0)).getD 0) ((af left (2*L.getD i.toNat 0+1)).getD 0):=by
 rw[show(i+1).toNat=i.toNat+1 by omega];exact if_neg (by rw[h];decide)
structure JhI (s0 s:S4):Prop where
 ok:lM s
 m:s.1=s0.1
 l:s.2.1=s0.2.1
theorem JhI.jn (h:JhI s0 s)(hx:(af s0.1 x).isSome=true)(hy:(af s0.1 y).isSome=true):JhI s0 (Bz s x y):=by
 rw[<-h.m] at hx hy
 refine⟨(h.ok.jn x y).1,?_,?_⟩
 .show bD (bD s.1 s.2.1 x) (bT s.1 s.2.1 x) y=_
  rw[oL hx,oL hy,h.m]
 show bT (bD s.1 s.2.1 x) (bT s.1 s.2.1 x) y=_
 rw[oL hx,xg hx,xg hy,h.l]
def UZ (left:fR)(H L:List Int)(k:Nat)(a b:Int):Prop:=∃j,j<k/\hasB H (L.getD j 0)=false/\a=(af left (2*L.getD j 0)).getD 0/\b=(af left (2*L.getD j 0+1)).getD 0
theorem FK (h0:lM s0)(hr:∀a b,Rl s0 a b->a=b)(hl:∀e∈L,(af s0.1 ((af left (2*e)).getD 0)).isSome=true/\(af s0.1 ((af left (2*e+1)).getD 0)).isSome=true):∀ {k:Nat},k<=L.length->
  JhI s0 (jH left H L s0 k)/\(∀a b,Rl (jH left H L s0 k) a b->pM (UZ left H L k) a b)/\∀a b,UZ left H L k a b->Rl (jH left H L s0 k) a b
 |0,_=>⟨⟨h0,rfl,rfl⟩,fun a b q=>by rw[hr a b q];exact .id _,fun a b ⟨j,h,_⟩=>by omega⟩
 |k+1,hk=>by
  obtain⟨i1,i2,i3⟩:=FK h0 hr hl (k:=k) (by omega)
  have hm:∀a b,UZ left H L k a b->UZ left H L (k+1) a b:=fun a b ⟨j,q,r⟩=>⟨j,by omega,r⟩
  have he:=hl _ (ag (l:=L) (i:=k) (d:=0) (by omega))
  unfold jH
  by_cases q:hasB H (L.getD k 0)=true
  .rw[if_pos q]
   refine⟨i1,fun a b h=>(i2 a b h).mono hm,fun a b ⟨j,j1,j2,j3⟩=>i3 a b ⟨j,?_,j2,j3⟩⟩
   rcases Nat.lt_succ_iff_lt_or_eq.1 j1 with w|w
   .exact w
   subst w;rw[q] at j2;cases j2
  rw[if_neg q]
  have q2:hasB H (L.getD k 0)=false:=by simpa using q
  generalize hx:(af left (2*L.getD k 0)).getD 0=x at he
  generalize hy:(af left (2*L.getD k 0+1)).getD 0=y at he
  have hj:=(i1.ok.jn x y).2.2
  have PB:=i1.ok.add x
  have IZ:=PB.1.add y
  have jx:∀a b,Rl (cI (cI (jH left H L s0 k) x) y) a b->pM (UZ left H L (k+1)) a b:=fun a b h=>by
   rcases(IZ.2 a b).1 h with z|⟨z1,z2⟩
   .rcases(PB.2 a b).1 z with w|⟨w1,w2⟩
    .exact(i2 a b w).mono hm
    rw[w1,w2];exact .id _
   rw[z1,z2];exact .id _
  have AR:pM (UZ left H L (k+1)) x y:=.of ⟨k,Nat.lt_succ_self _,q2,hx.symm,hy.symm⟩
  refine⟨i1.jn he.1 he.2,fun a b h=>?_,fun a b ⟨j,j1,j2,j3,j4⟩=>?_⟩
  .rcases(hj a b).1 h with z|⟨z1,z2⟩|⟨z1,z2⟩
   .exact jx a b z
   .exact((jx _ _ z1).tr AR).tr (jx _ _ z2)
   exact((jx _ _ z1).tr AR.sy).tr (jx _ _ z2)
  rcases Nat.lt_succ_iff_lt_or_eq.1 j1 with w|w
  .exact(hj a b).2 (.inl ((IZ.2 a b).2 (.inl ((PB.2 a b).2 (.inl (i3 a b ⟨j,w,j2,j3,j4⟩))))))
  subst w
  rw[j3,j4,hx,hy]
  exact(hj x y).2 (.inr (.inl ⟨(IZ.2 x x).2 (.inl ((PB.2 x x).2 (.inr ⟨rfl,rfl⟩))),(IZ.2 y y).2 (.inr ⟨rfl,rfl⟩)⟩))
theorem aao (h0:lM s0)(hr:∀a b,Rl s0 a b->a=b)(hl:∀e∈L,(af s0.1 ((af left (2*e)).getD 0)).isSome=true/\(af s0.1 ((af left (2*e+1)).getD 0)).isSome=true)(ha:(af s0.1 a).isSome=true):Rl (jH left H L s0 L.length) a b↔pM (UZ left H L L.length) a b:=by
 obtain⟨i1,i2,i3⟩:=FK (H:=H) h0 hr hl (Nat.le_refl _)
 refine⟨i2 a b,fun q=>?_⟩
 have key:∀a b,pM (UZ left H L L.length) a b->a=b\/Rl (jH left H L s0 L.length) a b:=fun a b q=>by
  induction q with
  |of q=>exact .inr (i3 _ _ q)
  |id _=>exact .inl rfl
  |sy _ ih=>exact ih.imp Eq.symm Rl.symm
  |tr _ _ h1 h2=>
   rcases h1 with e|h1
   .rw[e];exact h2
   rcases h2 with e|h2
   .rw[<-e];exact .inr h1
   exact .inr (h1.trans h2)
 rcases key a b q with e|w
 .rw[<-e];exact Rl.refl (by rw[i1.m];exact ha)
 exact w
def L5 (s:S4)(x:Int):Int:=s.2.1.getD (aD s.2.2.1 ((af s.1 x).getD 0)).toNat 0
theorem TN (h:lM s)(ha:(af s.1 a).isSome=true)(hb:(af s.1 b).isSome=true):L5 s a=L5 s b↔Rl s a b:=by
 obtain⟨i,hi⟩:=Option.isSome_iff_exists.1 ha
 obtain⟨j,hj⟩:=Option.isSome_iff_exists.1 hb
 have hlen:=h.rep.len
 obtain⟨i0,i1,_⟩:=h.rep.at_ a i hi
 obtain⟨j0,j1,_⟩:=h.rep.at_ b j hj
 obtain⟨u1,u2,u3⟩:=eP h.rep.ok i0 (show i<(s.2.2.1.length:Int) by omega)
 obtain⟨v1,v2,v3⟩:=eP h.rep.ok j0 (show j<(s.2.2.1.length:Int) by omega)
 have e:L5 s a=L5 s b↔aD s.2.2.1 i=aD s.2.2.1 j:=by
  unfold L5
  rw[hi,hj]
  show s.2.1.getD (aD s.2.2.1 i).toNat 0=s.2.1.getD (aD s.2.2.1 j).toNat 0↔_
  constructor
  .intro q
   have:=dW (Qz h.rep) (by omega) (by omega) q
   omega
  intro q;rw[q]
 rw[e]
 constructor
 .exact fun q=>⟨i,j,hi,hj,q⟩
 rintro⟨i',j',k1,k2,k3⟩
 rw[hi] at k1
 rw[hj] at k2
 cases k1;cases k2
 exact k3
structure Q7 (s0:S4)(M:fR)(K U:List Int):Prop where
 m:M=s0.1
 l:K=s0.2.1
 ok:fW U
 len:U.length=s0.2.2.1.length
 rt:∀j,0<=j->j<(s0.2.2.1.length:Int)->aD U j=aD s0.2.2.1 j
theorem Q7.start (h:lM s):Q7 s s.1 s.2.1 s.2.2.1:=⟨rfl,rfl,h.rep.ok,rfl,fun _ _ _=>rfl⟩
theorem Q7.rep {M:fR}{K U:List Int}(h:Q7 s M K U)(hs:lM s):gT M K U:=by
 obtain⟨rfl,rfl,h1,h2,_⟩:=h
 exact⟨h1,h2.trans hs.rep.len,hs.rep.at_,hs.rep.nG,hs.rep.ex⟩
theorem Q7.head {M:fR}{K U:List Int}(h:Q7 s M K U)(hs:lM s)(hx:(af s.1 x).isSome=true):Q7 s M K (gu U ((af M x).getD 0))/\K.getD (iq U ((af M x).getD 0)).toNat 0=L5 s x:=by
 obtain⟨i,hi⟩:=Option.isSome_iff_exists.1 hx
 obtain⟨h1,h2,h3,h4,h5⟩:=h
 subst h1 h2
 have hlen:=hs.rep.len
 obtain⟨i0,i1,_⟩:=hs.rep.at_ x i hi
 obtain⟨a1,a2,a3,a4⟩:=vc (i.toNat+1) U i h3 i0 (by omega) (Nat.lt_succ_self _)
 have a3:(gu U i).length=U.length:=a3
 have a1:iq U i=aD U i:=a1
 unfold L5
 rw[hi]
 show Q7 s s.1 s.2.1 (gu U i)/\s.2.1.getD (iq U i).toNat 0=s.2.1.getD (aD s.2.2.1 i).toNat 0
 exact⟨⟨rfl,rfl,a2,by omega,fun j j0 j1=>(a4 j j0 (by omega)).trans (h5 j j0 j1)⟩,by rw[a1,h5 i i0 (by omega)]⟩
end
section
variable {h:Int×List Int->Int}{W:List (Int×List Int)}{x:Int}
def FL (h:Int×List Int->Int)(W:List (Int×List Int)):Nat->List (Int×List Int)
 |0=>[]
 |k+1=>b9 (FL h W k) (h (W.getD k (0,[]))) ((af (FL h W k) (h (W.getD k (0,[])))).getD []++[(W.getD k (0,[])).1])
theorem zD {i:Int}(h0:0<=i):FL h W (i+1).toNat=b9 (FL h W i.toNat) (h (W.getD i.toNat (0,[]))) ((af (FL h W i.toNat) (h (W.getD i.toNat (0,[])))).getD []++[(W.getD i.toNat (0,[])).1]):=by
 rw[show(i+1).toNat=i.toNat+1 by omega];rfl
theorem uz:∀k,(FL h W k).length<=k
 |0=>Nat.le_refl _
 |k+1=>Nat.le_trans (cQ _ _ _) (Nat.succ_le_succ (uz k))
theorem zF {h:Int×List Int->Int}{W:List (Int×List Int)}:∀ {k:Nat},k<=W.length->∀x,(af (FL h W k) x).getD []=((W.take k).filter fun w=>decide (h w=x)).map (·.1)/\((af (FL h W k) x).isSome=true↔∃w∈W.take k,h w=x)
 |0,_,x=>⟨rfl,⟨fun q=>(by cases q),fun⟨w,q,_⟩=>(by simp at q)⟩⟩
 |k+1,hk,x=>by
  have ih:=zF (h:=h) (W:=W) (k:=k) (by omega)
  show(af (b9 _ _ _) x).getD []=_/\((af (b9 _ _ _) x).isSome=true↔_)
  rw[bK,bU (show k<W.length by omega) (0,[]),List.filter_append,List.map_append]
  by_cases q:h (W.getD k (0,[]))=x
  .rw[if_pos q,List.filter_cons_of_pos (by simpa using q)]
   refine⟨?_,fun _=>⟨_,List.mem_append_right _ (List.mem_singleton.2 rfl),q⟩,fun _=>rfl⟩
   rw[q,(ih x).1];rfl
  rw[if_neg q,List.filter_cons_of_neg (by simpa using q),(ih x).1,(ih x).2]
  refine⟨by simp,fun⟨w,hw,e⟩=>⟨w,List.mem_append_left _ hw,e⟩,fun⟨w,hw,e⟩=>?_⟩
  rcases List.mem_append.1 hw with z|z
  .exact⟨w,z,e⟩
  rw[List.mem_singleton.1 z] at e;exact absurd e q
theorem QA {k:Nat}(hk:k<=W.length)(x:Int):((af (FL h W k) x).getD []).length<=k:=by
 rw[(zF hk x).1,List.length_map]
 exact Nat.le_trans (List.length_filter_le _ _) (by rw[List.length_take];exact Nat.min_le_left _ _)
end
structure HU (m:List (Int×List Int))(lf:Int->Bool)(ou:List (List Int)):Prop where
 ex:∃ks:List Int,ks.Nodup/\ou=ks.map (fun k=>(af m k).getD [])/\(∀k∈ks,lf k=false/\∃l,af m k=some l/\1<l.length)/\∀k l,af m k=some l->lf k=false->1<l.length->k∈ks
section
variable {m:List (Int×List Int)}{lf:Int->Bool}{ou:List (List Int)}{x:Int}{l:List Int}
theorem HU.start:HU m (fun z=>(af m z).isSome) []:=⟨[],List.nodup_nil,rfl,fun k h=>(by cases h),fun k l h q=>by rw[h] at q;cases q⟩
theorem HU.stay (h:HU m lf ou)(hv:af m x=some l)(hn:¬1<l.length):HU m (fun z=>lf z && !decide (z=x)) ou:=by
 obtain⟨ks,h1,h2,h3,h4⟩:=h
 refine⟨ks,h1,h2,fun k hk=>⟨by rw[(h3 k hk).1];rfl,(h3 k hk).2⟩,fun k l' hk q hl=>?_⟩
 rcases BL q with z|z
 .exact h4 k l' hk z hl
 subst z
 rw[hv] at hk;cases hk
 exact absurd hl hn
theorem HU.take (h:HU m lf ou)(hx:lf x=true)(hv:af m x=some l)(hn:1<l.length):HU m (fun z=>lf z && !decide (z=x)) (ou++[l]):=by
 obtain⟨ks,h1,h2,h3,h4⟩:=h
 have Zj:x∉ks:=fun q=>by rw[(h3 x q).1] at hx;cases hx
 refine⟨ks++[x],?_,?_,fun k hk=>?_,fun k l' hk q hl=>?_⟩
 .rw[List.nodup_append]
  exact⟨h1,by simp,fun a ha b hb e=>by rw[List.mem_singleton.1 hb] at e;subst e;exact Zj ha⟩
 .rw[List.map_append,h2]
  show _++[l]=_++[(af m x).getD []]
  rw[hv];rfl
 .rcases List.mem_append.1 hk with z|z
  .exact⟨by rw[(h3 k z).1];rfl,(h3 k z).2⟩
  rw[List.mem_singleton.1 z]
  exact⟨by simp,l,hv,hn⟩
 rcases BL q with z|z
 .exact List.mem_append_left _ (h4 k l' hk z hl)
 exact List.mem_append_right _ (List.mem_singleton.2 z)
theorem HU.len (h:HU m lf ou)(hk:KN m):ou.length<=m.length:=by
 obtain⟨ks,h1,h2,h3,_⟩:=h
 have:=h1.length_le_of_subset (l₂:=m.map (·.1)) fun x hx=>by
  obtain⟨_,l,hl,_⟩:=h3 x hx
  exact mem_keys.2 (by rw[hl];rfl)
 rw[List.length_map] at this
 rw[h2,List.length_map];exact this
theorem JX {U:List (List Int)}(hh:ga U):(iT U).Pairwise fun x y=>x.getD 0 0<y.getD 0 0:=by
 have hs:(iT U).Pairwise fun x y=>x.getD 0 0<=y.getD 0 0:=(List.pairwise_mergeSort (le:=fun a b:List Int=>decide (a.getD 0 0<=b.getD 0 0)) (fun a b c h1 h2=>by simp only[decide_eq_true_eq] at*;omega) (fun a b=>by simp only[Bool.or_eq_true,decide_eq_true_eq];omega) U).imp fun h=>of_decide_eq_true h
 have hn:(iT U).Pairwise fun x y=>x.getD 0 0≠y.getD 0 0:=by
  have:=hh.2
  rw[List.nodup_iff_pairwise_ne,List.pairwise_map] at this
  exact((List.mergeSort_perm U _).pairwise_iff fun h=>h.symm).2 this
 exact(hs.and hn).imp fun h=>by omega
theorem HU.fin {h:Int×List Int->Int}{W:List (Int×List Int)}{R:Int×List Int->Int×List Int->Prop}(hR:TL R W)(hh:∀w∈W,∀u∈W,(h w=h u↔R w u))(q:HU (FL h W W.length) lf ou)(hl:∀x,lf x=false):ga ou/\iT ou=toG R W:=by
 classical
 obtain⟨ks,h1,h2,h3,h4⟩:=q
 have zV:=fun x=>zF (h:=h) (W:=W) (Nat.le_refl _) x
 simp only[List.take_length] at zV
 have CU:∀w∈W,(af (FL h W W.length) (h w)).getD []=jo R W w:=fun w hw=>by
  rw[(zV _).1]
  unfold jo
  congr 1
  refine List.filter_congr fun u hu=>?_
  exact decide_eq_decide.2 (eq_comm.trans (hh w hw u hu))
 have GD:∀k∈ks,∃w∈W,h w=k/\(af (FL h W W.length) k).getD []=jo R W w/\1<(jo R W w).length:=fun k hk=>by
  obtain⟨_,l,e,hlen⟩:=h3 k hk
  obtain⟨w,hw,rfl⟩:=(zV k).2.1 (by rw[e];rfl)
  refine⟨w,hw,rfl,CU w hw,?_⟩
  rw[<-CU w hw,e];exact hlen
 have fE:∀x,x∈ou↔∃w∈W,jo R W w=x/\1<x.length:=fun x=>by
  rw[h2,List.mem_map]
  constructor
  .rintro⟨k,hk,rfl⟩
   obtain⟨w,hw,_,e,hlen⟩:=GD k hk
   exact⟨w,hw,e.symm,by rw[e];exact hlen⟩
  rintro⟨w,hw,rfl,hlen⟩
  refine⟨h w,h4 _ _ ?_ (hl _) hlen,CU w hw⟩
  have hs:=(zV (h w)).2.2 ⟨w,hw,rfl⟩
  obtain⟨l,e⟩:=Option.isSome_iff_exists.1 hs
  have:=CU w hw
  rw[e] at this
  rw[e];exact congrArg some this
 have hO:ga ou:=by
  refine⟨fun x hx e=>?_,?_⟩
  .obtain⟨_,_,_,hlen⟩:=(fE x).1 hx
   rw[e] at hlen;simp at hlen
  rw[h2,List.map_map]
  refine oU h1 fun k hk k' zS e=>?_
  obtain⟨w,hw,rfl,ew,lw⟩:=GD k hk
  obtain⟨u,hu,rfl,eu,lu⟩:=GD k' zS
  have e:((af (FL h W W.length) (h w)).getD []).getD 0 0=((af (FL h W W.length) (h u)).getD []).getD 0 0:=e
  rw[ew,eu] at e
  obtain⟨a,ha,ra,ea⟩:=fO.1 (ag (l:=jo R W w) (i:=0) (d:=0) (by omega))
  obtain⟨b,hb,rb,eb⟩:=fO.1 (ag (l:=jo R W u) (i:=0) (d:=0) (by omega))
  have:=Dq hR ha hb (by rw[ea,eb,e])
  subst this
  exact(hh w hw u hu).2 (hR.t ra (hR.s rb))
 refine⟨hO,uj (f:=fun x:List Int=>x.getD 0 0) (JX hO) (toG_asc hR) fun x=>?_⟩
 rw[rJ,fE,xD hR]
end
end Go.Proofs.YtnfdimfepbbbpaaGreat
namespace Go.Proofs.YtnfdimfepbbbpaaGreat
open Go.RowKit
open Go.Proofs.YtnfdimfepbbbpaaGreat.Deep
def HV (n:Int)(E:List (Int×Int))(V L:List Int)(T S:List (List Int))(H:List Int)(w u:Int×List Int):Prop:=JP (ko L H) (two (fG n E V L T S)) (fG n E V L T S (qI T w.1)) (fG n E V L T S (qI T u.1))
instance (a b:List Int):Decidable (ja a b):=by unfold ja;infer_instance
noncomputable def toX (n:Int) (E:List (Int×Int)) (V L:List Int) (T S:List (List Int)) (Q H:List Int):(List (List Int)×List (List Int))×Int:=
 if aM n E V L T S≠0 then(([],[]),aM n E V L T S)
 else if aS n E Q H≠0\/¬(ja Q V/\ja H L) then(([],[]),4)
 else((toT H T,toG (HV n E V L T S H) (aa n E Q H (toT H T)).1),0)
def QB (T S U R:List (List Int)):Bool:=decide (T.map aI=U.map aI) && decide (S=R)
noncomputable def vu (n:Int) (E:List (Int×Int)) (V L:List Int) (T S:List (List Int)) (Q H:List Int) (U R:List (List Int)):Bool:=
 decide (aM n E Q H U R=0) && (decide ((toX n E V L T S Q H).2=0) && QB (toX n E V L T S Q H).1.1 (toX n E V L T S Q H).1.2 U R)
section
variable {n:Int}{E:List (Int×Int)}{V H VG L:List Int}{T S U R:List (List Int)}{l:List Int}{v:Int}
theorem FM (h:(aa n E V H T).2=0):TL (HV n E VG L U R H) (aa n E V H T).1:=
 ⟨fun w _=>.id _,fun q=>pM.sy q,fun q r=>pM.tr q r,BS h⟩
theorem LC (hp:aS n E V H=0)(hs:∀e∈H,e∈L)(hT:fB n E H T)(hU:fB n E L U):(toT H U).map aI=T.map aI↔∀v∈V,kE (Ap H (U.getD v.toNat [])) (T.getD v.toNat [])=true:=by
 obtain⟨_,hV,hH,_⟩:=aJ hp
 have hlT:=hT.len
 have hlU:=hU.len
 have Bc:∀u,u<U.length->(Ap H (U.getD u [])).Nodup:=fun u hu=>(hU.nd u hu).filter _
 have pQ:∀u,u<U.length->((toT H U).map aI).getD u []=aI (Ap H (U.getD u [])):=fun u hu=>by
  rw[lE (z:=[]) (by rw[toT_len];exact hu),toT_at hu,wh (Bc u hu)]
 have aap:∀u,u<U.length->(T.map aI).getD u []=aI (T.getD u []):=fun u hu=>lE (by omega) _ _
 constructor
 .intro e v hv
  have hb:=(aA.1 hV).2 _ hv
  have hu:v.toNat<U.length:=by omega
  rw[oV (Bc _ hu),<-pQ _ hu,<-aap _ hu,e]
 intro h
 refine List.ext_getElem (by rw[List.length_map,List.length_map,toT_len];omega) fun u h1 h2=>?_
 have hu:u<U.length:=by rw[List.length_map,toT_len] at h1;exact h1
 rw[<-getD_eq h1 [],<-getD_eq h2 [],pQ u hu,aap u hu]
 by_cases q:(u:Int)∈V
 .have:=h _ q
  rw[Int.toNat_natCast] at this
  exact(oV (Bc u hu)).1 this
 have e1:Ap H (U.getD u [])=[]:=List.eq_nil_iff_forall_not_mem.2 fun d hd=>by
  obtain⟨d1,d2⟩:=List.mem_filter.1 hd
  rw[fk hH,decide_eq_true_eq] at d2
  have:=(bf hp (show ak H d from d2)).1
  rw[((hU.mem u hu d).1 d1).2] at this
  exact q this
 have e2:T.getD u []=[]:=List.eq_nil_iff_forall_not_mem.2 fun d hd=>by
  obtain⟨d1,d2⟩:=(hT.mem u (by omega) d).1 hd
  have:=(bf hp d1).1
  rw[d2] at this
  exact q this
 rw[e1,e2]
theorem zG (h:cC n E V H T S U R=0):(ec n E V H T S U R).2=false↔∀v∈V,kE (Ap H (U.getD v.toNat [])) (T.getD v.toNat [])=true:=by
 constructor
 .intro q v hv
  obtain⟨j,hj,rfl⟩:=aB (z:=(0:Int)).1 hv
  refine Classical.byContradiction fun z=>?_
  have hz:(!SP V H T U j)=true:=by
   have:SP V H T U j=false:=Bool.eq_false_iff.2 z
   rw[this];rfl
  unfold ec at q
  rw[if_neg (by rw[h];exact fun w=>w rfl)] at q
  cases hf:(List.range V.length).find? fun i=>!SP V H T U i with
  |none=>
   rw[List.find?_eq_none] at hf
   exact hf j (List.mem_range.2 hj) hz
  |some i=>rw[hf] at q;cases q
 intro q
 rw[BK h fun j hj=>q _ (ag hj)]
theorem QC {W:List (Int×List Int)}{w:Int×List Int}(hl:l∈eR n E w.2):∀ {k:Nat},k<=W.length->w∈W.take k->l∈LY n E W k
 |0,_,h=>by simp at h
 |k+1,hk,h=>by
  rw[bU (show k<W.length by omega) (0,[])] at h
  show l∈LY n E W k++_
  rcases List.mem_append.1 h with q|q
  .exact List.mem_append_left _ (QC hl (by omega) q)
  rw[<-List.mem_singleton.1 q];exact List.mem_append_right _ hl
theorem TO (h:aM n E V L T S=0)(hc:mu n E V L l=true){x s:Int}(hx:af (sS n E V L T S l) x=some s):x∈V:=by
 obtain⟨hp,_,si,_⟩:=of_decide_eq_true (p:=E6 n E V L l) hc
 obtain⟨_,_,hL,_⟩:=aJ hp
 unfold sS ue at hx
 rw[if_pos (by rw[hc,decide_eq_true h];rfl),uw] at hx
 split at hx
 .rename_i q
  obtain⟨j,hj,rfl⟩:=of_decide_eq_true q
  have:=(si _ (ag (l:=l) (d:=0) hj)).2
  rw[fk hL,decide_eq_true_eq] at this
  exact(bf hp this).1
 rw[zA (Nat.le_refl _),List.take_length] at hx
 split at hx
 .rename_i q;exact q
 cases hx
theorem JY (hP:aM n E V H T S=0)(hX:aM n E (aR n E).1 (aR n E).2 U R=0)(hv:∀v∈V,v∈(aR n E).1)(c1:mu n E V H l=true)(c2:mu n E (aR n E).1 (aR n E).2 l=true):
  (Jv n E V H T S U R l).2=false↔∀v∈V,Wc E l v=false->(Lf H l (fG n E V H T S) (fG n E V H T S (zB T v))↔Lf (aR n E).2 l (fG n E (aR n E).1 (aR n E).2 U R) (fG n E (aR n E).1 (aR n E).2 U R (zB U v))):=by
 have e:(Jv n E V H T S U R l).2=false↔∀x s,af (sS n E V H T S l) x=some s->(af (sS n E (aR n E).1 (aR n E).2 U R l) x).getD 0=s:=by
  unfold Jv XT
  constructor
  .intro q x s hx
   cases hf:(sS n E V H T S l).find? fun q=>decide (¬(af (sS n E (aR n E).1 (aR n E).2 U R l) q.1).getD 0=q.2) with
   |none=>
    rw[List.find?_eq_none] at hf
    have:=hf _ (mw hx)
    simpa using this
   |some _=>rw[hf] at q;cases q
  intro q
  have:(sS n E V H T S l).find? (fun q=>decide (¬(af (sS n E (aR n E).1 (aR n E).2 U R l) q.1).getD 0=q.2))=none:=by
   rw[List.find?_eq_none]
   intro p hp
   have:=q p.1 p.2 (Pk Ju hp)
   simp[this]
  rw[this]
 rw[e]
 constructor
 .intro q v zY jU
  obtain⟨s,s1,s2,s3⟩:=ux hP c1 zY jU
  obtain⟨t,t1,t2,t3⟩:=ux hX c2 (hv v zY) jU
  have:=q v s s1
  rw[t1] at this
  have this:t=s:=this
  rw[<-s3,<-t3,this]
 intro q x s hx
 have hxV:=TO hP c1 hx
 cases jU:Wc E l x with
 |true=>
  rw[JV hP c1 hxV jU] at hx
  rw[JV hX c2 (hv x hxV) jU]
  cases hx;rfl
 |false=>
  obtain⟨s',s1,s2,s3⟩:=ux hP c1 hxV jU
  obtain⟨t,t1,t2,t3⟩:=ux hX c2 (hv x hxV) jU
  rw[s1] at hx
  cases hx
  rw[t1]
  show t=s
  have:=q x hxV jU
  rw[<-s3,<-t3] at this
  omega
theorem HW (h:cC n E V H T S U R=0)(h2:(ec n E V H T S U R).2=false)(hP:aM n E V H T S=0)(hX:aM n E (aR n E).1 (aR n E).2 U R=0)(hv:∀v∈V,v∈(aR n E).1)(he:∀e∈H,e∈(aR n E).2):(gb n E V H T S U R).2.2=false↔aal n E V H (aR n E).1 (aR n E).2 T S U R:=by
 obtain⟨hp,_,_⟩:=aU (aK (aX hP).1)
 obtain⟨A9,_,_⟩:=aU (aK (aX hX).1)
 have An:=nO hP
 have key:(gb n E V H T S U R).2.2=false↔∀l∈aT n E V H T S,(Jv n E V H T S U R l).2=false:=by
  constructor
  .intro q l hl
   obtain⟨j,hj,rfl⟩:=aB (z:=([]:List Int)).1 hl
   refine Classical.byContradiction fun z=>?_
   unfold gb at q
   rw[if_neg (by rw[h,h2];rintro(q|q);exact q rfl;cases q)] at q
   cases hf:(List.range (aT n E V H T S).length).find? fun i=>(Jv n E V H T S U R ((aT n E V H T S).getD i [])).2 with
   |none=>
    rw[List.find?_eq_none] at hf
    exact hf j (List.mem_range.2 hj) (by simpa using z)
   |some i=>rw[hf] at q;cases q
  intro q
  rw[BM h h2 fun j hj=>q _ (ag hj)]
 rw[key]
 constructor
 .intro q w hw c hc
  have hl:c∈aT n E V H T S:=by rw[An];exact QC hc (Nat.le_refl _) (by rw[List.take_length];exact hw)
  exact(JY hP hX hv (oS hP hp (fun _ q=>q) hl) (oS hP A9 he hl)).1 (q c hl)
 intro q l hl
 have LA:=hl
 rw[An] at LA
 obtain⟨w,hw,hc⟩:=xx (Nat.le_refl _) l LA
 exact(JY hP hX hv (oS hP hp (fun _ q=>q) hl) (oS hP A9 he hl)).2 (q w hw l hc)
theorem HX (hp:aS n E V H=0):(∀v∈V,v∈(aR n E).1)/\∀e∈H,e∈(aR n E).2:=by
 obtain⟨hr,hV,hH,_⟩:=aJ hp
 unfold aR
 rw[if_neg (by rw[hr];exact fun q=>q rfl)]
 exact⟨fun v hv=>Ew.2 ((aA.1 hV).2 v hv),fun e he=>Ew.2 ((aA.1 hH).2 e he)⟩
theorem FN:fN n E V H T S U R=0↔jw n E V H T S=0/\vu n E (aR n E).1 (aR n E).2 U R V H T S=true:=by
 have hck:fN n E V H T S U R=0↔cC n E V H T S U R=0/\(ec n E V H T S U R).2=false/\(gb n E V H T S U R).2.2=false:=by
  unfold fN
  by_cases a:cC n E V H T S U R=0
  .rw[if_neg (by rw[a];exact fun q=>q rfl)]
   cases b:(ec n E V H T S U R).2 with
   |true=>rw[if_pos rfl];exact⟨fun q=>(by cases q),fun q=>(by cases q.2.1)⟩
   |false=>
    rw[if_neg (by decide)]
    cases c:(gb n E V H T S U R).2.2 with
    |true=>rw[if_pos rfl];exact⟨fun q=>(by cases q),fun q=>(by cases q.2.2)⟩
    |false=>rw[if_neg (by decide)];exact⟨fun _=>⟨a,rfl,rfl⟩,fun _=>rfl⟩
  rw[if_pos a];exact⟨fun q=>absurd q a,fun q=>absurd q.1 a⟩
 rw[hck]
 have hgo:∀(hP:aM n E V H T S=0) (hX:aM n E (aR n E).1 (aR n E).2 U R=0),cC n E V H T S U R=0->
   (((ec n E V H T S U R).2=false/\(gb n E V H T S U R).2.2=false)↔vu n E (aR n E).1 (aR n E).2 U R V H T S=true):=fun hP hX hr=>by
  have FH:=aK (aX hP).1
  obtain⟨hp,hT,_⟩:=aU FH
  obtain⟨A9,hU,_⟩:=aU (aK (aX hX).1)
  obtain⟨hv,he⟩:=HX hp
  obtain⟨_,XZ,hHr,_⟩:=aJ A9
  have hto:toX n E (aR n E).1 (aR n E).2 U R V H=((toT H U,toG (HV n E (aR n E).1 (aR n E).2 U R H) (aa n E V H (toT H U)).1),0):=by
   unfold toX
   rw[if_neg (by rw[hX];exact fun q=>q rfl),if_neg]
   rintro(q|q)
   .exact q hp
   exact q ⟨(tN XZ).2 hv,(tN hHr).2 he⟩
  have Sz:vu n E (aR n E).1 (aR n E).2 U R V H T S=true↔(toT H U).map aI=T.map aI/\toG (HV n E (aR n E).1 (aR n E).2 U R H) (aa n E V H (toT H U)).1=S:=by
   unfold vu QB
   rw[hto,decide_eq_true hP]
   show(true && (decide ((0:Int)=0) && _))=true↔_
   rw[decide_eq_true rfl,Bool.true_and,Bool.true_and,Bool.and_eq_true,decide_eq_true_iff,decide_eq_true_iff]
  rw[Sz,LC hp he hT hU,<-zG hr]
  refine and_congr_right fun ht=>?_
  have hsm:=(zG hr).1 ht
  have hR:Ly n E V H (aR n E).1 (aR n E).2 T S U R:=⟨hP,hX,he,hv,hsm⟩
  rw[HW hr ht hP hX hv he,hR.agree]
  have hw:(aa n E V H (toT H U)).1=(aa n E V H T).1:=by
   refine HT hp (toT_turns hp he hU) hT fun v zY=>?_
   have hb:=(aA.1 (aJ hp).2.1).2 _ zY
   have hl:=hU.len
   have hu:v.toNat<U.length:=by omega
   have Bc:(Ap H (U.getD v.toNat [])).Nodup:=(hU.nd _ hu).filter _
   rw[toT_at hu,oV (qm Bc),wh Bc]
   exact(oV Bc).1 (hsm v zY)
  rw[hw]
  obtain⟨_,z,hz,_⟩:=aX hP
  obtain⟨_,_,m3⟩:=qF hz
  have Xi:S.Pairwise fun x y=>x.getD 0 0<y.getD 0 0:=List.pairwise_iff_getElem.2 fun i j hi hj wD=>by
   have:=xl (f:=fun j=>(S.getD j []).getD 0 0) (N:=S.length) (sP hz) wD hj
   rw[getD_eq hi,getD_eq hj] at this
   exact this
  have:=toG_eq (FM (VG:=(aR n E).1) (L:=(aR n E).2) (U:=U) (R:=R) FH) Xi (fun l hl=>FD hP hl) (fun l hl x hx=>rP hP (List.mem_flatten.2 ⟨l,hl,hx⟩)) fun l hl m hm x h1 h2=>by
   obtain⟨i,hi,rfl⟩:=aB (z:=([]:List Int)).1 hl
   obtain⟨j,hj,rfl⟩:=aB (z:=([]:List Int)).1 hm
   rcases Nat.lt_trichotomy i j with q|q|q
   .exact absurd h2 (m3 i j q hj x h1)
   .rw[q]
   exact absurd h1 (m3 j i q hi x h2)
  exact this.symm
 constructor
 .rintro⟨hr,hts⟩
  obtain⟨a,b⟩:=za hr
  exact⟨a,(hgo (xy a).2 b hr).1 hts⟩
 rintro⟨a,b⟩
 have hP:=(xy a).2
 have hX:aM n E (aR n E).1 (aR n E).2 U R=0:=by
  unfold vu at b
  simp only[Bool.and_eq_true,decide_eq_true_eq] at b
  have:=b.2.1
  unfold toX at this
  split at this
  .exact this
  rename_i q;exact Classical.not_not.1 q
 have hr:cC n E V H T S U R=0:=by
  unfold cC
  rw[if_neg (by rw[a];exact fun q=>q rfl)];exact hX
 exact⟨hr,(hgo hP hX hr).2 b⟩
end
end Go.Proofs.YtnfdimfepbbbpaaGreat
namespace Go.Proofs.YtnfdimfepbbbpaaGreat
open Go.RowKit
open Go.Proofs.YtnfdimfepbbbpaaGreat.Deep
section
variable {n:Int}{E:List (Int×Int)}{V L Q H:List Int}{T S:List (List Int)}{k:Int}
theorem QD (h:aM n E V L T S=0)(hk:s9 V L T k):∃v,af (aq n E V L T S) k=some v:=by
 obtain⟨w,hw,hon⟩:=zx (aK (aX h).1) hk
 obtain⟨i,_,_,_,hi⟩:=sY h hw
 exact⟨_,hi k hon⟩
theorem toT_in (h:aC T):aC (toT H T):=fun l hl x hx=>by
 obtain⟨m,hm,rfl⟩:=List.mem_map.1 hl
 exact h m hm x (List.mem_filter.1 (ny.1 hx)).1
theorem toT_sz (h:az T):az (toT H T):=by
 refine⟨by rw[toT_len];exact h.1,fun l hl=>?_⟩
 obtain⟨m,hm,rfl⟩:=List.mem_map.1 hl
 rw[di]
 exact Nat.le_trans (List.length_filter_le _ _) (h.2 m hm)
theorem Dr {K:List Int}{B:Int}(hB:0<=B)(h:∀x∈K,0<=x/\x<=B)(j:Nat):0<=K.getD j 0/\K.getD j 0<=B:=by
 rw[List.getD_eq_getElem?_getD]
 cases hq:K[j]? with
 |none=>exact⟨Int.le_refl _,hB⟩
 |some x=>exact h x (List.mem_of_getElem? hq)
structure B5 (n:Int)(E:List (Int×Int))(V L:List Int)(T S:List (List Int))(Q H:List Int):Prop where
 x:aM n E V L T S=0
 p:aS n E Q H=0
 v:∀v∈Q,v∈V
 e:∀e∈H,e∈L
 tn:fB n E L T
theorem B5.of (hx:aM n E V L T S=0)(hp:aS n E Q H=0)(hw:ja Q V/\ja H L):B5 n E V L T S Q H:=by
 obtain⟨A9,hT,_⟩:=aU (aK (aX hx).1)
 obtain⟨_,hV,hL,_⟩:=aJ A9
 exact⟨hx,hp,(tN hV).1 hw.1,(tN hL).1 hw.2,hT⟩
theorem B5.hp (h:B5 n E V L T S Q H):aS n E V L=0:=(aU (aK (aX h.x).1)).1
theorem B5.w0 (h:B5 n E V L T S Q H):(aa n E Q H (toT H T)).2=0:=toT_walks h.p h.e h.tn
theorem B5.pt (h:B5 n E V L T S Q H){w:Int×List Int}(hw:w∈(aa n E Q H (toT H T)).1):s9 V L T (qI T w.1):=by
 obtain⟨_,hV',_,_⟩:=aJ h.p
 rcases(zy h.w0 hw).1 with q|⟨v,hv,_,e⟩
 .have:=(bf h.p q).2.1
  unfold qI;rw[if_neg (by omega)]
  exact .inl (h.e _ q)
 have hb:=(aA.1 hV').2 _ hv
 have hl:=h.tn.len
 rw[e]
 unfold qI
 rw[if_pos (by omega),show -1-(-1-v)=v by omega]
 by_cases q:0<(T.getD v.toNat []).length
 .rw[if_pos q]
  exact .inl ((h.tn.mem v.toNat (by omega) _).1 (ag q)).1
 rw[if_neg q]
 exact .inr ⟨v,h.v v hv,by omega,rfl⟩
theorem B5.key (h:B5 n E V L T S Q H){w:Int×List Int}(hw:w∈(aa n E Q H (toT H T)).1):(w.2.length=0->w.1<0/\0<=-1-w.1/\-1-w.1<(T.length:Int))/\(w.2.length≠0->0<=w.1)/\-1000000<=w.1/\w.1<=1000000:=by
 obtain⟨hp,_,hW⟩:=aU h.w0
 obtain⟨_,hV',_,_⟩:=aJ h.p
 have hk:=vY hp hW hw
 have hl:=h.tn.len
 rcases hW.key w hw with⟨a,b⟩|⟨a,b⟩
 .have:=(aA.1 hV').2 _ b
  exact⟨fun _=>⟨by omega,by omega,by omega⟩,fun z=>absurd a z,by omega,by omega⟩
 have:=(bf hp b).2.1
 exact⟨fun z=>absurd z a,fun _=>this,by omega,by omega⟩
theorem JZ {w:Int}(h:w<0):qI T w=if 0<(T.getD (-1-w).toNat []).length then(T.getD (-1-w).toNat []).getD 0 0 else w:=if_pos h
theorem TP {w:Int}(h:0<=w):qI T w=w:=if_neg (by omega)
theorem B5.alk (h:B5 n E V L T S Q H){s0:S4}{lf:Int->Bool}(ha:L4 (aq n E V L T S) lf s0)(hl:∀x,lf x=false):
  (∀e∈L,(af s0.1 ((af (aq n E V L T S) (2*e)).getD 0)).isSome=true/\(af s0.1 ((af (aq n E V L T S) (2*e+1)).getD 0)).isSome=true)/\
  (∀k,s9 V L T k->(af s0.1 ((af (aq n E V L T S) k).getD 0)).isSome=true):=by
 have hp:∀k,s9 V L T k->(af s0.1 ((af (aq n E V L T S) k).getD 0)).isSome=true:=fun k hk=>by
  obtain⟨v,hv⟩:=QD h.x hk
  rw[hv];exact ha.all k v hv (hl k)
 exact⟨fun e he=>⟨hp _ (.inl (ck.2 ⟨e,he,.inl rfl⟩)),hp _ (.inl (ck.2 ⟨e,he,.inr rfl⟩))⟩,hp⟩
abbrev L6 (left:fR)(T:List (List Int))(s:S4)(w:Int×List Int):Int:=L5 s ((af left (qI T w.1)).getD 0)
theorem B5.aaq (h:B5 n E V L T S Q H){s0:S4}{lf:Int->Bool}(ha:L4 (aq n E V L T S) lf s0)(hl:∀x,lf x=false):∀w∈(aa n E Q H (toT H T)).1,∀u∈(aa n E Q H (toT H T)).1,
  (L6 (aq n E V L T S) T (jH (aq n E V L T S) H L s0 L.length) w=L6 (aq n E V L T S) T (jH (aq n E V L T S) H L s0 L.length) u↔HV n E V L T S H w u):=fun w hw u hu=>by
 obtain⟨a1,a2⟩:=h.alk ha hl
 obtain⟨j1,_,_⟩:=FK (H:=H) ha.ok ha.rl a1 (Nat.le_refl _)
 obtain⟨_,_,hH,_⟩:=aJ h.p
 have pw:=a2 _ (h.pt hw)
 have pu:=a2 _ (h.pt hu)
 unfold L6
 rw[TN j1.ok (by rw[j1.m];exact pw) (by rw[j1.m];exact pu),aao ha.ok ha.rl a1 pw]
 refine pM.iff fun a b=>?_
 constructor
 .rintro⟨j,hj,ho,e1,e2⟩
  rw[fk hH] at ho
  exact⟨_,⟨ag hj,of_decide_eq_false ho⟩,e1,e2⟩
 rintro⟨f,⟨hf,ho⟩,e1,e2⟩
 obtain⟨j,hj,rfl⟩:=aB (z:=(0:Int)).1 hf
 exact⟨j,hj,by rw[fk hH];exact decide_eq_false ho,e1,e2⟩
theorem B5.fin (h:B5 n E V L T S Q H){s0:S4}{lf LD:Int->Bool}{ou:List (List Int)}(ha:L4 (aq n E V L T S) lf s0)(hl:∀x,lf x=false)(hq:HU (FL (L6 (aq n E V L T S) T (jH (aq n E V L T S) H L s0 L.length)) (aa n E Q H (toT H T)).1 (aa n E Q H (toT H T)).1.length) LD ou)(gH:∀x,LD x=false):
 ga ou/\iT ou=toG (HV n E V L T S H) (aa n E Q H (toT H T)).1:=hq.fin (FM h.w0) (h.aaq ha hl) gH
theorem U0 {h:Int×List Int->Int}{W:List (Int×List Int)}:∀k,KN (FL h W k)
 |0=>yM
 |k+1=>Bg (U0 k) _ _
theorem toX_bad (h:aM n E V L T S≠0):toX n E V L T S Q H=(([],[]),aM n E V L T S):=if_pos h
theorem toX_part (h:aM n E V L T S=0)(h2:aS n E Q H≠0\/¬(ja Q V/\ja H L)):toX n E V L T S Q H=(([],[]),4):=by
 unfold toX;rw[if_neg (by rw[h];exact fun q=>q rfl),if_pos h2]
theorem B5.ok (h:aM n E V L T S=0)(hp:aS n E Q H=0)(hw:ja Q V/\ja H L):toX n E V L T S Q H=((toT H T,toG (HV n E V L T S H) (aa n E Q H (toT H T)).1),0):=by
 unfold toX
 rw[if_neg (by rw[h];exact fun q=>q rfl),if_neg]
 rintro(q|q)
 .exact q hp
 exact q hw
end
end Go.Proofs.YtnfdimfepbbbpaaGreat
