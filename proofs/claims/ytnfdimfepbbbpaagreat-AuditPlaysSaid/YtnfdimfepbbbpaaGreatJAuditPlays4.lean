/-
  Texts joined by program: BlockT, BlockU, BlockV, BlockW, GraphC, GraphD, BlockX, WkA, WkB, WkR, WkN, WkT, WkF, WkP, WkG, WkX, WkW, WkY, WkZ, WkGa, WkGb.
-/
import Derived.Test.YtnfdimfepbbbpaaGreatJAuditPlays3
import Derived.Lib.RowBridge
set_option linter.unusedSimpArgs false
set_option linter.unusedVariables false
set_option maxRecDepth 100000
set_option maxHeartbeats 8000000
namespace Go.Proofs.YtnfdimfepbbbpaaGreat.Deep
structure Gr where
 L:List Int
 A:Int->Int
 B:Int->Int
namespace Gr
variable (G:Gr)
def inc (f x:Int):Prop:=G.A f=x\/G.B f=x
def lp (f:Int):Prop:=G.A f=G.B f
def gN (f x y:Int):Prop:=(G.A f=x/\G.B f=y)\/(G.A f=y/\G.B f=x)
def vo (x y:Int):Prop:=∃f∈G.L,G.gN f x y
inductive iB (P:Int->Prop):Int->Int->Prop
 |refl {x}:P x->iB P x x
 |step {x y z}:iB P x y->G.vo y z->P z->iB P x z
variable {G}
theorem gN.symm {f x y:Int}(h:G.gN f x y):G.gN f y x:=h.elim .inr .inl
theorem gN.left {f x y:Int}(h:G.gN f x y):G.inc f x:=h.elim (fun h=>.inl h.1) (fun h=>.inr h.2)
theorem gN.right {f x y:Int}(h:G.gN f x y):G.inc f y:=h.symm.left
theorem gN.of {f x y:Int}(h:G.gN f x y){z:Int}(hz:G.inc f z):z=x\/z=y:=by
 rcases h with⟨h1,h2⟩|⟨h1,h2⟩<;>rcases hz with e|e<;>simp_all
theorem vo.symm {x y:Int}(h:G.vo x y):G.vo y x:=let⟨f,hf,hj⟩:=h;⟨f,hf,hj.symm⟩
theorem iB.mono {P P':Int->Prop}(hp:∀x,P x->P' x){x y:Int}(h:G.iB P x y):G.iB P' x y:=by
 induction h with
 |refl h=>exact .refl (hp _ h)
 |step _ ha hz ih=>exact .step ih ha (hp _ hz)
theorem iB.first {P:Int->Prop}{x y:Int}(h:G.iB P x y):P x:=by
 induction h with
 |refl h=>exact h
 |step _ _ _ ih=>exact ih
theorem iB.last {P:Int->Prop}{x y:Int}(h:G.iB P x y):P y:=by
 cases h with
 |refl h=>exact h
 |step _ _ h=>exact h
theorem iB.trans {P:Int->Prop}{x y z:Int}(h:G.iB P x y)(k:G.iB P y z):G.iB P x z:=by
 induction k with
 |refl _=>exact h
 |step _ ha hz ih=>exact .step ih ha hz
theorem iB.one {P:Int->Prop}{x y:Int}(hx:P x)(h:G.vo x y)(hy:P y):G.iB P x y:=.step (.refl hx) h hy
theorem iB.symm {P:Int->Prop}{x y:Int}(h:G.iB P x y):G.iB P y x:=by
 induction h with
 |refl h=>exact .refl h
 |step h ha hz ih=>exact(iB.one hz ha.symm h.last).trans ih
theorem iB.closed {P Q:Int->Prop}(hc:∀x y,Q x->G.vo x y->P y->Q y){x y:Int}(h:G.iB P x y)(hx:Q x):Q y:=by
 induction h with
 |refl _=>exact hx
 |step _ ha hz ih=>exact hc _ _ ih ha hz
end Gr
def Tog (G:Gr)(z f g:Int):Prop:=∃a b,G.inc f a/\a≠z/\G.inc g b/\b≠z/\G.iB (· ≠z) a b
structure St where
 met:Int->Int
 low:Int->Int
 cnt:Int
 oC:List Int
 dM:List (List Int)
 ins:List (Int×List Int)
def lZ (f:Int->Int)(x y:Int):Int->Int:=fun z=>if z=x then y else f z
theorem xL (f:Int->Int)(x y:Int):lZ f x y x=y:=by simp[lZ]
theorem Ge (f:Int->Int){x z:Int}(y:Int)(h:z≠x):lZ f x y z=f z:=by simp[lZ,h]
def enter (v:Int)(s:St):St:={s with cnt:=s.cnt+1,met:=lZ s.met v (s.cnt+1),low:=lZ s.low v (s.cnt+1)}
def key (b:List Int):Int×List Int:=((DR b).headD 0,DR b)
inductive Loop (D:Int->List Int)(T:Int->Int):Int->Int->List Int->St->St->Prop
 |nil {v via s}:Loop D T v via [] s s
 |lp {v via d ds s s'}:T d=v->Loop D T v via ds {s with ins:=s.ins++[(d/2,[d/2])]} s'->Loop D T v via (d::ds) s s'
 |via {v via d ds s s'}:T d≠v->d/2=via->Loop D T v via ds s s'->Loop D T v via (d::ds) s s'
 |keep {v via d ds s s1 s'}:T d≠v->d/2≠via->s.met (T d)=0->Loop D T (T d) (d/2) (D (T d)) (enter (T d) {s with oC:=s.oC++[d/2]}) s1->s1.low (T d)<s1.met v->
  Loop D T v via ds {s1 with low:=lZ s1.low v (min (s1.low v) (s1.low (T d)))} s'->Loop D T v via (d::ds) s s'
 |take {v via d ds s s1 s' pre S}:T d≠v->d/2≠via->s.met (T d)=0->Loop D T (T d) (d/2) (D (T d)) (enter (T d) {s with oC:=s.oC++[d/2]}) s1->¬s1.low (T d)<s1.met v->s1.oC=pre++d/2::S->d/2∉pre->
  Loop D T v via ds {s1 with low:=lZ s1.low v (min (s1.low v) (s1.low (T d))),oC:=pre,dM:=s1.dM++[d/2::S],ins:=s1.ins++[key (d/2::S)]} s'->Loop D T v via (d::ds) s s'
 |back {v via d ds s s'}:T d≠v->d/2≠via->s.met (T d)≠0->s.met (T d)<s.met v->Loop D T v via ds {s with oC:=s.oC++[d/2],low:=lZ s.low v (min (s.low v) (s.met (T d)))} s'->Loop D T v via (d::ds) s s'
 |skip {v via d ds s s'}:T d≠v->d/2≠via->s.met (T d)≠0->¬s.met (T d)<s.met v->Loop D T v via ds s s'->Loop D T v via (d::ds) s s'
def Good (G:Gr)(lG:List Int)(b:List Int):Prop:=∃(p:Int) (N:Int->Prop),¬N p/\(∃f∈b,G.inc f p)/\(∀f∈b,f∈G.L/\¬G.lp f/\∃x y,N x/\(N y\/y=p)/\G.gN f x y)/\
 (∀x y,N x->G.vo x y->N y\/y=p)/\(∀x,N x->∀f∈G.L,G.inc f x->G.lp f\/f∈b\/f∈lG)/\(∀f∈b,∀g∈b,∀z,Tog G z f g)
def qd (G:Gr):List Int->List (List Int)->Prop
 |_,[]=>True
 |lG,b::bs=>Good G lG b/\qd G (lG++b) bs
theorem qd.snoc {G:Gr}{b:List Int}:∀ {lG:List Int} {bs:List (List Int)},qd G lG bs->Good G (lG++bs.flatten) b->qd G lG (bs++[b])
 |e,[],_,h=>⟨by simpa using h,tv⟩
 |e,c::bs,h,hb=>⟨h.1,qd.snoc h.2 (by simpa[List.append_assoc] using hb)⟩
structure ot (G:Gr)(D:Int->List Int)(T:Int->Int):Prop where
 mem:∀v d,d∈D v->d/2∈G.L/\G.gN (d/2) v (T d)
 all:∀f x,f∈G.L->G.inc f x->∃d∈D x,d/2=f
 one:∀v d d',d∈D v->d'∈D v->d/2=d'/2->T d≠v->d=d'
 nodup:∀v,(D v).Nodup
structure Zl (G:Gr)(s:St):Prop where
 NA:∀x,0<=s.met x/\s.met x<=s.cnt
 inj:∀x y,s.met x≠0->s.met x=s.met y->x=y
 bv:∀f∈s.dM.flatten,∀x,G.inc f x->s.met x≠0
 nd:(s.dM.flatten++s.oC).Nodup
 b9:qd G [] s.dM
 Kr:∀q∈s.ins,(q.2=[q.1]/\q.1∈G.L/\G.lp q.1)\/∃b∈s.dM,q=key b
 Ks:∀b∈s.dM,key b∈s.ins
 ne:∀b∈s.dM,b≠[]
structure Ctx (G:Gr)(Y:Int->Prop)(o:St)(v via:Int):Prop where
 eH:Zl G o
 new:o.met v=0
 lS:∀x,Y x->o.met x≠0
 black:∀x y,o.met x≠0->¬Y x->G.vo x y->o.met y≠0
 up:(via∉G.L/\(∀x,¬Y x)/\o.oC=[])\/(via∈G.L/\∃p,Y p/\G.gN via p v/\∀x,Y x->o.met x<=o.met p)
 sv:∀f∈o.oC,f=via\/∀x,G.inc f x->o.met x≠0
abbrev gh (o s:St)(x:Int):Prop:=o.met x=0/\s.met x≠0
structure lT (G:Gr)(T:Int->Int)(Y:Int->Prop)(o:St)(v via:Int)(dn:List Int)(s:St)(S:List Int)(Bs:List (List Int)):Prop where
 eH:Zl G s
 old:∀x,o.met x≠0->s.met x=o.met x
 Kt:∀x,o.met x≠0->s.low x=o.low x
 new:∀x,gh o s x->o.cnt<s.met x
 BY:s.met v=o.cnt+1
 oC:s.oC=o.oC++S
 dM:s.dM=o.dM++Bs
 seen:∀x y,gh o s x->x≠v->G.vo x y->s.met y≠0
 Ar:∀d∈dn,s.met (T d)≠0
 sE:∀f∈S,f∈G.L/\¬G.lp f/\f≠via/\∃x y,gh o s x/\(gh o s y\/Y y)/\G.gN f x y
 bE:∀f∈Bs.flatten,∀x,G.inc f x->gh o s x
 RD:∀x,gh o s x->x≠v->∀f∈G.L,G.inc f x->(G.lp f/\(f,[f])∈s.ins)\/f∈S\/f∈Bs.flatten
 DS:∀d∈dn,(G.lp (d/2)/\(d/2,[d/2])∈s.ins)\/d/2=via\/d/2∈S\/d/2∈Bs.flatten
 src:∀f∈S,G.inc f v->∀y,G.inc f y->Y y->∃d∈dn,d/2=f
 RE:s.low v<=s.met v
 NB:∀f∈S,∀y,Y y->G.inc f y->s.low v<=s.met y
 RF:s.low v<s.met v->∃f∈S,∃x y,gh o s x/\Y y/\G.gN f x y/\s.met y<=s.low v
 out:∀f∈S,∀z,gh o s z->∃a y,G.inc f a/\a≠z/\Y y/\G.iB (fun x=>(gh o s x\/Y x)/\x≠z) a y
 conn:∀x,gh o s x->G.iB (gh o s) v x
 xM:∀q∈o.ins,q∈s.ins
section
variable {G:Gr}{D:Int->List Int}{T:Int->Int}{Y:Int->Prop}{o s:St}{v via:Int}{dn S:List Int}{Bs:List (List Int)}
theorem lT.DT (C:Ctx G Y o v via)(R:lT G T Y o v via dn s S Bs):gh o s v:=⟨C.new,by rw[R.BY];have:=(C.eH.NA v).1;have:=(C.eH.NA v).2;omega⟩
theorem lT.more (R:lT G T Y o v via dn s S Bs){d:Int}(h1:s.met (T d)≠0)(h2:(G.lp (d/2)/\(d/2,[d/2])∈s.ins)\/d/2=via\/d/2∈S\/d/2∈Bs.flatten):lT G T Y o v via (dn++[d]) s S Bs:=
 {R with
  Ar:=fun d' qR=>by
   rcases List.mem_append.1 qR with h|h
   .exact R.Ar d' h
   rw[List.mem_singleton.1 h];exact h1
  DS:=fun d' qR=>by
   rcases List.mem_append.1 qR with h|h
   .exact R.DS d' h
   rw[List.mem_singleton.1 h];exact h2
  src:=fun f hf hv y hy hY=>by
   obtain⟨d',qR,e⟩:=R.src f hf hv y hy hY
   exact⟨d',List.mem_append_left _ qR,e⟩}
theorem lT.lp (R:lT G T Y o v via dn s S Bs){e:Int}(hL:e∈G.L)(hl:G.lp e):lT G T Y o v via dn {s with ins:=s.ins++[(e,[e])]} S Bs:=
 {R with
  eH:={R.eH with
   Kr:=fun q hq=>by
    rcases List.mem_append.1 hq with h|h
    .exact R.eH.Kr q h
    rw[List.mem_singleton.1 h];exact .inl ⟨rfl,hL,hl⟩
   Ks:=fun b hb=>List.mem_append_left _ (R.eH.Ks b hb)}
  RD:=fun x hx dL f hf hi=>(R.RD x hx dL f hf hi).imp_left fun h=>⟨h.1,List.mem_append_left _ h.2⟩
  DS:=fun d hd=>(R.DS d hd).imp_left fun h=>⟨h.1,List.mem_append_left _ h.2⟩
  xM:=fun q hq=>List.mem_append_left _ (R.xM q hq)}
theorem lT.RG (C:Ctx G Y o v via)(R:lT G T Y o v via dn s S Bs){w:Int}(hw:s.met w≠0)(iH:s.met w<s.met v)(Gf:G.vo w v):Y w:=by
 have ho:o.met w≠0:=fun h0=>by
  have:=R.new w ⟨h0,hw⟩
  rw[R.BY] at iH;omega
 exact Classical.byContradiction fun hn=>C.black w v ho hn Gf C.new
theorem lT.back (HD:ot G D T)(C:Ctx G Y o v via)(R:lT G T Y o v via dn s S Bs){d:Int}(hd:d∈D v)(QG:∀x∈dn,x∈D v)(Lv:d∉dn)(h1:T d≠v)(h2:d/2≠via)(h3:s.met (T d)≠0)(h4:s.met (T d)<s.met v):
  lT G T Y o v via (dn++[d]) {s with oC:=s.oC++[d/2],low:=lZ s.low v (min (s.low v) (s.met (T d)))} (S++[d/2]) Bs:=by
 obtain⟨hL,hj⟩:=HD.mem v d hd
 have Gf:G.vo v (T d):=⟨_,hL,hj⟩
 have hY:Y (T d):=R.RG C h3 h4 Gf.symm
 have Fi:=R.DT C
 have Ux:¬G.lp (d/2):=fun h=>by
  rcases hj with⟨a,b⟩|⟨a,b⟩
  .exact h1 (by rw[<-a,<-b];exact h.symm)
  exact h1 (by rw[<-a,<-b];exact h)
 have Ya:d/2∉s.dM.flatten:=fun h=>by
  rw[R.dM,List.flatten_append,List.mem_append] at h
  rcases h with h|h
  .exact C.eH.bv _ h v hj.left C.new
  exact C.lS _ hY (R.bE _ h (T d) hj.right).1
 have hns:d/2∉s.oC:=fun h=>by
  rw[R.oC,List.mem_append] at h
  rcases h with h|h
  .rcases C.sv _ h with e|e
   .exact h2 e
   exact e v hj.left C.new
  obtain⟨d',qR,e⟩:=R.src _ h hj.left _ hj.right hY
  exact Lv (HD.one v d d' hd (QG d' qR) e.symm h1▸qR)
 have aaS:∀x,o.met x≠0->lZ s.low v (min (s.low v) (s.met (T d))) x=s.low x:=fun x hx=>Ge _ _ (fun e=>hx (by rw[e];exact C.new))
 have Bp:lZ s.low v (min (s.low v) (s.met (T d))) v=min (s.low v) (s.met (T d)):=xL _ _ _
 refine⟨⟨R.eH.NA,R.eH.inj,R.eH.bv,?_,R.eH.b9,R.eH.Kr,R.eH.Ks,R.eH.ne⟩,R.old,fun x hx=>(aaS x hx).trans (R.Kt x hx),R.new,R.BY,by simp only[R.oC,List.append_assoc],R.dM,R.seen,fun d' qR=>?_,fun f hf=>?_,R.bE,fun x hx dL f hf hi=>?_,fun d' qR=>?_,fun f hf hv y hy yR=>?_,?_,fun f hf y yR hi=>?_,fun h=>?_,fun f hf z hz=>?_,R.conn,R.xM⟩
 .show(s.dM.flatten++(s.oC++[d/2])).Nodup
  rw[<-List.append_assoc,List.nodup_append]
  refine⟨R.eH.nd,by simp,fun a ha b hb=>?_⟩
  rw[List.mem_singleton.1 hb]
  rintro rfl
  exact(List.mem_append.1 ha).elim Ya hns
 .rcases List.mem_append.1 qR with h|h
  .exact R.Ar d' h
  rw[List.mem_singleton.1 h];exact h3
 .rcases List.mem_append.1 hf with h|h
  .exact R.sE f h
  rw[List.mem_singleton.1 h];exact⟨hL,Ux,h2,v,T d,Fi,.inr hY,hj⟩
 .rcases R.RD x hx dL f hf hi with h|h|h
  .exact .inl h
  .exact .inr (.inl (List.mem_append_left _ h))
  exact .inr (.inr h)
 .rcases List.mem_append.1 qR with h|h
  .rcases R.DS d' h with h|h|h|h
   .exact .inl h
   .exact .inr (.inl h)
   .exact .inr (.inr (.inl (List.mem_append_left _ h)))
   exact .inr (.inr (.inr h))
  exact .inr (.inr (.inl (List.mem_append_right _ (by rw[List.mem_singleton.1 h];simp))))
 .rcases List.mem_append.1 hf with h|h
  .obtain⟨d',qR,e⟩:=R.src f h hv y hy yR
   exact⟨d',List.mem_append_left _ qR,e⟩
  exact⟨d,by simp,(List.mem_singleton.1 h).symm⟩
 .show lZ s.low v _ v<=s.met v
  rw[Bp];have:=R.RE;omega
 .show lZ s.low v _ v<=s.met y
  rw[Bp]
  rcases List.mem_append.1 hf with h|h
  .have:=R.NB f h y yR hi;omega
  rw[List.mem_singleton.1 h] at hi
  rcases hj.of hi with rfl|rfl
  .exact absurd C.new (C.lS _ yR)
  omega
 .have h:lZ s.low v (min (s.low v) (s.met (T d))) v<s.met v:=h
  show ∃f∈_,∃x y,_/\_/\_/\s.met y<=lZ s.low v _ v
  rw[Bp] at h ⊢
  by_cases hm:s.low v<s.met (T d)
  .obtain⟨f,hf,x,y,a,b,c,e⟩:=R.RF (by omega)
   exact⟨f,List.mem_append_left _ hf,x,y,a,b,c,by omega⟩
  exact⟨d/2,by simp,v,T d,Fi,hY,hj,by omega⟩
 rcases List.mem_append.1 hf with h|h
 .exact R.out f h z hz
 rw[List.mem_singleton.1 h]
 have dL:T d≠z:=fun e=>C.lS _ hY (by rw[e];exact hz.1)
 exact⟨T d,T d,hj.right,dL,hY,.refl ⟨.inr hY,dL⟩⟩
end
end Go.Proofs.YtnfdimfepbbbpaaGreat.Deep
namespace Go.Proofs.YtnfdimfepbbbpaaGreat.Deep
section
variable {G:Gr}{D:Int->List Int}{T:Int->Int}{Y:Int->Prop}{o s s1:St}{v via:Int}{dn S S1:List Int}{Bs B1:List (List Int)}
abbrev DU (Y:Int->Prop)(v x:Int):Prop:=Y x\/x=v
abbrev kH (s:St)(e:Int):St:={s with oC:=s.oC++[e]}
theorem lT.NC (C:Ctx G Y o v via)(R:lT G T Y o v via dn s S Bs){e w:Int}(hi:G.inc e w)(hw:s.met w=0)(dL:e≠via):e∉s.oC:=by
 intro h
 rw[R.oC,List.mem_append] at h
 rcases h with h|h
 .rcases C.sv _ h with q|q
  .exact dL q
  exact q w hi (by
   have:=R.old w
   exact Classical.byContradiction fun hh=>hh (by have:=this hh;omega))
 obtain⟨_,_,_,x,y,hx,hy,hj⟩:=R.sE e h
 rcases hj.of hi with rfl|rfl
 .exact hx.2 hw
 rcases hy with hy|hy
 .exact hy.2 hw
 have h1:=C.lS _ hy
 have:=R.old _ h1
 omega
theorem lT.child (HD:ot G D T)(C:Ctx G Y o v via)(R:lT G T Y o v via dn s S Bs){d:Int}(hd:d∈D v)(h1:T d≠v)(h2:d/2≠via)(h3:s.met (T d)=0):
  Ctx G (DU Y v) (kH s (d/2)) (T d) (d/2):=by
 obtain⟨hL,hj⟩:=HD.mem v d hd
 have Fi:=R.DT C
 have hns:d/2∉s.oC:=R.NC C hj.right h3 h2
 have Ya:d/2∉s.dM.flatten:=fun h=>R.eH.bv _ h _ hj.right h3
 refine⟨⟨R.eH.NA,R.eH.inj,R.eH.bv,?_,R.eH.b9,R.eH.Kr,R.eH.Ks,R.eH.ne⟩,h3,fun x hx=>?_,fun x y hx hn ha=>?_,.inr ⟨hL,v,.inr rfl,hj,fun x hx=>?_⟩,fun f hf=>?_⟩
 .show(s.dM.flatten++(s.oC++[d/2])).Nodup
  rw[<-List.append_assoc,List.nodup_append]
  refine⟨R.eH.nd,by simp,fun a ha b hb=>?_⟩
  rw[List.mem_singleton.1 hb]
  rintro rfl
  exact(List.mem_append.1 ha).elim Ya hns
 .rcases hx with hx|rfl
  .have:=C.lS x hx
   show s.met x≠0
   rw[R.old x this];exact this
  exact Fi.2
 .show s.met y≠0
  have hx:s.met x≠0:=hx
  by_cases ho:o.met x=0
  .exact R.seen x y ⟨ho,hx⟩ (fun e=>hn (.inr e)) ha
  have hy:=C.black x y ho (fun e=>hn (.inl e)) ha
  rw[R.old y hy];exact hy
 .rcases hx with hx|rfl
  .have h:=C.lS x hx
   show s.met x<=s.met v
   rw[R.old x h,R.BY]
   have:=(C.eH.NA x).2;omega
  exact Int.le_refl _
 rcases List.mem_append.1 hf with h|h
 .refine .inr fun x hi=>?_
  show s.met x≠0
  intro h0
  by_cases e:f=via
  .rcases C.up with⟨_,_,hs⟩|⟨_,p,hp,hjp,_⟩
   .rw[R.oC,hs,List.nil_append] at h
    exact(R.sE f h).2.2.1 e
   rw[e] at hi
   rcases hjp.of hi with rfl|rfl
   .have h1:=C.lS _ hp
    have:=R.old _ h1
    omega
   exact Fi.2 h0
  exact R.NC C hi h0 e h
 exact .inl (List.mem_singleton.1 h)
structure aaT (G:Gr)(Y:Int->Prop)(o s s1:St)(v e w:Int)(S1:List Int)(B1:List (List Int)):Prop where
 nw:∀x,gh o s1 x↔gh o s x\/gh s s1 x
 met:∀x,s.met x≠0->s1.met x=s.met x
 old:∀x,o.met x≠0->s1.met x=o.met x
 vs:s1.met v=s.met v
 lv:s1.low v=s.low v
 ND:gh s s1 w
 lt:s1.met v<s1.met w
theorem lT.behind (HD:ot G D T)(C:Ctx G Y o v via)(R:lT G T Y o v via dn s S Bs){d:Int}(hd:d∈D v)(h1:T d≠v)(h2:d/2≠via)(h3:s.met (T d)=0)
  (R1:lT G T (DU Y v) (kH s (d/2)) (T d) (d/2) (D (T d)) s1 S1 B1):aaT G Y o s s1 v (d/2) (T d) S1 B1:=by
 have C1:=R.child HD C hd h1 h2 h3
 have Fi:=R.DT C
 have hm:∀x,s.met x≠0->s1.met x=s.met x:=R1.old
 have hw:=R1.DT C1
 refine⟨fun x=>⟨fun⟨a,b⟩=>?_,fun h=>?_⟩,hm,fun x hx=>?_,hm v Fi.2,R1.Kt v Fi.2,hw,?_⟩
 .by_cases q:s.met x=0
  .exact .inr ⟨q,b⟩
  exact .inl ⟨a,q⟩
 .rcases h with⟨a,b⟩|⟨a,b⟩
  .exact⟨a,by rw[hm x b];exact b⟩
  refine⟨Classical.byContradiction fun q=>?_,b⟩
  have:=R.old x q
  omega
 .have:=R.old x hx
  rw[hm x (by omega)];exact this
 rw[hm v Fi.2]
 have:=R1.new _ hw
 have h4:(kH s (d/2)).cnt=s.cnt:=rfl
 have:=(R.eH.NA v).2
 omega
theorem lT.RH (HD:ot G D T)(R:lT G T Y o v via (D v) s S Bs)(x:Int)(hx:gh o s x)(f:Int)(hf:f∈G.L)(hi:G.inc f x):(G.lp f/\(f,[f])∈s.ins)\/f=via\/f∈S\/f∈Bs.flatten:=by
 by_cases e:x=v
 .subst e
  obtain⟨d,hd,rfl⟩:=HD.all f x hf hi
  exact R.DS d hd
 rcases R.RD x hx e f hf hi with h|h
 .exact .inl h
 exact .inr (.inr h)
theorem lT.NF (HD:ot G D T)(R:lT G T Y o v via (D v) s S Bs)(x y:Int)(hx:gh o s x)(ha:G.vo x y):s.met y≠0:=by
 by_cases e:x=v
 .subst e
  obtain⟨f,hf,hj⟩:=ha
  obtain⟨d,hd,rfl⟩:=HD.all f x hf hj.left
  obtain⟨_,Hw⟩:=HD.mem x d hd
  have:=R.Ar d hd
  rcases Hw.of hj.right with rfl|rfl
  .exact hx.2
  exact this
 exact R.seen x y hx e ha
theorem lT.nbr (HD:ot G D T)(C:Ctx G Y o v via)(R:lT G T Y o v via (D v) s S Bs){x y:Int}(hx:gh o s x)(ha:G.vo x y):gh o s y\/Y y:=by
 have hy:=R.NF HD x y hx ha
 by_cases ho:o.met y=0
 .exact .inl ⟨ho,hy⟩
 exact .inr (Classical.byContradiction fun hn=>C.black y x ho hn ha.symm hx.1)
theorem lT.NG (HD:ot G D T)(C:Ctx G Y o v via)(R:lT G T Y o v via dn s S Bs){d:Int}(hd:d∈D v)(h1:T d≠v)(h2:d/2≠via)(h3:s.met (T d)=0)
  (R1:lT G T (DU Y v) (kH s (d/2)) (T d) (d/2) (D (T d)) s1 S1 B1) (zV:¬s1.low (T d)<s1.met v) {f y:Int} (hf:f∈S1) (hy:DU Y v y) (hi:G.inc f y):y=v:=by
 have B:=R.behind HD C hd h1 h2 h3 R1
 rcases hy with hy|hy
 .have h4:=R1.NB f hf y (.inl hy) hi
  have h5:=C.lS y hy
  rw[B.old y h5] at h4
  rw[B.vs,R.BY] at zV
  have:=(C.eH.NA y).2
  omega
 exact hy
theorem lT.stays (HD:ot G D T)(C:Ctx G Y o v via)(R:lT G T Y o v via dn s S Bs){d:Int}(hd:d∈D v)(h1:T d≠v)(h2:d/2≠via)(h3:s.met (T d)=0)
  (R1:lT G T (DU Y v) (kH s (d/2)) (T d) (d/2) (D (T d)) s1 S1 B1) (zV:¬s1.low (T d)<s1.met v) {x y:Int} (hx:gh s s1 x) (ha:G.vo x y):gh s s1 y\/y=v:=by
 have C1:=R.child HD C hd h1 h2 h3
 rcases R1.nbr HD C1 hx ha with h|h
 .exact .inl h
 refine .inr ?_
 obtain⟨f,hf,hj⟩:=ha
 have hyx:y≠x:=fun e=>by
  have:=C1.lS y h
  rw[e] at this
  exact this hx.1
 rcases R1.RH HD x hx f hf hj.left with q|q|q|q
 .exfalso
  have:G.A f=G.B f:=q.1
  rcases hj with⟨a,b⟩|⟨a,b⟩
  .exact hyx (by rw[<-a,<-b,this])
  exact hyx (by rw[<-a,<-b,this])
 .obtain⟨_,hjd⟩:=HD.mem v d hd
  rw[q] at hj
  rcases hjd.of hj.right with e|e
  .exact e
  exfalso
  have:=C1.lS y h
  rw[e] at this
  exact this h3
 .exact R.NG HD C hd h1 h2 h3 R1 zV q h hj.right
 exfalso
 exact C1.lS y h (R1.bE f q y hj.right).1
theorem lT.block (HD:ot G D T)(C:Ctx G Y o v via)(R:lT G T Y o v via dn s S Bs){d:Int}(hd:d∈D v)(h1:T d≠v)(h2:d/2≠via)(h3:s.met (T d)=0)
  (R1:lT G T (DU Y v) (kH s (d/2)) (T d) (d/2) (D (T d)) s1 S1 B1) (zV:¬s1.low (T d)<s1.met v):Good G ([]++s1.dM.flatten) (d/2::S1):=by
 obtain⟨hL,hj⟩:=HD.mem v d hd
 have C1:=R.child HD C hd h1 h2 h3
 have hw:=R1.DT C1
 have hnv:¬gh s s1 v:=fun h=>(R.DT C).2 h.1
 have Ux:¬G.lp (d/2):=fun h=>by
  rcases hj with⟨a,b⟩|⟨a,b⟩
  .exact h1 (by rw[<-a,<-b];exact h.symm)
  exact h1 (by rw[<-a,<-b];exact h)
 have As:∀f∈d/2::S1,f∈G.L/\¬G.lp f/\∃x y,gh s s1 x/\(gh s s1 y\/y=v)/\G.gN f x y:=by
  intro f hf
  rcases List.mem_cons.1 hf with rfl|hf
  .exact⟨hL,Ux,T d,v,hw,.inr rfl,hj.symm⟩
  obtain⟨a,b,_,x,y,hx,hy,xN⟩:=R1.sE f hf
  refine⟨a,b,x,y,hx,?_,xN⟩
  rcases hy with hy|hy
  .exact .inl hy
  exact .inr (R.NG HD C hd h1 h2 h3 R1 zV hf hy xN.right)
 have hstay:∀x y,gh s s1 x->G.vo x y->gh s s1 y\/y=v:=fun x y hx ha=>R.stays HD C hd h1 h2 h3 R1 zV hx ha
 have kV:∀f∈d/2::S1,∀z,∃a,G.inc f a/\a≠z/\G.iB (· ≠z) a (if gh s s1 z then v else T d):=by
  intro f hf z
  by_cases hz:gh s s1 z
  .rw[if_pos hz]
   have Lw:v≠z:=fun e=>hnv (e▸hz)
   rcases List.mem_cons.1 hf with rfl|hf'
   .exact⟨v,hj.left,Lw,.refl Lw⟩
   obtain⟨a,y,VJ,haz,hy,hr⟩:=R1.out f hf' z hz
   refine⟨a,VJ,haz,?_⟩
   have Hp:G.iB (· ≠z) a y:=hr.mono fun x hx=>hx.2
   have hQ:(gh s s1 a\/G.iB (· ≠z) a v):=by
    obtain⟨_,_,x,y',hx,Kb,xN⟩:=As f hf
    rcases xN.of VJ with e|e
    .rw[e];exact .inl hx
    rcases Kb with Kb|Kb
    .rw[e];exact .inl Kb
    rw[e,Kb];exact .inr (.refl Lw)
   have aaU:=Gr.iB.closed (P:=(· ≠z)) (Q:=fun x=>G.iB (· ≠z) a x/\(gh s s1 x\/G.iB (· ≠z) a v)) (fun x y ⟨hx,Ad⟩ ha hp=>by
    refine⟨.step hx ha hp,?_⟩
    rcases Ad with Ad|Ad
    .rcases hstay x y Ad ha with h|h
     .exact .inl h
     exact .inr (h▸.step hx ha hp)
    exact .inr Ad) Hp ⟨.refl haz,hQ⟩
   rcases aaU.2 with h|h
   .exact absurd h.1 (C1.lS y hy)
   exact h
  rw[if_neg hz]
  obtain⟨_,_,x,y,hx,hy,xN⟩:=As f hf
  refine⟨x,xN.left,fun e=>hz (e▸hx),(Gr.iB.mono (P:=gh s s1) (P':=(· ≠z)) (fun u hu=>fun e:u=z=>hz (e▸hu)) (R1.conn x hx)).symm⟩
 refine⟨v,gh s s1,hnv,⟨d/2,by simp,hj.left⟩,As,hstay,fun x hx f hf hi=>?_,fun f hf g hg z=>?_⟩
 .rcases R1.RH HD x hx f hf hi with q|q|q|q
  .exact .inl q.1
  .exact .inr (.inl (by rw[q];simp))
  .exact .inr (.inl (List.mem_cons_of_mem _ q))
  refine .inr (.inr ?_)
  rw[List.nil_append,R1.dM,List.flatten_append]
  exact List.mem_append_right _ q
 obtain⟨a,ha,haz,hra⟩:=kV f hf z
 obtain⟨b,hb,hbz,Uy⟩:=kV g hg z
 exact⟨a,b,ha,haz,hb,hbz,hra.trans Uy.symm⟩
end
end Go.Proofs.YtnfdimfepbbbpaaGreat.Deep
namespace Go.Proofs.YtnfdimfepbbbpaaGreat.Deep
section
variable {G:Gr}{D:Int->List Int}{T:Int->Int}{Y:Int->Prop}{o s s1:St}{v via:Int}{dn S S1:List Int}{Bs B1:List (List Int)}
theorem lT.keep (HD:ot G D T)(C:Ctx G Y o v via)(R:lT G T Y o v via dn s S Bs){d:Int}(hd:d∈D v)(h1:T d≠v)(h2:d/2≠via)(h3:s.met (T d)=0)
  (R1:lT G T (DU Y v) (kH s (d/2)) (T d) (d/2) (D (T d)) s1 S1 B1) (iH:s1.low (T d)<s1.met v):
  lT G T Y o v via (dn++[d]) {s1 with low:=lZ s1.low v (min (s1.low v) (s1.low (T d)))} (S++d/2::S1) (Bs++B1):=by
 obtain⟨hL,hj⟩:=HD.mem v d hd
 have C1:=R.child HD C hd h1 h2 h3
 have B:=R.behind HD C hd h1 h2 h3 R1
 have Fi:=R.DT C
 have FG:gh o s1 v:=(B.nw v).2 (.inl Fi)
 have QJ:gh o s1 (T d):=(B.nw _).2 (.inr B.ND)
 have Zm:∀y,Y y->s1.met y=s.met y:=fun y hy=>B.met y (C1.lS y (.inl hy))
 have Ux:¬G.lp (d/2):=fun h=>by
  rcases hj with⟨a,b⟩|⟨a,b⟩
  .exact h1 (by rw[<-a,<-b];exact h.symm)
  exact h1 (by rw[<-a,<-b];exact h)
 have Bp:lZ s1.low v (min (s1.low v) (s1.low (T d))) v=min (s1.low v) (s1.low (T d)):=xL _ _ _
 have hold:∀x,o.met x≠0->lZ s1.low v (min (s1.low v) (s1.low (T d))) x=o.low x:=fun x hx=>by
  rw[Ge _ _ (fun e=>hx (by rw[e];exact C.new))]
  exact(R1.Kt x (by have:=R.old x hx;show s.met x≠0;omega)).trans (R.Kt x hx)
 have tO:∀x,gh o s1 x->o.cnt<s1.met x:=fun x hx=>by
  rcases(B.nw x).1 hx with h|h
  .rw[B.met x h.2];exact R.new x h
  have h4:=R1.new x h
  have h5:(kH s (d/2)).cnt=s.cnt:=rfl
  have:=(R.eH.NA v).2
  have:=R.BY
  omega
 have NH:∀x y,gh o s1 x->x≠v->G.vo x y->s1.met y≠0:=fun x y hx dL ha=>by
  rcases(B.nw x).1 hx with h|h
  .have:=R.seen x y h dL ha
   rw[B.met y this];exact this
  exact R1.NF HD x y h ha
 have Gg:∀d'∈dn++[d],s1.met (T d')≠0:=fun d' qR=>by
  rcases List.mem_append.1 qR with h|h
  .have:=R.Ar d' h
   rw[B.met _ this];exact this
  rw[List.mem_singleton.1 h];exact B.ND.2
 have hbE:∀f∈(Bs++B1).flatten,∀x,G.inc f x->gh o s1 x:=fun f hf x hi=>by
  rw[List.flatten_append,List.mem_append] at hf
  rcases hf with h|h
  .exact(B.nw x).2 (.inl (R.bE f h x hi))
  exact(B.nw x).2 (.inr (R1.bE f h x hi))
 have NI:∀f∈S,G.inc f v->∀y,G.inc f y->Y y->∃d'∈dn++[d],d'/2=f:=fun f hf hv y hy yR=>by
  obtain⟨d',qR,e⟩:=R.src f hf hv y hy yR
  exact⟨d',List.mem_append_left _ qR,e⟩
 have NJ:min (s1.low v) (s1.low (T d))<=s1.met v:=by
  have:=R.RE
  rw[B.vs,B.lv];omega
 have NK:∀f∈S,∀z,gh o s1 z->∃a y,G.inc f a/\a≠z/\Y y/\G.iB (fun x=>(gh o s1 x\/Y x)/\x≠z) a y:=fun f hf z hz=>by
  rcases(B.nw z).1 hz with h|h
  .obtain⟨a,y,k1,k2,k3,k4⟩:=R.out f hf z h
   exact⟨a,y,k1,k2,k3,k4.mono fun x hx=>⟨hx.1.imp_left fun q=>(B.nw x).2 (.inl q),hx.2⟩⟩
  obtain⟨a,y,k1,k2,k3,k4⟩:=R.out f hf v Fi
  have ox:∀x,gh o s x\/Y x->x≠z:=fun x hx e=>by
   have h0:s.met z=0:=h.1
   rw[<-e] at h0
   rcases hx with hx|hx
   .exact hx.2 h0
   exact C1.lS x (.inl hx) h0
  exact⟨a,y,k1,ox a k4.first.1,k3,k4.mono fun x hx=>⟨hx.1.imp_left fun q=>(B.nw x).2 (.inl q),ox x hx.1⟩⟩
 have hvw:G.vo v (T d):=⟨_,hL,hj⟩
 have NL:∀x,gh o s1 x->G.iB (gh o s1) v x:=fun x hx=>by
  rcases(B.nw x).1 hx with h|h
  .exact(R.conn x h).mono fun y hy=>(B.nw y).2 (.inl hy)
  exact(Gr.iB.one FG hvw QJ).trans (Gr.iB.mono (P:=gh s s1) (fun y hy=>(B.nw y).2 (.inr hy)) (R1.conn x h))
 have VO:∀q∈o.ins,q∈s1.ins:=fun q hq=>R1.xM q (R.xM q hq)
 have VP:∀f∈S,f∈G.L/\¬G.lp f/\f≠via/\∃x y,gh o s1 x/\(gh o s1 y\/Y y)/\G.gN f x y:=fun f hf=>by
  obtain⟨k1,k2,k3,x,y,hx,hy,xN⟩:=R.sE f hf
  exact⟨k1,k2,k3,x,y,(B.nw x).2 (.inl hx),hy.imp_left fun q=>(B.nw y).2 (.inl q),xN⟩
 obtain⟨f0,DV,x0,y0,JY,hy0,qS,aaV⟩:=R1.RF (by have:=B.lt;omega)
 have JY:gh s s1 x0:=JY
 have Uz:Y y0:=by
  rcases hy0 with h|h
  .exact h
  rw[h] at aaV;omega
 have hp:∃p,Y p/\G.vo v p:=by
  rcases C.up with⟨_,h,_⟩|⟨hvL,p,hp,hjp,_⟩
  .exact absurd Uz (h _)
  exact⟨p,hp,via,hvL,hjp.symm⟩
 obtain⟨p,Zn,hvp⟩:=hp
 have hL1:∀f∈S1,f∈G.L:=fun f hf=>(R1.sE f hf).1
 have RI:¬gh s s1 v:=fun h=>Fi.2 h.1
 have hYn:∀y,Y y->¬gh o s1 y:=fun y hy h=>C.lS y hy h.1
 have Zo:∀y,Y y->¬gh s s1 y:=fun y hy h=>C1.lS y (.inl hy) h.1
 refine⟨⟨R1.eH.NA,R1.eH.inj,R1.eH.bv,R1.eH.nd,R1.eH.b9,R1.eH.Kr,R1.eH.Ks,R1.eH.ne⟩,B.old,hold,tO,B.vs.trans R.BY,?_,?_,NH,Gg,fun f hf=>?_,hbE,fun x hx dL f hf hi=>?_,fun d' qR=>?_,fun f hf hv y hy yR=>?_,?_,fun f hf y yR hi=>?_,fun h=>?_,fun f hf z hz=>?_,NL,VO⟩
 .show s1.oC=_
  rw[R1.oC]
  show s.oC++[d/2]++S1=_
  rw[R.oC];simp
 .show s1.dM=_
  rw[R1.dM]
  show s.dM++B1=_
  rw[R.dM];simp
 .rcases List.mem_append.1 hf with hf|hf
  .exact VP f hf
  rcases List.mem_cons.1 hf with rfl|hf
  .exact⟨hL,Ux,h2,v,T d,FG,.inl QJ,hj⟩
  obtain⟨k1,k2,k3,x,y,hx,hy,xN⟩:=R1.sE f hf
  have hx:gh s s1 x:=hx
  refine⟨k1,k2,fun e=>?_,x,y,(B.nw x).2 (.inr hx),?_,xN⟩
  .rcases C.up with⟨h,_⟩|⟨_,q,hq,hjq,_⟩
   .exact h (e▸k1)
   rw[e] at xN
   rcases hjq.of xN.left with e'|e'
   .exact Zo q hq (e'▸hx)
   exact RI (e'▸hx)
  rcases hy with hy|hy|hy
  .exact .inl ((B.nw y).2 (.inr hy))
  .exact .inr hy
  exact .inl (hy▸FG)
 .rcases(B.nw x).1 hx with h|h
  .rcases R.RD x h dL f hf hi with q|q|q
   .exact .inl ⟨q.1,R1.xM _ q.2⟩
   .exact .inr (.inl (List.mem_append_left _ q))
   exact .inr (.inr (by rw[List.flatten_append];exact List.mem_append_left _ q))
  rcases R1.RH HD x h f hf hi with q|q|q|q
  .exact .inl q
  .exact .inr (.inl (by rw[q];simp))
  .exact .inr (.inl (List.mem_append_right _ (List.mem_cons_of_mem _ q)))
  exact .inr (.inr (by rw[List.flatten_append];exact List.mem_append_right _ q))
 .rcases List.mem_append.1 qR with h|h
  .rcases R.DS d' h with q|q|q|q
   .exact .inl ⟨q.1,R1.xM _ q.2⟩
   .exact .inr (.inl q)
   .exact .inr (.inr (.inl (List.mem_append_left _ q)))
   exact .inr (.inr (.inr (by rw[List.flatten_append];exact List.mem_append_left _ q)))
  rw[List.mem_singleton.1 h];exact .inr (.inr (.inl (by simp)))
 .rcases List.mem_append.1 hf with hf|hf
  .exact NI f hf hv y hy yR
  rcases List.mem_cons.1 hf with rfl|hf
  .exact⟨d,by simp,rfl⟩
  exfalso
  obtain⟨k1,k2,k3,x,y',hx,Kb,xN⟩:=R1.sE f hf
  have hx:gh s s1 x:=hx
  have hvy:v=y':=by
   rcases xN.of hv with e|e
   .exact absurd (e▸hx) RI
   exact e
  have:y=y':=by
   rcases xN.of hy with e|e
   .exact absurd (e▸hx) (Zo y yR)
   exact e
  rw[this,<-hvy] at yR
  exact C.lS v yR C.new
 .show lZ s1.low v _ v<=s1.met v
  rw[Bp];exact NJ
 .show lZ s1.low v _ v<=s1.met y
  rw[Bp]
  rcases List.mem_append.1 hf with hf|hf
  .have:=R.NB f hf y yR hi
   rw[Zm y yR,B.lv];omega
  rcases List.mem_cons.1 hf with rfl|hf
  .exfalso
   rcases hj.of hi with e|e
   .exact C.lS y yR (by rw[e];exact C.new)
   exact C1.lS y (.inl yR) (by rw[e];exact h3)
  have:=R1.NB f hf y (.inl yR) hi
  omega
 .have h:lZ s1.low v (min (s1.low v) (s1.low (T d))) v<s1.met v:=h
  show ∃f∈_,∃x y,_/\_/\_/\s1.met y<=lZ s1.low v _ v
  rw[Bp] at h ⊢
  by_cases hm:s1.low v<=s1.low (T d)
  .obtain⟨f,hf,x,y,k1,k2,k3,k4⟩:=R.RF (by rw[<-B.lv,<-B.vs];omega)
   exact⟨f,List.mem_append_left _ hf,x,y,(B.nw x).2 (.inl k1),k2,k3,by rw[Zm y k2];have:=B.lv;omega⟩
  exact⟨f0,List.mem_append_right _ (List.mem_cons_of_mem _ DV),x0,y0,(B.nw x0).2 (.inr JY),Uz,qS,by omega⟩
 rcases List.mem_append.1 hf with hf|hf
 .exact NK f hf z hz
 have hup:v≠z->G.iB (fun x=>(gh o s1 x\/Y x)/\x≠z) v p:=fun dL=>Gr.iB.one ⟨.inl FG,dL⟩ hvp ⟨.inr Zn,fun e=>hYn p Zn (e▸hz)⟩
 have gp:¬gh s s1 z->∀x,gh s s1 x->G.iB (fun x=>(gh o s1 x\/Y x)/\x≠z) (T d) x:=fun hnz x hx=>
  Gr.iB.mono (P:=gh s s1) (fun y hy=>⟨.inl ((B.nw y).2 (.inr hy)),fun e=>hnz (e▸hy)⟩) (R1.conn x hx)
 have Zp:G.vo x0 y0:=⟨f0,hL1 f0 DV,qS⟩
 rcases List.mem_cons.1 hf with rfl|hf
 .by_cases Lw:v=z
  .have hnz:¬gh s s1 z:=Lw▸RI
   exact⟨T d,y0,hj.right,fun e=>hnz (e▸B.ND),Uz,(gp hnz x0 JY).step Zp ⟨.inr Uz,fun e=>hYn y0 Uz (e▸hz)⟩⟩
  exact⟨v,p,hj.left,Lw,Zn,hup Lw⟩
 by_cases Yb:gh s s1 z
 .obtain⟨a,y,k1,k2,k3,k4⟩:=R1.out f hf z Yb
  have Lw:v≠z:=fun e=>RI (e▸Yb)
  have k4':G.iB (fun x=>(gh o s1 x\/Y x)/\x≠z) a y:=k4.mono fun x hx=>by
   refine⟨?_,hx.2⟩
   rcases hx.1 with h|h|h
   .exact .inl ((B.nw x).2 (.inr h))
   .exact .inr h
   exact .inl (h▸FG)
  rcases k3 with k3|k3
  .exact⟨a,y,k1,k2,k3,k4'⟩
  rw[k3] at k4'
  exact⟨a,p,k1,k2,Zn,k4'.trans (hup Lw)⟩
 obtain⟨_,_,_,x,y,hx,hy,xN⟩:=R1.sE f hf
 have hx:gh s s1 x:=hx
 have hxz:x≠z:=fun e=>Yb (e▸hx)
 have UA:=(gp Yb x hx).symm
 by_cases Lw:v=z
 .exact⟨x,y0,xN.left,hxz,Uz,(UA.trans (gp Yb x0 JY)).step Zp ⟨.inr Uz,fun e=>hYn y0 Uz (e▸hz)⟩⟩
 exact⟨x,p,xN.left,hxz,Zn,(UA.step hvw.symm ⟨.inl FG,Lw⟩).trans (hup Lw)⟩
theorem lT.take (HD:ot G D T)(C:Ctx G Y o v via)(R:lT G T Y o v via dn s S Bs){d:Int}(hd:d∈D v)(h1:T d≠v)(h2:d/2≠via)(h3:s.met (T d)=0)
  (R1:lT G T (DU Y v) (kH s (d/2)) (T d) (d/2) (D (T d)) s1 S1 B1) (zV:¬s1.low (T d)<s1.met v):
  lT G T Y o v via (dn++[d]) {s1 with low:=lZ s1.low v (min (s1.low v) (s1.low (T d))),oC:=s.oC,dM:=s1.dM++[d/2::S1],ins:=s1.ins++[key (d/2::S1)]} S (Bs++B1++[d/2::S1]):=by
 obtain⟨hL,hj⟩:=HD.mem v d hd
 have C1:=R.child HD C hd h1 h2 h3
 have B:=R.behind HD C hd h1 h2 h3 R1
 have Fi:=R.DT C
 have FG:gh o s1 v:=(B.nw v).2 (.inl Fi)
 have QJ:gh o s1 (T d):=(B.nw _).2 (.inr B.ND)
 have Zm:∀y,Y y->s1.met y=s.met y:=fun y hy=>B.met y (C1.lS y (.inl hy))
 have Ux:¬G.lp (d/2):=fun h=>by
  rcases hj with⟨a,b⟩|⟨a,b⟩
  .exact h1 (by rw[<-a,<-b];exact h.symm)
  exact h1 (by rw[<-a,<-b];exact h)
 have Bp:lZ s1.low v (min (s1.low v) (s1.low (T d))) v=min (s1.low v) (s1.low (T d)):=xL _ _ _
 have hold:∀x,o.met x≠0->lZ s1.low v (min (s1.low v) (s1.low (T d))) x=o.low x:=fun x hx=>by
  rw[Ge _ _ (fun e=>hx (by rw[e];exact C.new))]
  exact(R1.Kt x (by have:=R.old x hx;show s.met x≠0;omega)).trans (R.Kt x hx)
 have tO:∀x,gh o s1 x->o.cnt<s1.met x:=fun x hx=>by
  rcases(B.nw x).1 hx with h|h
  .rw[B.met x h.2];exact R.new x h
  have h4:=R1.new x h
  have h5:(kH s (d/2)).cnt=s.cnt:=rfl
  have:=(R.eH.NA v).2
  have:=R.BY
  omega
 have NH:∀x y,gh o s1 x->x≠v->G.vo x y->s1.met y≠0:=fun x y hx dL ha=>by
  rcases(B.nw x).1 hx with h|h
  .have:=R.seen x y h dL ha
   rw[B.met y this];exact this
  exact R1.NF HD x y h ha
 have Gg:∀d'∈dn++[d],s1.met (T d')≠0:=fun d' qR=>by
  rcases List.mem_append.1 qR with h|h
  .have:=R.Ar d' h
   rw[B.met _ this];exact this
  rw[List.mem_singleton.1 h];exact B.ND.2
 have hbE:∀f∈(Bs++B1).flatten,∀x,G.inc f x->gh o s1 x:=fun f hf x hi=>by
  rw[List.flatten_append,List.mem_append] at hf
  rcases hf with h|h
  .exact(B.nw x).2 (.inl (R.bE f h x hi))
  exact(B.nw x).2 (.inr (R1.bE f h x hi))
 have NI:∀f∈S,G.inc f v->∀y,G.inc f y->Y y->∃d'∈dn++[d],d'/2=f:=fun f hf hv y hy yR=>by
  obtain⟨d',qR,e⟩:=R.src f hf hv y hy yR
  exact⟨d',List.mem_append_left _ qR,e⟩
 have NJ:min (s1.low v) (s1.low (T d))<=s1.met v:=by
  have:=R.RE
  rw[B.vs,B.lv];omega
 have NK:∀f∈S,∀z,gh o s1 z->∃a y,G.inc f a/\a≠z/\Y y/\G.iB (fun x=>(gh o s1 x\/Y x)/\x≠z) a y:=fun f hf z hz=>by
  rcases(B.nw z).1 hz with h|h
  .obtain⟨a,y,k1,k2,k3,k4⟩:=R.out f hf z h
   exact⟨a,y,k1,k2,k3,k4.mono fun x hx=>⟨hx.1.imp_left fun q=>(B.nw x).2 (.inl q),hx.2⟩⟩
  obtain⟨a,y,k1,k2,k3,k4⟩:=R.out f hf v Fi
  have ox:∀x,gh o s x\/Y x->x≠z:=fun x hx e=>by
   have h0:s.met z=0:=h.1
   rw[<-e] at h0
   rcases hx with hx|hx
   .exact hx.2 h0
   exact C1.lS x (.inl hx) h0
  exact⟨a,y,k1,ox a k4.first.1,k3,k4.mono fun x hx=>⟨hx.1.imp_left fun q=>(B.nw x).2 (.inl q),ox x hx.1⟩⟩
 have hvw:G.vo v (T d):=⟨_,hL,hj⟩
 have NL:∀x,gh o s1 x->G.iB (gh o s1) v x:=fun x hx=>by
  rcases(B.nw x).1 hx with h|h
  .exact(R.conn x h).mono fun y hy=>(B.nw y).2 (.inl hy)
  exact(Gr.iB.one FG hvw QJ).trans (Gr.iB.mono (P:=gh s s1) (fun y hy=>(B.nw y).2 (.inr hy)) (R1.conn x h))
 have VO:∀q∈o.ins,q∈s1.ins:=fun q hq=>R1.xM q (R.xM q hq)
 have VP:∀f∈S,f∈G.L/\¬G.lp f/\f≠via/\∃x y,gh o s1 x/\(gh o s1 y\/Y y)/\G.gN f x y:=fun f hf=>by
  obtain⟨k1,k2,k3,x,y,hx,hy,xN⟩:=R.sE f hf
  exact⟨k1,k2,k3,x,y,(B.nw x).2 (.inl hx),hy.imp_left fun q=>(B.nw y).2 (.inl q),xN⟩
 have Dy:=R.block HD C hd h1 h2 h3 R1 zV
 have As:∀f∈d/2::S1,∀x,G.inc f x->gh o s1 x:=fun f hf x hi=>by
  rcases List.mem_cons.1 hf with rfl|hf
  .rcases hj.of hi with e|e
   .rw[e];exact FG
   rw[e];exact QJ
  obtain⟨_,_,_,x',y',hx,hy,xN⟩:=R1.sE f hf
  rcases xN.of hi with e|e
  .rw[e];exact(B.nw x').2 (.inr hx)
  rcases hy with hy|hy
  .rw[e];exact(B.nw y').2 (.inr hy)
  rw[e,R.NG HD C hd h1 h2 h3 R1 zV hf hy xN.right];exact FG
 have Lv:(s1.dM.flatten++(s.oC++d/2::S1)).Nodup:=by
  have:=R1.eH.nd
  rw[R1.oC] at this
  simpa[kH] using this
 have Rr:min (s1.low v) (s1.low (T d))=s.low v:=by
  have:=R.RE
  rw[B.vs] at zV
  rw[B.lv];omega
 refine⟨⟨R1.eH.NA,R1.eH.inj,fun f hf x hi=>?_,?_,R1.eH.b9.snoc Dy,fun q hq=>?_,fun b hb=>?_,fun b hb=>?_⟩,B.old,hold,tO,B.vs.trans R.BY,R.oC,?_,NH,Gg,VP,fun f hf x hi=>?_,fun x hx dL f hf hi=>?_,fun d' qR=>?_,NI,?_,fun f hf y yR hi=>?_,fun h=>?_,NK,NL,fun q hq=>List.mem_append_left _ (VO q hq)⟩
 .have hf:f∈(s1.dM++[d/2::S1]).flatten:=hf
  rw[List.flatten_append,List.mem_append] at hf
  rcases hf with hf|hf
  .exact R1.eH.bv f hf x hi
  exact(As f (by simpa using hf) x hi).2
 .show((s1.dM++[d/2::S1]).flatten++s.oC).Nodup
  rw[List.flatten_append,List.append_assoc]
  refine(List.Perm.nodup_iff (List.Perm.append_left _ ?_)).2 Lv
  simp only[List.flatten_cons,List.flatten_nil,List.append_nil]
  exact List.perm_append_comm
 .rcases List.mem_append.1 hq with h|h
  .rcases R1.eH.Kr q h with h|⟨b,hb,e⟩
   .exact .inl h
   exact .inr ⟨b,List.mem_append_left _ hb,e⟩
  exact .inr ⟨_,List.mem_append_right _ (by simp),List.mem_singleton.1 h⟩
 .rcases List.mem_append.1 hb with h|h
  .exact List.mem_append_left _ (R1.eH.Ks b h)
  rw[List.mem_singleton.1 h];exact List.mem_append_right _ (by simp)
 .rcases List.mem_append.1 hb with h|h
  .exact R1.eH.ne b h
  rw[List.mem_singleton.1 h];simp
 .show s1.dM++[d/2::S1]=_
  rw[R1.dM]
  show s.dM++B1++_=_
  rw[R.dM];simp
 .rw[List.flatten_append,List.mem_append] at hf
  rcases hf with hf|hf
  .exact hbE f hf x hi
  exact As f (by simpa using hf) x hi
 .rcases(B.nw x).1 hx with h|h
  .rcases R.RD x h dL f hf hi with q|q|q
   .exact .inl ⟨q.1,List.mem_append_left _ (R1.xM _ q.2)⟩
   .exact .inr (.inl q)
   exact .inr (.inr (by simp only[List.flatten_append,List.mem_append];exact .inl (.inl q)))
  rcases R1.RH HD x h f hf hi with q|q|q|q
  .exact .inl ⟨q.1,List.mem_append_left _ q.2⟩
  .exact .inr (.inr (by rw[q];simp))
  .exact .inr (.inr (by simp[q]))
  exact .inr (.inr (by simp only[List.flatten_append,List.mem_append];exact .inl (.inr q)))
 .rcases List.mem_append.1 qR with h|h
  .rcases R.DS d' h with q|q|q|q
   .exact .inl ⟨q.1,List.mem_append_left _ (R1.xM _ q.2)⟩
   .exact .inr (.inl q)
   .exact .inr (.inr (.inl q))
   exact .inr (.inr (.inr (by simp only[List.flatten_append,List.mem_append];exact .inl (.inl q))))
  rw[List.mem_singleton.1 h];exact .inr (.inr (.inr (by simp)))
 .show lZ s1.low v _ v<=s1.met v
  rw[Bp];exact NJ
 .show lZ s1.low v _ v<=s1.met y
  rw[Bp,Rr,Zm y yR];exact R.NB f hf y yR hi
 have h:lZ s1.low v (min (s1.low v) (s1.low (T d))) v<s1.met v:=h
 show ∃f∈_,∃x y,_/\_/\_/\s1.met y<=lZ s1.low v _ v
 rw[Bp,Rr] at h ⊢
 rw[B.vs] at h
 obtain⟨f,hf,x,y,k1,k2,k3,k4⟩:=R.RF h
 exact⟨f,hf,x,y,(B.nw x).2 (.inl k1),k2,k3,by rw[Zm y k2];exact k4⟩
end
end Go.Proofs.YtnfdimfepbbbpaaGreat.Deep
namespace Go.Proofs.YtnfdimfepbbbpaaGreat.Deep
section
variable {G:Gr}{D:Int->List Int}{T:Int->Int}
def left (U:List Int)(s:St):Nat:=(U.filter fun x=>decide (s.met x=0)).length
end
end Go.Proofs.YtnfdimfepbbbpaaGreat.Deep
namespace Go.Proofs.YtnfdimfepbbbpaaGreat
open Go.RowKit
abbrev BZ (l:List Int):Prop:=l.Pairwise (· < ·)
theorem aG {l:List Int}{n:Int}:bP l n↔BZ l/\∀x∈l,0<=x/\x<n:=by
 constructor
 .intro h
  refine⟨List.pairwise_iff_getElem.2 fun i j hi hj Db=>?_,fun x hx=>?_⟩
  .have:=sN h Db hj
   simpa[List.getD_eq_getElem?_getD,List.getElem?_eq_getElem hi,List.getElem?_eq_getElem hj] using this
  obtain⟨j,hj,rfl⟩:=fC.1 hx
  have:=h j hj;omega
 rintro⟨h1,h2⟩ j hj
 have hm:=h2 (l.getD j 0) (fC.2 ⟨j,hj,rfl⟩)
 refine⟨hm.1,hm.2,fun h0=>?_⟩
 have:=List.pairwise_iff_getElem.1 h1 (j-1) j (by omega) hj (by omega)
 simpa[List.getD_eq_getElem?_getD,List.getElem?_eq_getElem hj,List.getElem?_eq_getElem (show j-1<l.length by omega)] using this
theorem Au {E:List (Int×Int)}{L:List Int}{x:Int}:x∈kG E L↔∃e∈L,BX E e x:=by
 unfold kG BX
 simp only[List.mem_flatMap,List.mem_cons,List.not_mem_nil,or_false]
 constructor<;>rintro⟨e,he,h⟩<;>exact⟨e,he,by rcases h with h|h;exact .inl h.symm;exact .inr h.symm⟩
theorem dH {E:List (Int×Int)}{L:List Int}{v d:Int}:d∈aR E L v↔d/2∈L/\ak E d=v:=by
 unfold aR cG
 simp only[List.mem_flatMap,List.mem_append]
 constructor
 .rintro⟨e,he,h⟩
  rcases h with h|h
  .split at h
   .rename_i q;simp at h;subst h;refine⟨by rw[show(2*e)/2=e by omega];exact he,?_⟩
    have:=q.2;rw[show 2*e+0=2*e by omega] at this;exact this
   simp at h
  split at h
  .rename_i q;simp at h;subst h;exact⟨by rw[show(2*e+1)/2=e by omega];exact he,q.2⟩
  simp at h
 rintro⟨he,h⟩
 refine⟨d/2,he,?_⟩
 by_cases c:d%2=0
 .left;rw[if_pos ⟨by omega,by rw[show 2*(d/2)+0=d by omega];exact h⟩];simp;omega
 right;rw[if_pos ⟨by omega,by rw[show 2*(d/2)+1=d by omega];exact h⟩];simp;omega
theorem qY {E:List (Int×Int)}{e v s d:Int}(h:d∈cG E e v s):d=2*e\/d=2*e+1:=by
 unfold cG at h
 rcases List.mem_append.1 h with h|h<;>split at h<;>simp at h<;>omega
theorem za (E:List (Int×Int))(e v s:Int):BZ (cG E e v s):=by
 unfold cG
 split<;>split<;>simp<;>omega
theorem jW {E:List (Int×Int)}{L:List Int}{v m:Int}(h:bP L m):bP (aR E L v) (2*m):=by
 obtain⟨h1,h2⟩:=aG.1 h
 refine aG.2 ⟨?_,fun x hx=>by have:=h2 _ (dH.1 hx).1;omega⟩
 unfold aR
 rw[BZ,List.pairwise_flatMap]
 refine⟨fun e _=>za E e v 0,h1.imp fun uY x hx y hy=>?_⟩
 have:=qY hx;have:=qY hy;omega
theorem mB (n:Int):∀(f:Nat) (a b:List Int),a.length+b.length<=f->BZ a->BZ b->BZ (p9 f a b n)/\∀x,x∈p9 f a b n↔(n=1/\(x∈a\/x∈b))\/(x∈a/\x∈b)
 |0,a,b,h,ha,hb=>by
  rw[List.eq_nil_of_length_eq_zero (show a.length=0 by omega),List.eq_nil_of_length_eq_zero (show b.length=0 by omega)]
  simp[p9]
 |f+1,[],[],h,ha,hb=>by simp[p9]
 |f+1,x::a,[],h,ha,hb=>by
  obtain⟨h1,h2⟩:=mB n f a [] (by simp at h ⊢;omega) (List.pairwise_cons.1 ha).2 hb
  have e:p9 (f+1) (x::a) [] n=(if n=1 then[x] else[])++p9 f a [] n:=by simp[p9]
  rw[e]
  by_cases hn:n=1
  .rw[if_pos hn]
   refine⟨List.pairwise_cons.2 ⟨fun y hy=>(List.pairwise_cons.1 ha).1 y ?_,h1⟩,fun y=>?_⟩
   .rcases(h2 y).1 hy with q|q
    .simpa using q.2
    exact q.1
   subst hn;have:=h2 y;simp at this;simp[this]
  rw[if_neg hn];exact⟨h1,fun y=>by simp[h2 y,hn]⟩
 |f+1,[],x::b,h,ha,hb=>by
  obtain⟨h1,h2⟩:=mB n f [] b (by simp at h ⊢;omega) ha (List.pairwise_cons.1 hb).2
  have e:p9 (f+1) [] (x::b) n=(if n=1 then[x] else[])++p9 f [] b n:=by simp[p9]
  rw[e]
  by_cases hn:n=1
  .rw[if_pos hn]
   refine⟨List.pairwise_cons.2 ⟨fun y hy=>(List.pairwise_cons.1 hb).1 y ?_,h1⟩,fun y=>?_⟩
   .rcases(h2 y).1 hy with q|q
    .simpa using q.2
    exact q.2
   subst hn;have:=h2 y;simp at this;simp[this]
  rw[if_neg hn];exact⟨h1,fun y=>by simp[h2 y,hn]⟩
 |f+1,x::a,y::b,h,ha,hb=>by
  obtain⟨a1,a2⟩:=List.pairwise_cons.1 ha
  obtain⟨b1,b2⟩:=List.pairwise_cons.1 hb
  have hl:a.length+b.length+2<=f+1:=by simp at h;omega
  by_cases c1:x<y
  .obtain⟨h1,h2⟩:=mB n f a (y::b) (by simp;omega) a2 hb
   have e:p9 (f+1) (x::a) (y::b) n=(if n=1 then[x] else[])++p9 f a (y::b) n:=by simp[p9,c1]
   rw[e]
   have hx:∀z∈p9 f a (y::b) n,x<z:=fun z hz=>by
    have hm:z∈a\/z∈y::b:=by rcases(h2 z).1 hz with q|q;exact q.2;exact .inl q.1
    rcases hm with q|q
    .exact a1 z q
    rcases List.mem_cons.1 q with q|q
    .omega
    have:=b1 z q;omega
   have hxb:x∉y::b:=fun q=>by
    rcases List.mem_cons.1 q with q|q
    .omega
    have:=b1 x q;omega
   by_cases hn:n=1
   .rw[if_pos hn]
    refine⟨List.pairwise_cons.2 ⟨hx,h1⟩,fun z=>?_⟩
    rw[List.singleton_append,List.mem_cons,h2 z]
    simp only[hn,true_and,List.mem_cons]
    clear h2 hx hxb ha hb
    by_cases p1:z=x<;>by_cases p2:z∈a<;>by_cases p3:z=y<;>by_cases p4:z∈b<;>simp[p1,p2,p3,p4]
   rw[if_neg hn,List.nil_append]
   refine⟨h1,fun z=>?_⟩
   rw[h2 z]
   simp only[hn,false_and,false_or]
   constructor
   .rintro⟨q,q'⟩;exact⟨List.mem_cons_of_mem _ q,q'⟩
   rintro⟨q,q'⟩
   rcases List.mem_cons.1 q with q|q
   .subst q;exact(hxb q').elim
   exact⟨q,q'⟩
  by_cases c2:y<x
  .obtain⟨h1,h2⟩:=mB n f (x::a) b (by simp;omega) ha b2
   have e:p9 (f+1) (x::a) (y::b) n=(if n=1 then[y] else[])++p9 f (x::a) b n:=by simp[p9,c1,c2]
   rw[e]
   have hx:∀z∈p9 f (x::a) b n,y<z:=fun z hz=>by
    have hm:z∈x::a\/z∈b:=by rcases(h2 z).1 hz with q|q;exact q.2;exact .inr q.2
    rcases hm with q|q
    .rcases List.mem_cons.1 q with q|q
     .omega
     have:=a1 z q;omega
    exact b1 z q
   have hyb:y∉x::a:=fun q=>by
    rcases List.mem_cons.1 q with q|q
    .omega
    have:=a1 y q;omega
   by_cases hn:n=1
   .rw[if_pos hn]
    refine⟨List.pairwise_cons.2 ⟨hx,h1⟩,fun z=>?_⟩
    rw[List.singleton_append,List.mem_cons,h2 z]
    simp only[hn,true_and,List.mem_cons]
    clear h2 hx hyb ha hb
    by_cases p1:z=x<;>by_cases p2:z∈a<;>by_cases p3:z=y<;>by_cases p4:z∈b<;>simp[p1,p2,p3,p4]
   rw[if_neg hn,List.nil_append]
   refine⟨h1,fun z=>?_⟩
   rw[h2 z]
   simp only[hn,false_and,false_or]
   constructor
   .rintro⟨q,q'⟩;exact⟨q,List.mem_cons_of_mem _ q'⟩
   rintro⟨q,q'⟩
   rcases List.mem_cons.1 q' with p|p
   .subst p;exact(hyb q).elim
   exact⟨q,p⟩
  obtain rfl:x=y:=by omega
  obtain⟨h1,h2⟩:=mB n f a b (by omega) a2 b2
  have e:p9 (f+1) (x::a) (x::b) n=[x]++p9 f a b n:=by simp[p9]
  rw[e]
  refine⟨List.pairwise_cons.2 ⟨fun z hz=>?_,h1⟩,fun z=>?_⟩
  .rcases(h2 z).1 hz with q|q
   .rcases q.2 with q|q
    .exact a1 z q
    exact b1 z q
   exact a1 z q.1
  rw[List.singleton_append,List.mem_cons,h2 z]
  simp only[List.mem_cons]
  by_cases hz:z=x
  .simp[hz]
  simp[hz]
theorem RJ {a b:List Int}(ha:BZ a)(hb:BZ b):BZ (gd a b 1)/\∀x,x∈gd a b 1↔x∈a\/x∈b:=by
 obtain⟨h1,h2⟩:=mB 1 _ a b (Nat.le_refl _) ha hb
 exact⟨h1,fun x=>(h2 x).trans ⟨fun q=>q.elim (fun q=>q.2) (fun q=>.inl q.1),fun q=>.inl ⟨rfl,q⟩⟩⟩
theorem vR (n:Int):∀(f:Nat) (a b:List Int),(p9 f a b n).length<=f
 |0,a,b=>by simp[p9]
 |f+1,a,b=>by
  unfold p9
  have h1:=vR n f (a.drop 1) b
  have h2:=vR n f a (b.drop 1)
  have h3:=vR n f (a.drop 1) (b.drop 1)
  (repeat' split)<;>simp only[List.length_append,List.length_cons,List.length_nil]<;>omega
theorem Gh (a b:List Int)(n:Int):(gd a b n).length<=a.length+b.length:=vR n _ a b
end Go.Proofs.YtnfdimfepbbbpaaGreat
namespace Go.Proofs.YtnfdimfepbbbpaaGreat
open Go.Proofs.YtnfdimfepbbbpaaGreat.Deep
def eA (E:List (Int×Int))(f:Int):Int:=(E.getD f.toNat (0,0)).1
def eB (E:List (Int×Int))(f:Int):Int:=(E.getD f.toNat (0,0)).2
abbrev zb (E:List (Int×Int))(L:List Int):Gr:=⟨L,eA E,eB E⟩
def bJ (E:List (Int×Int))(d:Int):Int:=if d%2=0 then eB E (d/2) else eA E (d/2)
theorem vS {E:List (Int×Int)}{d:Int}:ak E d=if d%2=0 then eA E (d/2) else eB E (d/2):=rfl
theorem qg {l:List Int}(h:BZ l):l.Nodup:=h.imp fun h e=>by omega
theorem DW {E:List (Int×Int)}{L:List Int}{m:Int}(hL:bP L m):ot (zb E L) (aR E L) (bJ E):=by
 have hj:∀v d,d∈aR E L v->(zb E L).gN (d/2) v (bJ E d):=fun v d hd=>by
  obtain⟨h1,h2⟩:=dH.1 hd
  rw[vS] at h2
  unfold bJ Gr.gN
  split at h2
  .rename_i h;rw[if_pos h];exact .inl ⟨h2,rfl⟩
  rename_i h;rw[if_neg h];exact .inr ⟨rfl,h2⟩
 refine⟨fun v d hd=>⟨(dH.1 hd).1,hj v d hd⟩,fun f x hf hi=>?_,fun v d d' h1 h2 he dL=>?_,fun v=>qg (aG.1 (jW hL)).1⟩
 .rcases hi with h|h
  .refine⟨2*f,dH.2 ⟨by rw[show 2*f/2=f by omega];exact hf,?_⟩,by omega⟩
   rw[vS,if_pos (by omega),show 2*f/2=f by omega];exact h
  refine⟨2*f+1,dH.2 ⟨by rw[show(2*f+1)/2=f by omega];exact hf,?_⟩,by omega⟩
  rw[vS,if_neg (by omega),show(2*f+1)/2=f by omega];exact h
 refine Classical.byContradiction fun hd=>dL ?_
 have t1:=(dH.1 h1).2
 have t2:=(dH.1 h2).2
 rw[vS] at t1 t2
 unfold bJ
 by_cases c:d%2=0
 .rw[if_neg (by omega),<-he] at t2
  rw[if_pos c];exact t2
 rw[if_pos (by omega),<-he] at t2
 rw[if_neg c];exact t2
def nL (E:List (Int×Int))(but:Int)(i:Nat)(m:List Int)(e:Int):List Int:=
 let m1:=if eA E e=m.getD i 0/\eB E e≠but/\eB E e∉m then m++[eB E e] else m
 if eB E e=m1.getD i 0/\eA E e≠but/\eA E e∉m1 then m1++[eA E e] else m1
def dO (E:List (Int×Int))(but:Int)(i:Nat)(l:List Int)(m:List Int):List Int:=l.foldl (nL E but i) m
def Ku (E:List (Int×Int))(L:List Int)(but:Int):Nat->Nat->List Int->List Int
 |0,_,m=>m
 |f+1,i,m=>if i<m.length then Ku E L but f (i+1) (dO E but i L m) else m
def spread (E:List (Int×Int))(L:List Int)(a but:Int):List Int:=Ku E L but (2*L.length+1) 0 [a]
def ja (but:Int)(i:Nat)(m:List Int)(x y:Int):List Int:=if x=m.getD i 0/\y≠but/\y∉m then m++[y] else m
theorem mC (E:List (Int×Int))(but:Int)(i:Nat)(m:List Int)(e:Int):nL E but i m e=ja but i (ja but i m (eA E e) (eB E e)) (eB E e) (eA E e):=rfl
structure Sp (G:Gr)(a but:Int)(U:List Int)(m:List Int):Prop where
 nd:m.Nodup
 fst:a∈m
 rch:∀x∈m,G.iB (· ≠but) a x
 sub:∀x∈m,x∈U
theorem NM {G:Gr}{a but:Int}{U m:List Int}{i:Nat}{x y e:Int}(h:Sp G a but U m)(he:e∈G.L)(hj:G.gN e x y)(hy:y∈U)(hi:i<m.length):
  Sp G a but U (ja but i m x y)/\(∃r,ja but i m x y=m++r)/\(x=m.getD i 0->y≠but->y∈ja but i m x y):=by
 unfold ja
 split
 .rename_i c
  refine⟨⟨?_,List.mem_append_left _ h.fst,fun z hz=>?_,fun z hz=>?_⟩,⟨_,rfl⟩,fun _ _=>by simp⟩
  .rw[List.nodup_append]
   exact⟨h.nd,by simp,fun p hp q hq e=>c.2.2 (by rw[List.mem_singleton.1 hq] at e;exact e▸hp)⟩
  .rcases List.mem_append.1 hz with hz|hz
   .exact h.rch z hz
   rw[List.mem_singleton.1 hz]
   exact(h.rch x (c.1▸fC.2 ⟨i,hi,rfl⟩)).step ⟨e,he,hj⟩ c.2.1
  rcases List.mem_append.1 hz with hz|hz
  .exact h.sub z hz
  rw[List.mem_singleton.1 hz];exact hy
 rename_i c
 refine⟨h,⟨[],by simp⟩,fun h1 h2=>Classical.byContradiction fun h3=>c ⟨h1,h2,h3⟩⟩
theorem o8 {m r:List Int}{i:Nat}(h:i<m.length):(m++r).getD i 0=m.getD i 0:=by
 rw[List.getD_eq_getElem?_getD,List.getD_eq_getElem?_getD,List.getElem?_append_left h]
theorem mD {E:List (Int×Int)}{L:List Int}{a but:Int}{U:List Int}(hU:∀e∈L,eA E e∈U/\eB E e∈U){i:Nat}:∀ {l:List Int} {m:List Int},(∀e∈l,e∈L)->Sp (zb E L) a but U m->i<m.length->
  Sp (zb E L) a but U (dO E but i l m)/\(∃r,dO E but i l m=m++r)/\(∀e∈l,∀y,(zb E L).gN e (m.getD i 0) y->y≠but->y∈dO E but i l m)
 |[],m,_,h,_=>⟨h,⟨[],by simp[dO]⟩,fun e he=>by simp at he⟩
 |e::l,m,hs,h,hi=>by
  have he:=hs e (by simp)
  obtain⟨h1,⟨r1,e1⟩,k1⟩:=NM (G:=zb E L) (e:=e) (i:=i) (x:=eA E e) (y:=eB E e) h he (.inl ⟨rfl,rfl⟩) (hU e he).2 hi
  have hi1:i<(ja but i m (eA E e) (eB E e)).length:=by rw[e1,List.length_append];omega
  obtain⟨h2,⟨r2,e2⟩,k2⟩:=NM (G:=zb E L) (e:=e) (i:=i) (x:=eB E e) (y:=eA E e) h1 he (.inr ⟨rfl,rfl⟩) (hU e he).1 hi1
  have vE:i<(nL E but i m e).length:=by rw[mC,e2,List.length_append];omega
  obtain⟨h3,⟨r3,e3⟩,k3⟩:=mD hU (l:=l) (m:=nL E but i m e) (i:=i) (fun x hx=>hs x (List.mem_cons_of_mem _ hx)) h2 vE
  have aaW:∀x,x∈nL E but i m e->x∈dO E but i (e::l) m:=fun x hx=>by
   show x∈dO E but i l (nL E but i m e)
   rw[e3];exact List.mem_append_left _ hx
  have CP:(ja but i m (eA E e) (eB E e)).getD i 0=m.getD i 0:=by rw[e1];exact o8 hi
  have Yn:(nL E but i m e).getD i 0=m.getD i 0:=by rw[mC,e2,o8 hi1,CP]
  refine⟨h3,⟨r1++r2++r3,?_⟩,fun f hf y hj hy=>?_⟩
  .show dO E but i l (nL E but i m e)=_
   rw[e3,mC,e2,e1];simp
  rcases List.mem_cons.1 hf with rfl|hf
  .refine aaW y ?_
   rw[mC]
   rcases hj with⟨p,q⟩|⟨p,q⟩
   .have:=k1 p (by rw[show eB E f=y from q];exact hy)
    rw[show eB E f=y from q] at this
    rw[e2]
    rw[show eB E f=y from q]
    exact List.mem_append_left _ this
   have:=k2 (by rw[CP];exact q) (by rw[show eA E f=y from p];exact hy)
   rw[show eA E f=y from p] at this ⊢
   exact this
  exact k3 f hf y (by rw[Yn];exact hj) hy
theorem Gi {E:List (Int×Int)}{L:List Int}{a but:Int}{U:List Int}(hU:∀e∈L,eA E e∈U/\eB E e∈U):∀(f i:Nat) (m:List Int),Sp (zb E L) a but U m->U.length<=i+f->(∀j,j<i->j<m.length->∀y,(zb E L).vo (m.getD j 0) y->y≠but->y∈m)->i<=m.length->
  Sp (zb E L) a but U (Ku E L but f i m)/\(∀x∈Ku E L but f i m,∀y,(zb E L).vo x y->y≠but->y∈Ku E L but f i m)
 |0,i,m,h,hf,hc,hi=>by
  have hle:m.length<=U.length:=by
   have:=h.nd.length_le_of_subset h.sub
   exact this
  refine⟨h,fun x hx y ha hy=>?_⟩
  have hx:x∈m:=hx
  obtain⟨j,hj,e⟩:=fC.1 hx
  exact hc j (by omega) hj y (by rw[e];exact ha) hy
 |f+1,i,m,h,hf,hc,hi=>by
  unfold Ku
  split
  .rename_i iH
   obtain⟨h1,⟨r,e1⟩,h3⟩:=mD (i:=i) hU (l:=L) (fun _ h=>h) h iH
   refine Gi hU f (i+1) _ h1 (by omega) (fun j hj Hw y ha hy=>?_) (by rw[e1,List.length_append];omega)
   by_cases c:j=i
   .subst c
    have hg:(dO E but j L m).getD j 0=m.getD j 0:=by rw[e1];exact o8 iH
    rw[hg] at ha
    obtain⟨e,he,hj⟩:=ha
    exact h3 e he y hj hy
   have hg:(dO E but i L m).getD j 0=m.getD j 0:=by rw[e1];exact o8 (by omega)
   rw[hg] at ha
   rw[e1]
   exact List.mem_append_left _ (hc j (by omega) (by omega) y ha hy)
  refine⟨h,fun x hx y ha hy=>?_⟩
  obtain⟨j,hj,e⟩:=fC.1 hx
  exact hc j (by omega) hj y (by rw[e];exact ha) hy
theorem qh (E:List (Int×Int)):∀L:List Int,(kG E L).length=2*L.length
 |[]=>rfl
 |x::l=>by
  have h:kG E (x::l)=[(E.getD x.toNat (0,0)).1,(E.getD x.toNat (0,0)).2]++kG E l:=rfl
  rw[h,List.length_append,qh E l];simp;omega
section
variable {n:Int}{E:List (Int×Int)}{V L:List Int}{s:St}
end
def qZ (E:List (Int×Int))(m:List (Int×List Int))(e:Int):List (Int×List Int):=
 cB (cB m (E.getD e.toNat (0,0)).1 ((ah m (E.getD e.toNat (0,0)).1).getD []++[2*e])) (E.getD e.toNat (0,0)).2
  ((ah (cB m (E.getD e.toNat (0,0)).1 ((ah m (E.getD e.toNat (0,0)).1).getD []++[2*e])) (E.getD e.toNat (0,0)).2).getD []++[2*e+1])
def bV (E:List (Int×Int))(L:List Int):List (Int×List Int):=L.foldl (qZ E) []
theorem Kv {E:List (Int×Int)}{L M:List Int}{x:Int}:aR E (L++M) x=aR E L x++aR E M x:=by unfold aR;rw[List.flatMap_append]
theorem Gj {E:List (Int×Int)}{L:List Int}{i:Int}(h0:0<=i)(h:i<(L.length:Int)):bV E (L.take (i+1).toNat)=qZ E (bV E (L.take i.toNat)) (L.getD i.toNat 0):=by
 unfold bV
 rw[show(i+1).toNat=i.toNat+1 by omega,List.take_succ_eq_append_getElem (by omega),List.foldl_append,List.getD_eq_getElem?_getD,List.getElem?_eq_getElem (show i.toNat<L.length by omega)]
 rfl
theorem Gk {E:List (Int×Int)}{m:List (Int×List Int)}{e v:Int}:(ah (qZ E m e) v).getD []=(ah m v).getD []++cG E e v 0:=by
 unfold qZ cG
 rw[bO,bO,bO,RA,RB]
 generalize (E.getD e.toNat (0,0)).1=A
 generalize (E.getD e.toNat (0,0)).2=B
 by_cases h1:A=v<;>by_cases h2:B=v
 .simp[h1,h2]
 .simp[h1,h2]
 .have:¬A=B:=fun q=>h1 (q.trans h2)
  simp[h1,h2,this]
 simp[h1,h2]
theorem xO (E:List (Int×Int))(v:Int):∀(L M:List Int),(∀x,(ah (M.foldl (qZ E) []) x).getD []=aR E M x)->(ah ((L.foldl (qZ E) (M.foldl (qZ E) []))) v).getD []=aR E (M++L) v
 |[],M,h=>by rw[List.append_nil];exact h v
 |e::L,M,h=>by
  have:=xO E v L (M++[e]) fun x=>by
   rw[List.foldl_append,List.foldl_cons,List.foldl_nil,Gk,h x,Kv]
   simp[aR]
  rw[List.foldl_append,List.foldl_cons,List.foldl_nil] at this
  rw[List.foldl_cons,this,List.append_assoc];rfl
theorem qj {E:List (Int×Int)}{L:List Int}{v:Int}:(ah (bV E L) v).getD []=aR E L v:=by
 have:=xO E v L [] fun x=>rfl
 exact this
theorem ze (E:List (Int×Int))(e v s:Int):(cG E e v s).length<=2:=by
 unfold cG;split<;>split<;>simp
theorem rN (E:List (Int×Int))(v:Int):∀L:List Int,(aR E L v).length<=2*L.length
 |[]=>by simp[aR]
 |e::L=>by
  have h1:=ze E e v 0
  have h2:=rN E v L
  show(cG E e v 0++aR E L v).length<=_
  rw[List.length_append,List.length_cons];omega
theorem Av (E:List (Int×Int)):∀(L:List Int) (m:List (Int×List Int)),(L.foldl (qZ E) m).length<=m.length+2*L.length
 |[],m=>by simp
 |e::L,m=>by
  have h1:=Av E L (qZ E m e)
  have h2:(qZ E m e).length<=m.length+2:=Nat.le_trans (dh _ _ _) (Nat.succ_le_succ (dh _ _ _))
  rw[List.foldl_cons,List.length_cons];omega
theorem Ib {n:Int}{E:List (Int×Int)}(hr:bh n E=0){e:Int}(h0:0<=e)(h1:e<(E.length:Int)):0<=(E.getD e.toNat (0,0)).1/\(E.getD e.toNat (0,0)).1<n/\0<=(E.getD e.toNat (0,0)).2/\(E.getD e.toNat (0,0)).2<n:=by
 obtain⟨_,_,_,h⟩:=aN hr
 obtain⟨a,b,c,d⟩:=h e.toNat (by omega)
 exact⟨a,b,c,d⟩
theorem rO {n:Int}{E:List (Int×Int)}{V L:List Int}(hp:aA n E V L=0){i:Int}{m:List (Int×List Int)}(hm:m=bV E (L.take i.toNat))(h0:0<=i)(h1:i<(L.length:Int)):
  (0<=L.getD i.toNat 0/\L.getD i.toNat 0<(E.length:Int)/\(E.length:Int)<=1024)/\
  (0<=(E.getD (L.getD i.toNat 0).toNat (0,0)).1/\(E.getD (L.getD i.toNat 0).toNat (0,0)).1<1024/\0<=(E.getD (L.getD i.toNat 0).toNat (0,0)).2/\(E.getD (L.getD i.toNat 0).toNat (0,0)).2<1024)/\
  ((ah m (E.getD (L.getD i.toNat 0).toNat (0,0)).1).getD []).length<=4096/\
  m.length<=4096/\
  ((ah (cB m (E.getD (L.getD i.toNat 0).toNat (0,0)).1 ((ah m (E.getD (L.getD i.toNat 0).toNat (0,0)).1).getD []++[2*L.getD i.toNat 0])) (E.getD (L.getD i.toNat 0).toNat (0,0)).2).getD []).length<=4096/\
  (cB m (E.getD (L.getD i.toNat 0).toNat (0,0)).1 ((ah m (E.getD (L.getD i.toNat 0).toNat (0,0)).1).getD []++[2*L.getD i.toNat 0])).length<=4096:=by
 subst hm
 obtain⟨hr,hV,hL,_⟩:=aD hp
 obtain⟨r1,r2,r3,r4⟩:=aN hr
 have hlen:=ay hL (by omega)
 obtain⟨k1,k2,_⟩:=hL i.toNat (by omega)
 obtain⟨e1,e2,e3,e4⟩:=Ib hr k1 k2
 have Km:(L.take i.toNat).length<=1024:=by rw[List.length_take];omega
 have hd:∀v,((ah (bV E (L.take i.toNat)) v).getD []).length<=2048:=fun v=>by
  rw[qj]
  exact Nat.le_trans (rN E v _) (by omega)
 have hl:=Av E (L.take i.toNat) []
 have hl:(bV E (L.take i.toNat)).length<=2048:=by
  unfold bV
  simp only[List.length_nil] at hl;omega
 refine⟨⟨k1,k2,by omega⟩,⟨e1,by omega,e3,by omega⟩,Nat.le_trans (hd _) (by omega),by omega,?_,Nat.le_trans (dh _ _ _) (by omega)⟩
 rw[bO]
 split
 .have:=hd (E.getD (L.getD i.toNat 0).toNat (0,0)).1
  simp only[Option.getD_some,List.length_append,List.length_singleton];omega
 exact Nat.le_trans (hd _) (by omega)
def dV (E:List (Int×Int))(v shut:Int)(s:List (Int×Int)×List Int)(d:Int):List (Int×Int)×List Int:=
 if(ah s.1 (bJ E d)).isSome=true\/bJ E d=shut then s else(cB s.1 (bJ E d) ((ah s.1 v).getD 0+1),s.2++[bJ E d])
def ff (E:List (Int×Int))(M:List (Int×List Int))(v shut:Int)(s:List (Int×Int)×List Int):List (Int×Int)×List Int:=((ah M v).getD []).foldl (dV E v shut) s
def uf (E:List (Int×Int))(M:List (Int×List Int))(shut:Int):Nat->Int->List (Int×Int)×List Int->List (Int×Int)
 |0,_,s=>s.1
 |f+1,v,s=>match(ff E M v shut s).2 with
  |[]=>(ff E M v shut s).1
  |x::q=>uf E M shut f x ((ff E M v shut s).1,q)
def dI (E:List (Int×Int))(M:List (Int×List Int))(a shut:Int):List (Int×Int):=uf E M shut (2*E.length+2) a ([(a,0)],[])
theorem DX {α:Type}{l:List (Int×α)}{x:Int}{v:α}(h:ah l x=none):(cB l x v).length=l.length+1:=by
 rw[(C8 h).length_eq];rfl
structure Kw (U:List Int)(s:List (Int×Int)×List Int):Prop where
 nd:(s.1.map (·.1)).Nodup
 sub:∀p∈s.1,p.1∈U
theorem Kw.len {U:List Int}{s:List (Int×Int)×List Int}(h:Kw U s):s.1.length<=U.length:=by
 have:=List.Nodup.length_le_of_subset h.nd (l₂:=U) (fun x hx=>by obtain⟨p,hp,rfl⟩:=List.mem_map.1 hx;exact h.sub p hp)
 rwa[List.length_map] at this
theorem Gl {U:List Int}{E:List (Int×Int)}{v shut d:Int}{s:List (Int×Int)×List Int}(h:Kw U s)(hd:bJ E d∈U):Kw U (dV E v shut s d)/\(dV E v shut s d).1.length+s.2.length=s.1.length+(dV E v shut s d).2.length:=by
 unfold dV
 split
 .exact⟨h,rfl⟩
 rename_i q
 have hn:ah s.1 (bJ E d)=none:=by
  cases hl:ah s.1 (bJ E d) with
  |none=>rfl
  |some z=>exact(q (.inl (by rw[hl];rfl))).elim
 refine⟨⟨?_,fun p hp=>?_⟩,?_⟩
 .have:=(C8 (v:=(ah s.1 v).getD 0+1) hn).map (·.1)
  refine this.nodup_iff.2 (List.nodup_cons.2 ⟨fun hm=>?_,h.nd⟩)
  obtain⟨p,hp,e⟩:=List.mem_map.1 hm
  exact l6.1 hn p.2 (by rw[show(bJ E d,p.2)=p from Prod.ext e.symm rfl];exact hp)
 .rcases HC.1 hp with rfl|⟨hp,_⟩
  .exact hd
  exact h.sub p hp
 show(cB s.1 _ _).length+s.2.length=s.1.length+(s.2++[bJ E d]).length
 rw[DX hn,List.length_append];simp;omega
theorem RK {a b:Bool}(h:a=true/\b=true):(a && b)=true:=by rw[h.1,h.2];rfl
theorem VQ {a b:Bool}(h:a=false\/b=false):(a && b)=false:=by rcases h with h|h<;>rw[h]<;>simp
theorem Zq {a:Bool}{p:Prop}(h:a=false/\¬p):¬(a=true\/p):=fun q=>q.elim (fun z=>by rw[h.1] at z;cases z) h.2
theorem RL {l:List Int}(h:¬l=[]):l=l.getD 0 0::l.drop 1:=by
 cases l with
 |nil=>exact(h rfl).elim
 |cons x l=>rfl
theorem DY {n:Int}{E:List (Int×Int)}(hr:bh n E=0){d:Int}(h0:0<=d)(h1:d/2<(E.length:Int)):0<=bJ E d/\bJ E d<1024/\bJ E d∈E.flatMap fun e=>[e.1,e.2]:=by
 have hn:=(aN hr).2.1
 obtain⟨a,b,c,e⟩:=Ib hr (e:=d/2) (by omega) h1
 have hm:E.getD (d/2).toNat (0,0)∈E:=by
  rw[List.getD_eq_getElem?_getD,List.getElem?_eq_getElem (show(d/2).toNat<E.length by omega)]
  exact List.getElem_mem _
 unfold bJ eA eB
 split
 .exact⟨c,by omega,List.mem_flatMap.2 ⟨_,hm,by simp⟩⟩
 exact⟨a,by omega,List.mem_flatMap.2 ⟨_,hm,by simp⟩⟩
def Zr (E:List (Int×Int))(M:List (Int×List Int)):Prop:=∀v,∀d∈(ah M v).getD [],0<=d/\d/2<(E.length:Int)
def univ (E:List (Int×Int))(a:Int):List Int:=a::E.flatMap fun e=>[e.1,e.2]
theorem DZ (E:List (Int×Int))(a:Int):(univ E a).length=2*E.length+1:=by
 have:∀E:List (Int×Int),(E.flatMap fun e=>[e.1,e.2]).length=2*E.length:=fun E=>by
  induction E with
  |nil=>rfl
  |cons e E ih=>rw[List.flatMap_cons,List.length_append,ih];simp;omega
 show(E.flatMap fun e=>[e.1,e.2]).length+1=_
 rw[this]
theorem RM {n:Int}{E:List (Int×Int)}(hr:bh n E=0){a:Int}(h0:0<=a)(h1:a<1024):∀x∈univ E a,0<=x/\x<1024:=fun x hx=>by
 have hn:=(aN hr).2.1
 rcases List.mem_cons.1 hx with rfl|hx
 .exact⟨h0,h1⟩
 obtain⟨e,he,hx⟩:=List.mem_flatMap.1 hx
 obtain⟨j,hj,rfl⟩:=List.getElem_of_mem he
 have:=(aN hr).2.2.2 j hj
 rw[List.getD_eq_getElem?_getD,List.getElem?_eq_getElem hj] at this
 obtain⟨p,q,r,t⟩:=this
 simp only[Option.getD_some] at p q r t
 rcases List.mem_cons.1 hx with rfl|hx
 .exact⟨p,by omega⟩
 rw[List.mem_singleton.1 hx];exact⟨r,by omega⟩
structure Gm (E:List (Int×Int))(a:Int)(v:Int)(k:Nat)(m:List (Int×Int))(q:List Int):Prop where
 s:Kw (univ E a) (m,q)
 vU:v∈univ E a
 qU:∀x∈q,x∈univ E a
 n:m.length=k+1+q.length
 b:∀p∈m,0<=p.2/\p.2<=(k:Int)+1
 vM:(ah m v).isSome=true
 qM:∀x∈q,(ah m x).isSome=true
 c:0<=(ah m v).getD 0/\(ah m v).getD 0<=(k:Int)
structure B0 (E:List (Int×Int))(M:List (Int×List Int))(a shut v:Int)(ok:Bool)(q:List Int)(m:List (Int×Int))(k:Nat):Prop where
 go:ok=true->Gm E a v k m q/\(∀p∈m,p.2<=(k:Int))/\dI E M a shut=uf E M shut (2*E.length+2-k) v (m,q)
 done:ok=false->m=dI E M a shut
 kB:k<=2*E.length+1
theorem nM {m:List (Int×Int)}{P:Int->Prop}(h0:P 0)(h:∀p∈m,P p.2)(v:Int):P ((ah m v).getD 0):=by
 cases hl:ah m v with
 |none=>exact h0
 |some z=>exact h _ (lz hl)
theorem Ic {α:Type}(a:Int)(y:α):ah [(a,y)] a=some y:=by
 cases h:ah [(a,y)] a with
 |none=>exact(l6.1 h y List.mem_cons_self).elim
 |some z=>have:=List.mem_singleton.1 (lz h);cases this;rfl
theorem B0.init (E:List (Int×Int))(M:List (Int×List Int))(a shut:Int):B0 E M a shut a true [] [(a,0)] 0:=by
 refine⟨fun _=>⟨⟨⟨by simp,fun p hp=>?_⟩,List.mem_cons_self,fun x hx=>(by cases hx),rfl,fun p hp=>?_,by rw[Ic];rfl,fun x hx=>(by cases hx),nM (P:=fun y=>0<=y/\y<=((0:Nat):Int)) ⟨by omega,by omega⟩ (fun p hp=>by rw[List.mem_singleton.1 hp];exact⟨by simp,by simp⟩) a⟩,fun p hp=>?_,rfl⟩,(fun q=>by cases q),by omega⟩
 .rw[List.mem_singleton.1 hp];exact List.mem_cons_self
 .rw[List.mem_singleton.1 hp];exact⟨by simp,by simp⟩
 rw[List.mem_singleton.1 hp];simp
theorem Gm.bd {E:List (Int×Int)}{a v:Int}{k:Nat}{m:List (Int×Int)}{q:List Int}(h:Gm E a v k m q):m.length<=2*E.length+1/\k<=2*E.length:=by
 have h1:=h.s.len
 rw[DZ] at h1
 have h2:=h.n
 simp only at h1
 exact⟨h1,by omega⟩
theorem Gm.Zs {E:List (Int×Int)}{a v shut d:Int}{k:Nat}{m:List (Int×Int)}{q:List Int}(h:Gm E a v k m q)(hd:bJ E d∈univ E a)(hn:¬((ah m (bJ E d)).isSome=true\/bJ E d=shut)):
  Gm E a v k (cB m (bJ E d) ((ah m v).getD 0+1)) (q++[bJ E d]):=by
 have hv:=h.vM
 have e:dV E v shut (m,q) d=(cB m (bJ E d) ((ah m v).getD 0+1),q++[bJ E d]):=by unfold dV;rw[if_neg hn]
 obtain⟨k1,k2⟩:=Gl (v:=v) (shut:=shut) h.s hd
 rw[e] at k1 k2
 have dL:¬bJ E d=v:=fun z=>hn (.inl (by rw[z];exact hv))
 refine⟨k1,h.vU,fun x hx=>?_,?_,fun p hp=>?_,?_,fun x hx=>?_,?_⟩
 .rcases List.mem_append.1 hx with hx|hx
  .exact h.qU x hx
  rw[List.mem_singleton.1 hx];exact hd
 .have:=h.n
  simp only at k2
  omega
 .have hc:=h.c
  rcases HC.1 hp with rfl|⟨hp,_⟩
  .exact⟨by show 0<=(ah m v).getD 0+1;omega,by show(ah m v).getD 0+1<=(k:Int)+1;omega⟩
  exact h.b p hp
 .rw[bO,if_neg dL];exact hv
 .rw[bO]
  split
  .rfl
  rename_i z
  rcases List.mem_append.1 hx with hx|hx
  .exact h.qM x hx
  rw[List.mem_singleton.1 hx] at z;exact(z rfl).elim
 rw[bO,if_neg dL];exact h.c
theorem kI {α:Type}(f:α->Int->α){l:List Int}{i:Int}(s:α)(h0:0<=i)(h:i<(l.length:Int)):(l.take (i+1).toNat).foldl f s=f ((l.take i.toNat).foldl f s) (l.getD i.toNat 0):=by
 rw[show(i+1).toNat=i.toNat+1 by omega,List.take_succ_eq_append_getElem (by omega),List.foldl_append,List.getD_eq_getElem?_getD,List.getElem?_eq_getElem (show i.toNat<l.length by omega)]
 rfl
theorem B0.step {E:List (Int×Int)}{M:List (Int×List Int)}{a shut v:Int}{ok:Bool}{q q' q2:List Int}{m m':List (Int×Int)}{k:Nat}(h:B0 E M a shut v ok q m k)(eE:ok=true)(he:ff E M v shut (m,q)=(m',q'))(hm:Gm E a v k m' q'):
  (q'=[]->B0 E M a shut 0 false q2 m' (k+1))/\(∀x t,q'=x::t->B0 E M a shut x true t m' (k+1)):=by
 obtain⟨h1,h2,h3⟩:=h.go eE
 obtain⟨b1,b2⟩:=hm.bd
 have hf:2*E.length+2-k=(2*E.length+2-(k+1))+1:=by omega
 have bY:dI E M a shut=(match(m',q').2 with
  |[]=>(m',q').1
  |x::t=>uf E M shut (2*E.length+2-(k+1)) x ((m',q').1,t)):=by
  rw[h3,hf,<-he];rfl
 refine⟨fun z=>?_,fun x t z=>?_⟩
 .subst z
  exact⟨fun w=>(by cases w),fun _=>bY.symm,by omega⟩
 subst z
 refine⟨fun _=>⟨⟨⟨hm.s.nd,hm.s.sub⟩,hm.qU x List.mem_cons_self,fun y hy=>hm.qU y (List.mem_cons_of_mem _ hy),?_,fun p hp=>?_,?_,?_,?_⟩,fun p hp=>?_,bY⟩,fun w=>(by cases w),by omega⟩
 .have:=hm.n;rw[List.length_cons] at this;omega
 .have:=hm.b p hp;exact⟨this.1,by omega⟩
 .exact hm.qM x List.mem_cons_self
 .exact fun y hy=>hm.qM y (List.mem_cons_of_mem _ hy)
 .exact nM (P:=fun y=>0<=y/\y<=((k+1:Nat):Int)) ⟨by omega,by omega⟩ (fun p hp=>by have:=hm.b p hp;exact⟨this.1,by omega⟩) x
 have:=hm.b p hp;omega
end Go.Proofs.YtnfdimfepbbbpaaGreat
namespace Go.Proofs.YtnfdimfepbbbpaaGreat
open Go.RowKit
open Go.Proofs.YtnfdimfepbbbpaaGreat.Deep
section
variable {E:List (Int×Int)}{M:List (Int×List Int)}{a shut v d:Int}{k f:Nat}{m:List (Int×Int)}{q:List Int}{n:Int}
theorem Kx (h:Gm E a v k m q)(hd:bJ E d∈univ E a):Gm E a v k (dV E v shut (m,q) d).1 (dV E v shut (m,q) d).2:=by
 by_cases hn:(ah m (bJ E d)).isSome=true\/bJ E d=shut
 .have e:dV E v shut (m,q) d=(m,q):=by unfold dV;rw[if_pos hn]
  rw[e];exact h
 have e:dV E v shut (m,q) d=(cB m (bJ E d) ((ah m v).getD 0+1),q++[bJ E d]):=by unfold dV;rw[if_neg hn]
 rw[e];exact h.Zs hd hn
theorem Aw:∀ {l:List Int} {m:List (Int×Int)} {q:List Int},Gm E a v k m q->(∀d∈l,bJ E d∈univ E a)->Gm E a v k (l.foldl (dV E v shut) (m,q)).1 (l.foldl (dV E v shut) (m,q)).2
 |[],m,q,h,_=>h
 |d::l,m,q,h,hd=>by
  rw[List.foldl_cons]
  exact Aw (Kx h (hd d List.mem_cons_self)) fun x hx=>hd x (List.mem_cons_of_mem _ hx)
theorem Gn {s:List (Int×Int)×List Int}{x:Int}(h:(ah s.1 x).isSome=true):(ah (dV E v shut s d).1 x).isSome=true:=by
 unfold dV
 split
 .exact h
 show(ah (cB s.1 _ _) x).isSome=true
 rw[bO];split
 .rfl
 exact h
theorem o9:∀ {l:List Int} {s:List (Int×Int)×List Int} {x:Int},(ah s.1 x).isSome=true->(ah (l.foldl (dV E v shut) s).1 x).isSome=true
 |[],_,_,h=>h
 |d::l,s,x,h=>by rw[List.foldl_cons];exact o9 (Gn h)
theorem uZ:∀ {l:List Int} {s:List (Int×Int)×List Int},∀d∈l,bJ E d≠shut->(ah (l.foldl (dV E v shut) s).1 (bJ E d)).isSome=true
 |e::l,s,d,hd,hs=>by
  rw[List.foldl_cons]
  rcases List.mem_cons.1 hd with rfl|hd
  .refine o9 ?_
   unfold dV
   split
   .rename_i h;exact h.resolve_right hs
   show(ah (cB s.1 _ _) _).isSome=true
   rw[bO,if_pos rfl];rfl
  exact uZ d hd hs
theorem sO:∀ {l:List Int} {s:List (Int×Int)×List Int} {x:Int},(ah (l.foldl (dV E v shut) s).1 x).isSome=true->(ah s.1 x).isSome=true\/x∈(l.foldl (dV E v shut) s).2
 |[],_,_,h=>.inl h
 |d::l,s,x,h=>by
  rw[List.foldl_cons] at h ⊢
  rcases sO h with h1|h1
  .unfold dV at h1
   split at h1
   .exact .inl h1
   rename_i hn
   have h1:(ah (cB s.1 (bJ E d) _) x).isSome=true:=h1
   rw[bO] at h1
   split at h1
   .rename_i e
    refine .inr ?_
    have mono:∀ {l:List Int} {s:List (Int×Int)×List Int} {y:Int},y∈s.2->y∈(l.foldl (dV E v shut) s).2:=by
     intro l
     induction l with
     |nil=>intro s y h;exact h
     |cons e l ih=>
      intro s y h
      rw[List.foldl_cons]
      refine ih ?_
      unfold dV
      split
      .exact h
      exact List.mem_append_left _ h
    refine mono ?_
    unfold dV
    rw[if_neg hn]
    exact List.mem_append_right _ (by rw[e];exact List.mem_singleton.2 rfl)
   exact .inl h1
  exact .inr h1
theorem u0:∀ {l:List Int} {s:List (Int×Int)×List Int} {y:Int},y∈s.2->y∈(l.foldl (dV E v shut) s).2
 |[],_,_,h=>h
 |d::l,s,y,h=>by
  rw[List.foldl_cons]
  refine u0 ?_
  unfold dV
  split
  .exact h
  exact List.mem_append_left _ h
theorem NN (hD:∀v,∀d∈(ah M v).getD [],bJ E d∈univ E a):∀(f:Nat) (k:Nat) (v:Int) (m:List (Int×Int)) (q:List Int),Gm E a v k m q->(∀p∈m,p.2<=(k:Int))->f+k=2*E.length+2->
  (∀x,(ah m x).isSome=true->x=v\/x∈q\/∀d∈(ah M x).getD [],bJ E d≠shut->(ah m (bJ E d)).isSome=true)->
  Kw (univ E a) (uf E M shut f v (m,q),[])/\(∀x,(ah m x).isSome=true->(ah (uf E M shut f v (m,q)) x).isSome=true)/\
   ∀x,(ah (uf E M shut f v (m,q)) x).isSome=true->∀d∈(ah M x).getD [],bJ E d≠shut->(ah (uf E M shut f v (m,q)) (bJ E d)).isSome=true
 |0,k,v,m,q,h,_,hf,_=>by have:=h.bd;omega
 |f+1,k,v,m,q,h,tL,hf,hc=>by
  have h1:Gm E a v k (ff E M v shut (m,q)).1 (ff E M v shut (m,q)).2:=Aw h (hD v)
  have NO:∀x,(ah m x).isSome=true->(ah (ff E M v shut (m,q)).1 x).isSome=true:=fun x hx=>o9 (s:=(m,q)) hx
  have Zt:∀x,(ah (ff E M v shut (m,q)).1 x).isSome=true->x∈(ff E M v shut (m,q)).2\/∀d∈(ah M x).getD [],bJ E d≠shut->(ah (ff E M v shut (m,q)).1 (bJ E d)).isSome=true:=fun x hx=>by
   rcases sO (s:=(m,q)) hx with h2|h2
   .rcases hc x h2 with rfl|h3|h3
    .exact .inr fun d hd hs=>uZ d hd hs
    .exact .inl (u0 (s:=(m,q)) h3)
    exact .inr fun d hd hs=>NO _ (h3 d hd hs)
   exact .inl h2
  have bY:uf E M shut (f+1) v (m,q)=(match(ff E M v shut (m,q)).2 with
   |[]=>(ff E M v shut (m,q)).1
   |x::t=>uf E M shut f x ((ff E M v shut (m,q)).1,t)):=rfl
  rw[bY]
  generalize hs:ff E M v shut (m,q)=s at*
  obtain⟨m',q'⟩:=s
  cases q' with
  |nil=>
   refine⟨⟨h1.s.nd,h1.s.sub⟩,NO,fun x hx d hd hs=>?_⟩
   rcases Zt x hx with h2|h2
   .cases h2
   exact h2 d hd hs
  |cons x t=>
   have hM:Gm E a x (k+1) m' t:=by
    refine⟨⟨h1.s.nd,h1.s.sub⟩,h1.qU x List.mem_cons_self,fun y hy=>h1.qU y (List.mem_cons_of_mem _ hy),?_,fun p hp=>?_,h1.qM x List.mem_cons_self,fun y hy=>h1.qM y (List.mem_cons_of_mem _ hy),?_⟩
    .have:=h1.n;simp only[List.length_cons] at this;omega
    .have:=h1.b p hp;exact⟨this.1,by omega⟩
    exact nM (P:=fun y=>0<=y/\y<=((k+1:Nat):Int)) ⟨by omega,by omega⟩ (fun p hp=>by have:=h1.b p hp;exact⟨this.1,by omega⟩) x
   obtain⟨r1,r2,r3⟩:=NN hD f (k+1) x m' t hM (fun p hp=>by have:=h1.b p hp;omega) (by omega) (fun y hy=>by
    rcases Zt y hy with h2|h2
    .rcases List.mem_cons.1 h2 with rfl|h2
     .exact .inl rfl
     exact .inr (.inl h2)
    exact .inr (.inr h2))
   exact⟨r1,fun y hy=>r2 y (NO y hy),r3⟩
theorem D3 (hD:∀v,∀d∈(ah M v).getD [],bJ E d∈univ E a):(dI E M a shut).length<=2*E.length+1/\(∀p∈dI E M a shut,p.1∈univ E a)/\(ah (dI E M a shut) a).isSome=true/\
  ∀x,(ah (dI E M a shut) x).isSome=true->∀d∈(ah M x).getD [],bJ E d≠shut->(ah (dI E M a shut) (bJ E d)).isSome=true:=by
 obtain⟨h1,h2,_⟩:=(B0.init E M a shut).go rfl
 obtain⟨r1,r2,r3⟩:=NN (shut:=shut) hD (2*E.length+2) 0 a [(a,0)] [] h1 (fun p hp=>by have:=h2 p hp;simpa using this) (by omega) (fun x hx=>by
  left
  cases hl:ah [(a,(0:Int))] x with
  |none=>rw[hl] at hx;cases hx
  |some z=>have:=List.mem_singleton.1 (lz hl);cases this;rfl)
 have hlen:=r1.len
 rw[DZ] at hlen
 exact⟨hlen,r1.sub,r2 a (by rw[Ic];rfl),r3⟩
theorem xP {V L:List Int}(hp:aA n E V L=0):Zr E (bV E L):=fun v d hd=>by
 rw[qj] at hd
 obtain⟨h1,h2⟩:=dH.1 hd
 have:=(aG.1 (aD hp).2.2.1).2 _ h1
 constructor
 .omega
 exact this.2
theorem D4 (hr:bh n E=0)(hD:Zr E M)(a:Int):∀v,∀d∈(ah M v).getD [],bJ E d∈univ E a:=fun v d hd=>by
 obtain⟨h1,h2⟩:=hD v d hd
 exact List.mem_cons_of_mem _ (DY hr h1 h2).2.2
theorem Ky {V L:List Int}(hp:aA n E V L=0){x:Int}(h:(zb E L).iB (· ≠-1) a x):(ah (dI E (bV E L) a (-1)) x).isSome=true:=by
 have hr:=(aD hp).1
 obtain⟨_,_,h1,h2⟩:=D3 (shut:= -1) (D4 hr (xP hp) a)
 have hdk:=DW (E:=E) (aD hp).2.2.1
 refine h.closed (Q:=fun x=>(ah (dI E (bV E L) a (-1)) x).isSome=true) (fun x y hx ha hy=>?_) h1
 obtain⟨f,hf,hj⟩:=ha
 obtain⟨d,hd,hdf⟩:=hdk.all f x hf hj.left
 obtain⟨_,r7⟩:=hdk.mem x d hd
 rw[hdf] at r7
 have Lp:d∈(ah (bV E L) x).getD []:=by rw[qj];exact hd
 by_cases e:bJ E d=y
 .subst e;exact h2 x hx d Lp hy
 have h3:=r7.of (z:=y) hj.right
 rcases h3 with rfl|h3
 .exact hx
 exact(e h3.symm).elim
end
def nN (pm m:List (Int×Int))(c:Int):List (Int×Int):=m.foldl (fun p q=>cB p q.1 c) pm
open Classical in
theorem sP {c:Int}:∀ {m pm:List (Int×Int)} {x:Int},ah (nN pm m c) x=if(ah m x).isSome=true then some c else ah pm x:=by
 have key:∀(m pm:List (Int×Int)) (x:Int),ah (nN pm m c) x=if ∃v,(x,v)∈m then some c else ah pm x:=by
  intro m
  induction m with
  |nil=>intro pm x;show ah pm x=_;rw[if_neg (by rintro⟨v,h⟩;cases h)]
  |cons p m ih=>
   intro pm x
   show ah (nN (cB pm p.1 c) m c) x=_
   rw[ih,bO]
   by_cases h1:∃v,(x,v)∈m
   .obtain⟨v,hv⟩:=h1
    rw[if_pos ⟨v,hv⟩,if_pos ⟨v,List.mem_cons_of_mem _ hv⟩]
   rw[if_neg h1]
   by_cases h2:p.1=x
   .rw[if_pos h2,if_pos ⟨p.2,by rw[<-h2];exact List.mem_cons_self⟩]
   rw[if_neg h2,if_neg]
   rintro⟨v,hv⟩
   rcases List.mem_cons.1 hv with e|hv
   .rw[<-e] at h2;exact h2 rfl
   exact h1 ⟨v,hv⟩
 intro m pm x
 rw[key]
 by_cases h:∃v,(x,v)∈m
 .rw[if_pos h,if_pos]
  cases hl:ah m x with
  |none=>obtain⟨v,hv⟩:=h;exact(l6.1 hl v hv).elim
  |some z=>rfl
 rw[if_neg h,if_neg]
 intro q
 obtain⟨z,hz⟩:=Option.isSome_iff_exists.1 q
 exact h ⟨z,lz hz⟩
abbrev kQ:=List (List Int×List Int)
def D5 (out:kQ)(i v:Int):kQ:=out.set i.toNat ((out.getD i.toNat ([],[])).1++[v],(out.getD i.toNat ([],[])).2)
def NP (out:kQ)(i e:Int):kQ:=out.set i.toNat ((out.getD i.toNat ([],[])).1,(out.getD i.toNat ([],[])).2++[e])
def fE (E:List (Int×Int))(M:List (Int×List Int))(s:List (Int×Int)×kQ)(v:Int):List (Int×Int)×kQ:=
 if(ah s.1 v).isSome=true then(s.1,D5 s.2 ((ah s.1 v).getD 0) v)
 else(nN s.1 (dI E M v (-1)) (s.2.length:Int),D5 (s.2++[([],[])]) (s.2.length:Int) v)
def xQ (E:List (Int×Int))(pm:List (Int×Int))(out:kQ)(e:Int):kQ:=NP out ((ah pm (E.getD e.toNat (0,0)).1).getD 0) e
def nO (E:List (Int×Int))(V L:List Int):kQ:=L.foldl (xQ E (V.foldl (fE E (bV E L)) ([],[])).1) (V.foldl (fE E (bV E L)) ([],[])).2
structure RN (R pm:List (Int×Int))(c:Int)(lf:Int->Bool)(cnt:Nat)(nj:List (Int×Int)):Prop where
 a:∀z,lf z=true->(ah R z).isSome=true
 b:∀z,ah nj z=if(ah R z).isSome=true/\lf z=false then some c else ah pm z
 n:nj.length+cnt<=pm.length+R.length
theorem RN.start (R pm:List (Int×Int))(c:Int):RN R pm c (fun z=>(ah R z).isSome) R.length pm:=
 ⟨fun z h=>h,fun z=>by rw[if_neg (by rintro⟨h1,h2⟩;rw[h1] at h2;cases h2)],Nat.le_refl _⟩
theorem RN.step {R pm nj:List (Int×Int)}{c:Int}{lf:Int->Bool}{cnt jt:Nat}(h:RN R pm c lf cnt nj){k v:Int}(hl:lf k=true)(hk:ah R k=some v)(hc:jt<cnt):
  RN R pm c (fun z=>lf z && !decide (z=k)) jt (cB nj k c):=by
 refine⟨fun z hz=>?_,fun z=>?_,?_⟩
 .rw[Bool.and_eq_true] at hz;exact h.a z hz.1
 .rw[bO,h.b]
  by_cases e:k=z
  .subst e
   rw[if_pos rfl,if_pos ⟨by rw[hk];rfl,by simp⟩]
  rw[if_neg e]
  have dL:¬z=k:=fun q=>e q.symm
  have:(lf z && !decide (z=k))=lf z:=by simp[dL]
  rw[this]
 have:=h.n
 have:=dh nj k c
 omega
theorem RN.fin {R pm nj:List (Int×Int)}{c:Int}{lf:Int->Bool}{cnt:Nat}(h:RN R pm c lf cnt nj)(hl:∀z,lf z=false):(∀z,ah nj z=if(ah R z).isSome=true then some c else ah pm z)/\nj.length<=pm.length+R.length:=by
 refine⟨fun z=>?_,by have:=h.n;omega⟩
 rw[h.b]
 by_cases e:(ah R z).isSome=true
 .rw[if_pos ⟨e,hl z⟩,if_pos e]
 rw[if_neg (fun q=>e q.1),if_neg e]
structure oD (E:List (Int×Int))(V L:List Int)(i:Int)(pm:List (Int×Int))(out:kQ):Prop where
 f:∃p',(V.take i.toNat).foldl (fE E (bV E L)) ([],[])=(p',out)/\∀x,ah pm x=ah p' x
 b:∀x c,ah pm x=some c->0<=c/\c<(out.length:Int)
 n:pm.length<=i.toNat*3000
 o:out.length<=i.toNat
 r:∀x∈out,x.1.length<=i.toNat/\x.2=[]
 d:∀j:Nat,(j:Int)<i->(ah pm (V.getD j 0)).isSome=true
theorem oD.zero (E:List (Int×Int))(V L:List Int):oD E V L 0 [] []:=⟨⟨[],rfl,fun _=>rfl⟩,(fun x c h=>by cases h),Nat.zero_le _,Nat.zero_le _,(fun x h=>by cases h),fun j h=>by omega⟩
theorem sQ (out:kQ)(i v:Int):(D5 out i v).length=out.length:=List.length_set
theorem NQ (out:kQ)(i v:Int):(NP out i v).length=out.length:=List.length_set
theorem D6 {out:kQ}{i v:Int}{k:Nat}(h:∀x∈out,x.1.length<=k/\x.2=[]):∀x∈D5 out i v,x.1.length<=k+1/\x.2=[]:=fun x hx=>by
 rcases List.mem_or_eq_of_mem_set hx with q|rfl
 .exact⟨Nat.le_succ_of_le (h x q).1,(h x q).2⟩
 have:∀j,(out.getD j ([],[])).1.length<=k/\(out.getD j ([],[])).2=[]:=fun j=>by
  rw[List.getD_eq_getElem?_getD]
  cases hj:out[j]? with
  |none=>exact⟨by simp,rfl⟩
  |some y=>exact h y (List.mem_of_getElem? hj)
 obtain⟨q1,q2⟩:=this i.toNat
 exact⟨by show(_++[v]).length<=_;rw[List.length_append];simp;exact q1,q2⟩
section
variable {E:List (Int×Int)}{V L:List Int}{i:Int}{pm nj:List (Int×Int)}{out:kQ}
theorem oD.met (h:oD E V L i pm out)(h0:0<=i)(h1:i<(V.length:Int))(hm:(ah pm (V.getD i.toNat 0)).isSome=true):oD E V L (i+1) pm (D5 out ((ah pm (V.getD i.toNat 0)).getD 0) (V.getD i.toNat 0)):=by
 obtain⟨p',f1,f2⟩:=h.f
 have hi:(i+1).toNat=i.toNat+1:=by omega
 refine⟨⟨p',?_,f2⟩,fun x c hx=>by rw[sQ];exact h.b x c hx,Nat.le_trans h.n (Nat.mul_le_mul_right _ (by omega)),by rw[sQ];have:=h.o;omega,by rw[hi];exact D6 h.r,fun j hj=>?_⟩
 .rw[kI _ _ h0 h1,f1]
  unfold fE
  simp only
  rw[<-f2,if_pos hm]
 by_cases e:(j:Int)<i
 .exact h.d j e
 rw[show j=i.toNat by omega];exact hm
theorem oD.new (h:oD E V L i pm out)(h0:0<=i)(h1:i<(V.length:Int))(hm:(ah pm (V.getD i.toNat 0)).isSome=false)(hR:(ah (dI E (bV E L) (V.getD i.toNat 0) (-1)) (V.getD i.toNat 0)).isSome=true)(hlen:(dI E (bV E L) (V.getD i.toNat 0) (-1)).length<=3000)
  (hp:(∀z,ah nj z=if(ah (dI E (bV E L) (V.getD i.toNat 0) (-1)) z).isSome=true then some (out.length:Int) else ah pm z)/\nj.length<=pm.length+(dI E (bV E L) (V.getD i.toNat 0) (-1)).length):
  oD E V L (i+1) nj (D5 (out++[([],[])]) ((ah nj (V.getD i.toNat 0)).getD 0) (V.getD i.toNat 0))/\ah nj (V.getD i.toNat 0)=some (out.length:Int):=by
 obtain⟨p',f1,f2⟩:=h.f
 obtain⟨p1,p2⟩:=hp
 have hi:(i+1).toNat=i.toNat+1:=by omega
 have hv:ah nj (V.getD i.toNat 0)=some (out.length:Int):=by rw[p1,if_pos hR]
 refine⟨⟨⟨nN p' (dI E (bV E L) (V.getD i.toNat 0) (-1)) (out.length:Int),?_,fun x=>?_⟩,fun x c hx=>?_,?_,?_,?_,fun j hj=>?_⟩,hv⟩
 .rw[kI _ _ h0 h1,f1,hv]
  unfold fE
  simp only
  rw[<-f2,if_neg (by rw[hm];decide)];rfl
 .rw[p1,sP,f2]
 .rw[sQ,List.length_append]
  rw[p1] at hx
  split at hx
  .cases hx
   simp only[List.length_singleton];omega
  have:=h.b x c hx
  simp only[List.length_singleton];omega
 .have:=h.n;rw[hi,Nat.succ_mul];omega
 .rw[sQ,List.length_append];have:=h.o;simp only[List.length_singleton];omega
 .rw[hi]
  refine D6 fun x hx=>?_
  rcases List.mem_append.1 hx with hx|hx
  .exact h.r x hx
  rw[List.mem_singleton.1 hx];exact⟨by simp,rfl⟩
 rw[p1]
 split
 .rfl
 by_cases e:(j:Int)<i
 .exact h.d j e
 rename_i q
 rw[show j=i.toNat by omega] at q;exact(q hR).elim
theorem oD.at_ (h:oD E V L i pm out)(h0:0<=i)(h1:i<=(V.length:Int)){x:Int}(hm:(ah pm x).isSome=true):(0<=(ah pm x).getD 0/\(ah pm x).getD 0<(out.length:Int))/\(out.getD ((ah pm x).getD 0).toNat ([],[])).1.length<=V.length:=by
 obtain⟨c,hc⟩:=Option.isSome_iff_exists.1 hm
 rw[hc]
 refine⟨h.b x c hc,?_⟩
 rw[List.getD_eq_getElem?_getD]
 cases hj:out[c.toNat]? with
 |none=>simp[hj]
 |some y=>
  have:=(h.r y (List.mem_of_getElem? hj)).1
  simp[hj];omega
structure Gp (E:List (Int×Int))(V L:List Int)(j:Int)(m:Nat)(o2:kQ):Prop where
 f:(L.take j.toNat).foldl (xQ E (V.foldl (fE E (bV E L)) ([],[])).1) (V.foldl (fE E (bV E L)) ([],[])).2=o2
 n:o2.length=m
 r:∀x∈o2,x.2.length<=j.toNat
theorem oD.fin (h:oD E V L i pm out)(h1:¬i<(V.length:Int)):(∀x,ah pm x=ah (V.foldl (fE E (bV E L)) ([],[])).1 x)/\(V.foldl (fE E (bV E L)) ([],[])).2=out/\Gp E V L 0 out.length out:=by
 obtain⟨p',f1,f2⟩:=h.f
 rw[List.take_of_length_le (by omega)] at f1
 refine⟨fun x=>by rw[f1];exact f2 x,by rw[f1],by rw[f1];rfl,rfl,fun x hx=>by rw[(h.r x hx).2];simp⟩
theorem Gp.step {j:Int}{m:Nat}{o2:kQ}(h:Gp E V L j m o2)(hp:∀x,ah pm x=ah (V.foldl (fE E (bV E L)) ([],[])).1 x)(h0:0<=j)(h1:j<(L.length:Int)):
  Gp E V L (j+1) m (NP o2 ((ah pm (E.getD (L.getD j.toNat 0).toNat (0,0)).1).getD 0) (L.getD j.toNat 0)):=by
 have hi:(j+1).toNat=j.toNat+1:=by omega
 refine⟨?_,by rw[NQ];exact h.n,fun x hx=>?_⟩
 .rw[kI _ _ h0 h1,h.f,hp];rfl
 rw[hi]
 rcases List.mem_or_eq_of_mem_set hx with q|rfl
 .exact Nat.le_succ_of_le (h.r x q)
 show(_++[_]).length<=_
 rw[List.length_append]
 have:∀k,(o2.getD k ([],[])).2.length<=j.toNat:=fun k=>by
  rw[List.getD_eq_getElem?_getD]
  cases hk:o2[k]? with
  |none=>simp
  |some y=>exact h.r y (List.mem_of_getElem? hk)
 simp only[List.length_singleton]
 exact Nat.succ_le_succ (this _)
theorem Gp.at_ {j:Int}{m:Nat}{o2:kQ}(h:Gp E V L j m o2)(k:Nat):(o2.getD k ([],[])).2.length<=j.toNat:=by
 rw[List.getD_eq_getElem?_getD]
 cases hk:o2[k]? with
 |none=>simp
 |some y=>exact h.r y (List.mem_of_getElem? hk)
theorem oD.at2 {x:Int}(h:ah nj x=some (out.length:Int)):(0<=(ah nj x).getD 0/\(ah nj x).getD 0<((out++[([],[])]).length:Int))/\((out++[([],[])]).getD ((ah nj x).getD 0).toNat ([],[])).1.length<=0:=by
 rw[h]
 refine⟨by simp only[Option.getD_some,List.length_append,List.length_singleton];omega,?_⟩
 simp
theorem oD.all (h:oD E V L i pm out)(h1:¬i<(V.length:Int)){x:Int}(hx:x∈V):(ah pm x).isSome=true:=by
 obtain⟨j,hj,rfl⟩:=fC.1 hx
 exact h.d j (by omega)
theorem Gq {n:Int}{o2:kQ}(hp:aA n E V L=0)(e:L.foldl (xQ E (V.foldl (fE E (bV E L)) ([],[])).1) (V.foldl (fE E (bV E L)) ([],[])).2=o2):((o2,(0:Int),()):kQ×Int×Unit)=(if aA n E V L≠0 then[] else nO E V L,aA n E V L,()):=by
 rw[if_neg (fun q=>q hp),hp,<-e];rfl
theorem ug {n j:Int}(hp:aA n E V L=0)(h0:0<=j)(h1:j<(L.length:Int)):(E.getD (L.getD j.toNat 0).toNat (0,0)).1∈V/\(E.getD (L.getD j.toNat 0).toNat (0,0)).2∈V:=by
 obtain⟨hr,hV,hL,eE⟩:=aD hp
 obtain⟨a,b⟩:=eE j.toNat (by omega)
 rw[eC hV] at a b
 exact⟨of_decide_eq_true a,of_decide_eq_true b⟩
end
def Kz (V l:List Int):List Int:=V.filter fun v=>decide (v∈l)
def KA (E:List (Int×Int))(L l:List Int):List Int:=L.filter fun e=>decide ((E.getD e.toNat (0,0)).1∈l) && decide ((E.getD e.toNat (0,0)).2∈l)
theorem D7 {p:Int->Bool}{l:List Int}{i:Int}(h0:0<=i)(h:i<(l.length:Int))(hp:p (l.getD i.toNat 0)=true):(l.take (i+1).toNat).filter p=(l.take i.toNat).filter p++[l.getD i.toNat 0]:=by
 rw[show(i+1).toNat=i.toNat+1 by omega,List.take_succ_eq_append_getElem (by omega),List.filter_append]
 rw[List.getD_eq_getElem?_getD,List.getElem?_eq_getElem (show i.toNat<l.length by omega)] at hp ⊢
 simp only[Option.getD_some] at hp ⊢
 rw[List.filter_cons,if_pos hp];rfl
theorem Ie {p:Int->Bool}{l:List Int}{i:Int}(h0:0<=i)(h:i<(l.length:Int))(hp:p (l.getD i.toNat 0)=false):(l.take (i+1).toNat).filter p=(l.take i.toNat).filter p:=by
 rw[show(i+1).toNat=i.toNat+1 by omega,List.take_succ_eq_append_getElem (by omega),List.filter_append]
 rw[List.getD_eq_getElem?_getD,List.getElem?_eq_getElem (show i.toNat<l.length by omega)] at hp
 simp only[Option.getD_some] at hp
 rw[List.filter_cons,if_neg (by rw[hp];decide)];simp
theorem D8 {p:Int->Bool}{l:List Int}{i:Nat}:((l.take i).filter p).length<=i:=Nat.le_trans (List.length_filter_le _ _) (by rw[List.length_take];exact Nat.min_le_left _ _)
def mF (l:List Int)(i:Int):List Int:=l.drop i.toNat++l.take i.toNat
def iQ (l:List Int):Nat->Int
 |0=>0
 |k+1=>if l.getD k 0<l.getD (iQ l k).toNat 0 then(k:Int) else iQ l k
def bC (l:List Int):List Int:=mF l (iQ l l.length)
theorem mG (l:List Int):∀k:Nat,0<=iQ l k/\(iQ l k=0\/iQ l k<(k:Int))
 |0=>⟨Int.le_refl _,.inl rfl⟩
 |k+1=>by
  obtain⟨h1,h2⟩:=mG l k
  unfold iQ
  split
  .exact⟨by omega,.inr (by omega)⟩
  exact⟨h1,h2.imp id fun h=>by omega⟩
theorem u5 (l:List Int){i:Int}(h:0<=i):iQ l (i+1).toNat=if l.getD i.toNat 0<l.getD (iQ l i.toNat).toNat 0 then i else iQ l i.toNat:=by
 rw[show(i+1).toNat=i.toNat+1 by omega]
 show(if _ then((i.toNat:Nat):Int) else _)=_
 rw[Int.toNat_of_nonneg h]
theorem fh (l:List Int):(bC l).length=l.length:=by
 unfold bC mF
 rw[List.length_append,List.length_drop,List.length_take]
 have:=mG l l.length
 omega
theorem xR {l:List Int}{x:Int}(h:x∈bC l):x∈l:=by
 unfold bC mF at h
 rcases List.mem_append.1 h with h|h
 .exact List.mem_of_mem_drop h
 exact List.mem_of_mem_take h
def sR (P:List (Int×Int))(t:List Int):Nat->List (Int×Int)
 |0=>P
 |k+1=>cB (sR P t k) (t.getD k 0) (k:Int)
def kJ (T:List (List Int)):Nat->List (Int×Int)
 |0=>[]
 |v+1=>sR (kJ T v) (bC (T.getD v [])) (bC (T.getD v [])).length
theorem KB {P:List (Int×Int)}{t:List Int}{i:Int}(h:0<=i):sR P t (i+1).toNat=cB (sR P t i.toNat) (t.getD i.toNat 0) i:=by
 rw[show(i+1).toNat=i.toNat+1 by omega]
 show cB _ _ ((i.toNat:Nat):Int)=_
 rw[Int.toNat_of_nonneg h]
theorem KC {T:List (List Int)}{i:Int}(h:0<=i):kJ T (i+1).toNat=sR (kJ T i.toNat) (bC (T.getD i.toNat [])) (bC (T.getD i.toNat [])).length:=by
 rw[show(i+1).toNat=i.toNat+1 by omega];rfl
theorem xT (P:List (Int×Int))(t:List Int):∀k,(sR P t k).length<=P.length+k
 |0=>Nat.le_refl _
 |k+1=>by
  have:=xT P t k
  have:=dh (sR P t k) (t.getD k 0) (k:Int)
  show(cB _ _ _).length<=_
  omega
theorem KD {α β:Type}{f:α->β}{T:List α}{i:Int}(d:α)(h0:0<=i)(h1:i<(T.length:Int)):(T.take (i+1).toNat).map f=(T.take i.toNat).map f++[f (T.getD i.toNat d)]:=by
 rw[show(i+1).toNat=i.toNat+1 by omega,List.take_add_one,List.map_append,List.getElem?_eq_getElem (by omega)]
 congr 1
 rw[List.getD_eq_getElem?_getD,List.getElem?_eq_getElem (by omega)]
 rfl
theorem af {α:Type}{l:List α}{i:Nat}{d:α}(h:i<l.length):l.getD i d∈l:=by
 rw[List.getD_eq_getElem?_getD,List.getElem?_eq_getElem h];exact List.getElem_mem _
def aO (T:List (List Int)):Prop:=∀l∈T,∀d∈l,-9223372036854775808<=d/\d<=9223372036854775807
def av (T:List (List Int)):Prop:=T.length<=10000/\∀l∈T,l.length<=10000
theorem D9 {T:List (List Int)}(h:av T):∀v,(kJ T v).length<=v*10000
 |0=>by simp[kJ]
 |v+1=>by
  have h1:=D9 h v
  have h2:=xT (kJ T v) (bC (T.getD v [])) (bC (T.getD v [])).length
  have h3:(T.getD v []).length<=10000:=by
   by_cases q:v<T.length
   .exact h.2 _ (af q)
   rw[List.getD_eq_getElem?_getD,List.getElem?_eq_none (by omega)];simp
  rw[fh] at h2
  show(sR _ _ _).length<=_
  rw[Nat.succ_mul,fh]
  omega
abbrev nQ:Type:=List (List Int)×(List (Int×Int)×(List (Int×Int)×List Int))
def cW (r:Option nQ)(d s:Int):Int×Bool:=match r with
 |none=>(0,false)
 |some (T,lv,pl,ds)=>match ah lv d with
  |none=>(0,false)
  |some v=>((T.getD v.toNat []).getD (((ah pl d).getD 0+s+((T.getD v.toNat []).length:Int))%((T.getD v.toNat []).length:Int)).toNat 0,true)
def xU (r:Option nQ)(d:Int):Prop:=match r with
 |none=>False
 |some (T,lv,pl,ds)=> ∀v,ah lv d=some v->0<=v/\v<(T.length:Int)/\(T.getD v.toNat []).length<=10000/\0<=(ah pl d).getD 0/\(ah pl d).getD 0<((T.getD v.toNat []).length:Int)
theorem xU.some {r:Option nQ}{d:Int}(h:xU r d):∃x,r=Option.some x:=by
 cases r with
 |none=>exact h.elim
 |some x=>exact⟨x,rfl⟩
def vp (M:List (Int×Int))(k v:Int):List (Int×Int):=cB (cB M k ((ah M k).getD 0)) k v
theorem xV (M:List (Int×Int))(k v:Int):(vp M k v).length<=M.length+2:=by
 have h1:=dh M k ((ah M k).getD 0)
 have h2:=dh (cB M k ((ah M k).getD 0)) k v
 unfold vp;omega
def lv1 (E:List (Int×Int))(M:List (Int×Int))(e:Int):List (Int×Int):=vp (vp M (2*e) (E.getD e.toNat (0,0)).1) (2*e+1) (E.getD e.toNat (0,0)).2
def r8 (E:List (Int×Int))(L:List Int):Nat->List (Int×Int)
 |0=>[]
 |k+1=>lv1 E (r8 E L k) (L.getD k 0)
def dA (L:List Int):Nat->List Int
 |0=>[]
 |k+1=>dA L k++[2*L.getD k 0,2*L.getD k 0+1]
theorem NR {E:List (Int×Int)}{L:List Int}{i:Int}(h:0<=i):r8 E L (i+1).toNat=lv1 E (r8 E L i.toNat) (L.getD i.toNat 0):=by
 rw[show(i+1).toNat=i.toNat+1 by omega];rfl
theorem NS {L:List Int}{i:Int}(h:0<=i):dA L (i+1).toNat=dA L i.toNat++[2*L.getD i.toNat 0,2*L.getD i.toNat 0+1]:=by
 rw[show(i+1).toNat=i.toNat+1 by omega];rfl
theorem Ig (E:List (Int×Int))(L:List Int):∀k,(r8 E L k).length<=4*k
 |0=>Nat.le_refl _
 |k+1=>by
  have h:=Ig E L k
  have h1:=xV (r8 E L k) (2*L.getD k 0) (E.getD (L.getD k 0).toNat (0,0)).1
  have h2:=xV (vp (r8 E L k) (2*L.getD k 0) (E.getD (L.getD k 0).toNat (0,0)).1) (2*L.getD k 0+1) (E.getD (L.getD k 0).toNat (0,0)).2
  show(vp _ _ _).length<=_
  omega
theorem jX (L:List Int):∀k,(dA L k).length=2*k
 |0=>rfl
 |k+1=>by
  have:=jX L k
  show(dA L k++[2*L.getD k 0,2*L.getD k 0+1]).length=_
  rw[List.length_append]
  simp;omega
def CS (lv:List (Int×Int))(v:Int)(t:List Int)(P:List (Int×Int)):Nat->Option (List (Int×Int))
 |0=>some P
 |k+1=>match CS lv v t P k with
  |none=>none
  |some Q=>if(ah lv (t.getD k 0)).isSome=true/\(ah lv (t.getD k 0)).getD 0=v/\(ah Q (t.getD k 0)).isSome=false then some (cB Q (t.getD k 0) (k:Int)) else none
def Ay (lv:List (Int×Int))(T:List (List Int)):Nat->Option (List (Int×Int))
 |0=>some []
 |v+1=>match Ay lv T v with
  |none=>none
  |some P=>CS lv (v:Int) (T.getD v []) P (T.getD v []).length
theorem Ea {lv:List (Int×Int)}{v:Int}{t:List Int}{P:List (Int×Int)}{k:Nat}(h:CS lv v t P k=none):∀ {m:Nat},k<=m->CS lv v t P m=none
 |0,hm=>by rw[show k=0 by omega] at h;exact h
 |m+1,hm=>by
  by_cases q:k=m+1
  .rw[<-q];exact h
  have:=Ea h (m:=m) (by omega)
  unfold CS;rw[this]
theorem Eb {lv:List (Int×Int)}{T:List (List Int)}{k:Nat}(h:Ay lv T k=none):∀ {m:Nat},k<=m->Ay lv T m=none
 |0,hm=>by rw[show k=0 by omega] at h;exact h
 |m+1,hm=>by
  by_cases q:k=m+1
  .rw[<-q];exact h
  have:=Eb h (m:=m) (by omega)
  unfold Ay;rw[this]
theorem Ec {lv:List (Int×Int)}{v:Int}{t:List Int}{P Q:List (Int×Int)}{i:Int}(h:0<=i)(hQ:CS lv v t P i.toNat=some Q):
  CS lv v t P (i+1).toNat=if(ah lv (t.getD i.toNat 0)).isSome=true/\(ah lv (t.getD i.toNat 0)).getD 0=v/\(ah Q (t.getD i.toNat 0)).isSome=false then some (cB Q (t.getD i.toNat 0) i) else none:=by
 rw[show(i+1).toNat=i.toNat+1 by omega]
 conv=>lhs;unfold CS
 rw[hQ]
 show(if _ then some (cB Q _ ((i.toNat:Nat):Int)) else none)=_
 rw[Int.toNat_of_nonneg h]
theorem Ed {lv:List (Int×Int)}{T:List (List Int)}{P:List (Int×Int)}{v:Int}(h:0<=v)(hP:Ay lv T v.toNat=some P):Ay lv T (v+1).toNat=CS lv v (T.getD v.toNat []) P (T.getD v.toNat []).length:=by
 rw[show(v+1).toNat=v.toNat+1 by omega]
 conv=>lhs;unfold Ay
 rw[hP]
 show CS lv ((v.toNat:Nat):Int) _ _ _=_
 rw[Int.toNat_of_nonneg h]
theorem B3 {lv:List (Int×Int)}{v:Int}{t:List Int}{P:List (Int×Int)}:∀ {k:Nat} {Q:List (Int×Int)},CS lv v t P k=some Q->Q.length<=P.length+k
 |0,Q,h=>by cases h;omega
 |k+1,Q,h=>by
  unfold CS at h
  split at h
  .cases h
  rename_i R hR
  have:=B3 hR
  split at h
  .cases h
   have:=dh R (t.getD k 0) (k:Int)
   omega
  cases h
theorem B4 {lv:List (Int×Int)}{T:List (List Int)}(hs:av T):∀ {v:Nat} {Q:List (Int×Int)},Ay lv T v=some Q->Q.length<=v*10000
 |0,Q,h=>by cases h;simp
 |v+1,Q,h=>by
  unfold Ay at h
  split at h
  .cases h
  rename_i R hR
  have h1:=B4 hs hR
  have h2:=B3 h
  have h3:(T.getD v []).length<=10000:=by
   by_cases q:v<T.length
   .exact hs.2 _ (af q)
   rw[List.getD_eq_getElem?_getD,List.getElem?_eq_none (by omega)];simp
  rw[Nat.succ_mul];omega
def bT (n:Int)(E:List (Int×Int))(V L:List Int)(T:List (List Int)):Option nQ×Int:=
 if aA n E V L≠0 then(none,aA n E V L) else if(T.length:Int)≠n then(none,5) else match Ay (r8 E L L.length) T T.length with
  |none=>(none,5)
  |some P=>if(P.length:Int)≠((r8 E L L.length).length:Int) then(none,5) else(some (T.map bC,r8 E L L.length,kJ T T.length,dA L L.length),0)
theorem Ee {n:Int}{E:List (Int×Int)}{V L:List Int}{T:List (List Int)}(h1:aA n E V L=0)(h2:(T.length:Int)=n)(h3:Ay (r8 E L L.length) T T.length=none):bT n E V L T=(none,5):=by
 unfold bT;rw[if_neg (by omega),if_neg (by omega),h3]
theorem xW {n:Int}{E:List (Int×Int)}{V L:List Int}{T:List (List Int)}(h1:aA n E V L=0)(h2:¬(T.length:Int)=n):bT n E V L T=(none,5):=by
 unfold bT;rw[if_neg (by omega),if_pos h2]
theorem Ef {n:Int}{E:List (Int×Int)}{V L:List Int}{T:List (List Int)}{P:List (Int×Int)}(h1:aA n E V L=0)(h2:(T.length:Int)=n)(h3:Ay (r8 E L L.length) T T.length=some P)(h4:¬(P.length:Int)=((r8 E L L.length).length:Int)):bT n E V L T=(none,5):=by
 unfold bT;rw[if_neg (by omega),if_neg (by omega),h3];exact if_pos h4
theorem B5 {n:Int}{E:List (Int×Int)}{V L:List Int}{T:List (List Int)}{P:List (Int×Int)}(h1:aA n E V L=0)(h2:(T.length:Int)=n)(h3:Ay (r8 E L L.length) T T.length=some P)(h4:(P.length:Int)=((r8 E L L.length).length:Int)):bT n E V L T=(some (T.map bC,r8 E L L.length,kJ T T.length,dA L L.length),0):=by
 unfold bT;rw[if_neg (by omega),if_neg (by omega),h3];exact if_neg (by omega)
theorem cover {α:Type}[DecidableEq α]{l m:List α}(hl:l.Nodup)(hs:∀x∈l,x∈m)(h:m.length<=l.length):∀x∈m,x∈l:=fun x hx=>Classical.byContradiction fun q=>by
 have h1:(x::l).Nodup:=List.nodup_cons.2 ⟨q,hl⟩
 have:=h1.length_le_of_subset (l₂:=m) fun y hy=>(List.mem_cons.1 hy).elim (fun e=>e▸hx) (hs y)
 simp at this;omega
theorem eV {α:Type}{l:List α}{z:α}(h:l.Nodup){i j:Nat}(hi:i<l.length)(hj:j<l.length)(e:l.getD i z=l.getD j z):i=j:=by
 rw[List.getD_eq_getElem?_getD,List.getD_eq_getElem?_getD,List.getElem?_eq_getElem hi,List.getElem?_eq_getElem hj] at e
 exact(List.getElem_inj h).1 e
theorem aB {α:Type}{l:List α}{z x:α}:x∈l↔∃j,j<l.length/\l.getD j z=x:=by
 constructor
 .intro h
  obtain⟨j,hj,e⟩:=List.getElem_of_mem h
  exact⟨j,hj,by rw[List.getD_eq_getElem?_getD,List.getElem?_eq_getElem hj];exact e⟩
 rintro⟨j,hj,e⟩
 rw[List.getD_eq_getElem?_getD,List.getElem?_eq_getElem hj] at e
 exact e▸List.getElem_mem hj
def aU (L:List Int)(d:Int):Prop:=d/2∈L
theorem rP {L:List Int}{d:Int}:aU L d↔∃e∈L,d=2*e\/d=2*e+1:=by
 constructor
 .exact fun h=>⟨d/2,h,by omega⟩
 rintro⟨e,he,q⟩
 have:d/2=e:=by omega
 unfold aU;rw[this];exact he
theorem vT {L:List Int}:∀ {k:Nat},k<=L.length->∀d,d∈dA L k↔aU (L.take k) d
 |0,_,d=>by simp[dA,aU]
 |k+1,h,d=>by
  have ih:=vT (L:=L) (k:=k) (by omega) d
  have e:L.take (k+1)=L.take k++[L.getD k 0]:=by
   rw[List.take_add_one,List.getD_eq_getElem?_getD,List.getElem?_eq_getElem (by omega)];rfl
  unfold aU at ih ⊢
  rw[e,dA,List.mem_append,ih,List.mem_append]
  simp only[List.mem_cons,List.not_mem_nil,or_false]
  constructor
  .rintro(q|q|q)
   .exact .inl q
   .exact .inr (by omega)
   exact .inr (by omega)
  rintro(q|q)
  .exact .inl q
  exact .inr (by omega)
theorem cO {L:List Int}(d:Int):d∈dA L L.length↔aU L d:=by rw[vT (Nat.le_refl _),List.take_length]
theorem qm {L:List Int}(h:L.Nodup):∀ {k:Nat},k<=L.length->(dA L k).Nodup
 |0,_=>List.nodup_nil
 |k+1,hk=>by
  have hn:L.getD k 0∉L.take k:=fun q=>by
   obtain⟨j,hj,e⟩:=aB (z:=0).1 q
   rw[List.length_take] at hj
   rw[List.getD_eq_getElem?_getD,List.getElem?_take,if_pos (by omega),<-List.getD_eq_getElem?_getD] at e
   have:=eV h (by omega) (by omega) e
   omega
  have Lv:∀d,d/2=L.getD k 0->d∉dA L k:=fun d hd q=>hn (by have:=(vT (by omega) d).1 q;unfold aU at this;rwa[hd] at this)
  rw[dA,List.nodup_append]
  refine⟨qm h (by omega),?_,?_⟩
  .simp only[List.nodup_cons,List.mem_singleton,List.not_mem_nil,not_false_eq_true,List.nodup_nil,and_true];omega
  intro a ha b hb e
  subst e
  simp only[List.mem_cons,List.not_mem_nil,or_false] at hb
  exact Lv a (by omega) ha
theorem Eg {M:List (Int×Int)}{k v x:Int}:ah (vp M k v) x=if k=x then some v else ah M x:=by
 unfold vp;rw[bO,bO];split<;>rfl
theorem kK {E:List (Int×Int)}{L:List Int}:∀ {k:Nat},k<=L.length->∀d,ah (r8 E L k) d=if d∈dA L k then some (ak E d) else none
 |0,_,d=>by simp[dA,r8];rfl
 |k+1,h,d=>by
  have ih:=kK (E:=E) (L:=L) (k:=k) (by omega) d
  show ah (lv1 E (r8 E L k) (L.getD k 0)) d=_
  unfold lv1
  rw[Eg,Eg,ih,dA]
  by_cases h1:2*L.getD k 0+1=d
  .rw[if_pos h1,if_pos (List.mem_append_right _ (by simp[<-h1]))]
   rw[<-h1];congr 1;unfold ak
   rw[if_neg (by omega),show(2*L.getD k 0+1)/2=L.getD k 0 by omega]
  rw[if_neg h1]
  by_cases h2:2*L.getD k 0=d
  .rw[if_pos h2,if_pos (List.mem_append_right _ (by simp[<-h2]))]
   rw[<-h2];congr 1;unfold ak
   rw[if_pos (by omega),show(2*L.getD k 0)/2=L.getD k 0 by omega]
  rw[if_neg h2]
  have e:(d∈dA L k++[2*L.getD k 0,2*L.getD k 0+1])↔d∈dA L k:=by
   rw[List.mem_append]
   constructor
   .rintro(q|q)
    .exact q
    simp only[List.mem_cons,List.not_mem_nil,or_false] at q;omega
   exact .inl
  by_cases h3:d∈dA L k
  .rw[if_pos h3,if_pos (e.2 h3)]
  rw[if_neg h3,if_neg fun q=>h3 (e.1 q)]
def KN {α:Type}(m:List (Int×α)):Prop:=(m.map (·.1)).Nodup
theorem NT {α:Type}{m:List (Int×α)}(h:KN m)(x:Int):KN (wG m x):=h.sublist (List.Sublist.map _ List.filter_sublist)
theorem Eh {α:Type}{m:List (Int×α)}(h:KN m)(x:Int)(v:α):KN (cB m x v):=by
 have hp:(cB m x v).Perm ((x,v)::wG m x):=tM (k:=.int) (x,v) (kS (k:=.int) m x)
 unfold KN
 rw[(hp.map (·.1)).nodup_iff,List.map_cons,List.nodup_cons]
 refine⟨fun q=>?_,NT h x⟩
 obtain⟨p,hp,e⟩:=List.mem_map.1 q
 have:ah (wG m x) x=none:=by rw[wH,if_pos rfl]
 have e:p.1=x:=e
 exact l6.1 this p.2 (by obtain⟨p1,p2⟩:=p;subst e;exact hp)
theorem B6 {α:Type}:KN ([]:List (Int×α)):=List.nodup_nil
theorem mem_keys {α:Type}{m:List (Int×α)}{x:Int}:x∈m.map (·.1)↔(ah m x).isSome=true:=by
 constructor
 .intro h
  obtain⟨p,hp,e⟩:=List.mem_map.1 h
  cases hq:ah m x with
  |some _=>rfl
  |none=>exact(l6.1 hq p.2 (by obtain⟨p1,p2⟩:=p;have e:p1=x:=e;subst e;exact hp)).elim
 intro h
 obtain⟨v,hv⟩:=Option.isSome_iff_exists.1 h
 exact List.mem_map.2 ⟨_,lz hv,rfl⟩
theorem B7 {α:Type}{m:List (Int×α)}(h:KN m){l:List Int}(hl:l.Nodup)(he:∀x,x∈l↔(ah m x).isSome=true):m.length=l.length:=by
 have h1:=hl.length_le_of_subset (l₂:=m.map (·.1)) fun x hx=>mem_keys.2 ((he x).1 hx)
 have h2:=h.length_le_of_subset (l₂:=l) fun x hx=>(he x).2 (mem_keys.1 hx)
 rw[List.length_map] at h1 h2;omega
theorem Az {α:Type}{m:List (Int×α)}(h:KN m){x:Int}(hx:(ah m x).isSome=true):(wG m x).length+1=m.length:=by
 have hn:x∉(wG m x).map (·.1):=fun q=>by
  have:=mem_keys.1 q
  rw[wH,if_pos rfl] at this;cases this
 have hc:(x::(wG m x).map (·.1)).Nodup:=List.nodup_cons.2 ⟨hn,NT h x⟩
 have:=B7 h hc fun y=>by
  rw[List.mem_cons,mem_keys,wH]
  constructor
  .rintro(rfl|q)
   .exact hx
   split at q
   .cases q
   exact q
  intro q
  by_cases e:x=y
  .exact .inl e.symm
  exact .inr (by rw[if_neg e];exact q)
 simp at this;omega
theorem NU {M:List (Int×Int)}(h:KN M)(k v:Int):KN (vp M k v):=Eh (Eh h _ _) _ _
theorem UB (E:List (Int×Int))(L:List Int):∀k,KN (r8 E L k)
 |0=>B6
 |k+1=>NU (NU (UB E L k) _ _) _ _
theorem xX {E:List (Int×Int)}{L:List Int}(h:L.Nodup):(r8 E L L.length).length=(dA L L.length).length:=
 B7 (UB E L _) (qm h (Nat.le_refl _)) fun d=>by
  rw[kK (Nat.le_refl _)]
  by_cases q:d∈dA L L.length
  .rw[if_pos q];exact⟨fun _=>rfl,fun _=>q⟩
  rw[if_neg q];exact⟨fun z=>(q z).elim,fun z=>by cases z⟩
theorem b6 {α:Type}{l:List α}{k:Nat}(h:k<l.length)(z:α):l.take (k+1)=l.take k++[l.getD k z]:=by
 rw[List.take_add_one,List.getD_eq_getElem?_getD,List.getElem?_eq_getElem h];rfl
structure Gd (lv:List (Int×Int))(v:Int)(l:List Int)(P:List (Int×Int))(Q:List (Int×Int)):Prop where
 nd:l.Nodup
 fr:∀d∈l,ah P d=none
 lk:∀d∈l,ah lv d=some v
 ks:∀d,(ah Q d).isSome=true↔(ah P d).isSome=true\/d∈l
 kn:KN Q
theorem xY {lv:List (Int×Int)}{v:Int}{t:List Int}{P:List (Int×Int)}(hP:KN P):∀ {k:Nat} {Q:List (Int×Int)},k<=t.length->CS lv v t P k=some Q->Gd lv v (t.take k) P Q
 |0,Q,_,h=>by
  have h:some P=some Q:=h
  cases h
  exact⟨by rw[List.take_zero];exact List.nodup_nil,fun d hd=>by simp at hd,fun d hd=>by simp at hd,fun d=>by simp,hP⟩
 |k+1,Q,hk,h=>by
  unfold CS at h
  split at h
  .cases h
  rename_i R hR
  obtain⟨g1,g2,g3,g4,g5⟩:=xY hP (k:=k) (by omega) hR
  split at h
  .rename_i hc
   cases h
   obtain⟨c1,c2,c3⟩:=hc
   have hn:¬(ah R (t.getD k 0)).isSome=true:=by rw[c3];simp
   have hx:¬((ah P (t.getD k 0)).isSome=true\/t.getD k 0∈t.take k):=fun q=>hn ((g4 _).2 q)
   rw[b6 (by omega) 0]
   refine⟨?_,fun d hd=>?_,fun d hd=>?_,fun d=>?_,Eh g5 _ _⟩
   .rw[List.nodup_append]
    exact⟨g1,by simp,fun a ha b hb e=>by subst e;have:=List.mem_singleton.1 hb;subst this;exact hx (.inr ha)⟩
   .rcases List.mem_append.1 hd with hd|hd
    .exact g2 d hd
    have:=List.mem_singleton.1 hd
    subst this
    cases hq:ah P (t.getD k 0) with
    |none=>rfl
    |some _=>exact(hx (.inl (by rw[hq];rfl))).elim
   .rcases List.mem_append.1 hd with hd|hd
    .exact g3 d hd
    have:=List.mem_singleton.1 hd
    subst this
    obtain⟨u,hu⟩:=Option.isSome_iff_exists.1 c1
    rw[hu] at c2 ⊢
    exact congrArg some c2
   rw[bO,List.mem_append,List.mem_singleton]
   by_cases e:t.getD k 0=d
   .rw[if_pos e];exact⟨fun _=>.inr (.inr e.symm),fun _=>rfl⟩
   rw[if_neg e,g4]
   exact⟨fun q=>q.elim .inl fun q=>.inr (.inl q),fun q=>q.elim .inl fun q=>q.elim .inr fun q=>(e q.symm).elim⟩
  cases h
theorem NV {lv:List (Int×Int)}{v:Int}{t:List Int}{P:List (Int×Int)}(hP:KN P)(h1:t.Nodup)(h2:∀d∈t,ah P d=none)(h3:∀d∈t,ah lv d=some v):∀ {k:Nat},k<=t.length->∃Q,CS lv v t P k=some Q
 |0,_=>⟨P,rfl⟩
 |k+1,hk=>by
  obtain⟨R,hR⟩:=NV hP h1 h2 h3 (k:=k) (by omega)
  have g:=xY hP (k:=k) (by omega) hR
  have hm:t.getD k 0∈t:=aB.2 ⟨k,by omega,rfl⟩
  have hnt:t.getD k 0∉t.take k:=fun q=>by
   obtain⟨j,hj,e⟩:=aB (z:=0).1 q
   rw[List.length_take] at hj
   rw[List.getD_eq_getElem?_getD,List.getElem?_take,if_pos (by omega),<-List.getD_eq_getElem?_getD] at e
   have:=eV h1 (by omega) (by omega) e
   omega
  have Zu:(ah R (t.getD k 0)).isSome=false:=by
   cases hq:(ah R (t.getD k 0)).isSome with
   |false=>rfl
   |true=>
    rcases(g.ks _).1 hq with z|z
    .rw[h2 _ hm] at z;cases z
    exact(hnt z).elim
  refine⟨cB R (t.getD k 0) (k:Int),?_⟩
  unfold CS
  rw[hR]
  exact if_pos ⟨by rw[h3 _ hm];rfl,by rw[h3 _ hm];rfl,Zu⟩
structure GdF (lv:List (Int×Int))(T:List (List Int))(v:Nat)(Q:List (Int×Int)):Prop where
 nd:(T.take v).flatten.Nodup
 lk:∀u,u<v->∀d∈T.getD u [],ah lv d=some (u:Int)
 ks:∀d,(ah Q d).isSome=true↔d∈(T.take v).flatten
 kn:KN Q
theorem mH {T:List (List Int)}{v:Nat}(h:v<=T.length){d:Int}:d∈(T.take v).flatten↔∃u,u<v/\d∈T.getD u []:=by
 rw[List.mem_flatten]
 constructor
 .rintro⟨l,hl,hd⟩
  obtain⟨j,hj,e⟩:=aB (z:=[]).1 hl
  rw[List.length_take] at hj
  rw[List.getD_eq_getElem?_getD,List.getElem?_take,if_pos (by omega),<-List.getD_eq_getElem?_getD] at e
  exact⟨j,by omega,by rw[e];exact hd⟩
 rintro⟨u,hu,hd⟩
 refine⟨T.getD u [],aB (z:=[]).2 ⟨u,by rw[List.length_take];omega,?_⟩,hd⟩
 rw[List.getD_eq_getElem?_getD,List.getElem?_take,if_pos hu,<-List.getD_eq_getElem?_getD]
theorem sS {lv:List (Int×Int)}{T:List (List Int)}:∀ {v:Nat} {Q:List (Int×Int)},v<=T.length->Ay lv T v=some Q->GdF lv T v Q
 |0,Q,_,h=>by
  have h:some []=some Q:=h
  cases h
  exact⟨by simp,fun u hu=>by omega,fun d=>by simp;rfl,B6⟩
 |v+1,Q,hv,h=>by
  unfold Ay at h
  split at h
  .cases h
  rename_i P hP
  obtain⟨f1,f2,f3,f4⟩:=sS (v:=v) (by omega) hP
  obtain⟨g1,g2,g3,g4,g5⟩:=xY f4 (Nat.le_refl _) h
  rw[List.take_length] at g1 g2 g3 g4
  refine⟨?_,fun u hu d hd=>?_,fun d=>?_,g5⟩
  .rw[b6 (by omega) [],List.flatten_append,List.flatten_cons,List.flatten_nil,List.append_nil,List.nodup_append]
   exact⟨f1,g1,fun a ha b hb e=>by subst e;have:=(f3 a).2 ha;rw[g2 a hb] at this;cases this⟩
  .by_cases q:u=v
   .subst q;exact g3 d hd
   exact f2 u (by omega) d hd
  rw[g4,f3,b6 (by omega) [],List.flatten_append,List.flatten_cons,List.flatten_nil,List.append_nil,List.mem_append]
theorem NW {lv:List (Int×Int)}{T:List (List Int)}(h1:∀u,u<T.length->(T.getD u []).Nodup)(h2:∀u,u<T.length->∀d∈T.getD u [],ah lv d=some (u:Int)):∀ {v:Nat},v<=T.length->∃Q,Ay lv T v=some Q
 |0,_=>⟨[],rfl⟩
 |v+1,hv=>by
  obtain⟨P,hP⟩:=NW h1 h2 (v:=v) (by omega)
  have g:=sS (v:=v) (by omega) hP
  unfold Ay
  rw[hP]
  refine NV g.kn (h1 v (by omega)) (fun d hd=>?_) (h2 v (by omega)) (Nat.le_refl _)
  cases hq:ah P d with
  |none=>rfl
  |some _=>
   obtain⟨u,hu,UC⟩:=(mH (by omega)).1 ((g.ks d).1 (by rw[hq];rfl))
   have e1:=h2 u (by omega) d UC
   rw[h2 v (by omega) d hd] at e1
   injection e1 with e1
   omega
structure bW (n:Int)(E:List (Int×Int))(L:List Int)(T:List (List Int)):Prop where
 len:(T.length:Int)=n
 nd:∀v,v<T.length->(T.getD v []).Nodup
 mem:∀v,v<T.length->∀d,d∈T.getD v []↔aU L d/\ak E d=(v:Int)
theorem sU {L:List Int}{n:Int}(h:bP L n):L.Nodup:=qg (aG.1 h).1
theorem fN {n:Int}{E:List (Int×Int)}{V L:List Int}{T:List (List Int)}(h:(bT n E V L T).2=0):
  aA n E V L=0/\bW n E L T/\(bT n E V L T).1=some (T.map bC,r8 E L L.length,kJ T T.length,dA L L.length):=by
 unfold bT at h ⊢
 split at h
 .rename_i q;exact(q h).elim
 rename_i hp
 rw[if_neg hp]
 split at h
 .cases h
 rename_i hlen
 rw[if_neg hlen]
 split at h
 .cases h
 rename_i P hP
 split at h
 .cases h
 rename_i aaX
 have gw:aA n E V L=0:=by omega
 obtain⟨_,_,hL,_⟩:=aD gw
 have UD:=sU hL
 obtain⟨f1,f2,f3,f4⟩:=sS (Nat.le_refl _) hP
 rw[List.take_length] at f1 f3
 have e1:P.length=T.flatten.length:=B7 f4 f1 fun d=>(f3 d).symm
 have e2:=xX (E:=E) UD
 have oy:∀d∈T.flatten,d∈dA L L.length:=fun d hd=>by
  obtain⟨u,hu,UC⟩:=(mH (Nat.le_refl T.length)).1 (by rw[List.take_length];exact hd)
  have:=f2 u hu d UC
  rw[kK (Nat.le_refl _)] at this
  split at this
  .rename_i q;exact q
  cases this
 have aaY:=cover f1 oy (by omega)
 refine⟨gw,⟨by omega,fun v hv=>?_,fun v hv d=>⟨fun hd=>?_,fun⟨hd,ht⟩=>?_⟩⟩,by rw[if_neg aaX]⟩
 .have hm:T.getD v []∈T:=aB.2 ⟨v,hv,rfl⟩
  exact f1.sublist (List.sublist_flatten_of_mem hm)
 .have:=f2 v hv d hd
  rw[kK (Nat.le_refl _)] at this
  split at this
  .rename_i q
   exact⟨(cO d).1 q,by injection this⟩
  cases this
 have hdf:=aaY d ((cO d).2 hd)
 obtain⟨u,hu,UC⟩:=(mH (Nat.le_refl T.length)).1 (by rw[List.take_length];exact hdf)
 have:=f2 u hu d UC
 rw[kK (Nat.le_refl _),if_pos ((cO d).2 hd),ht] at this
 injection this with this
 have:u=v:=by omega
 subst this;exact UC
theorem gD {n:Int}{E:List (Int×Int)}{V L:List Int}{T:List (List Int)}(hp:aA n E V L=0)(h:bW n E L T):(bT n E V L T).2=0:=by
 obtain⟨hr,_,hL,_⟩:=aD hp
 have UD:=sU hL
 have qG:∀u,u<T.length->∀d∈T.getD u [],ah (r8 E L L.length) d=some (u:Int):=fun u hu d hd=>by
  obtain⟨h1,h2⟩:=(h.mem u hu d).1 hd
  rw[kK (Nat.le_refl _),if_pos ((cO d).2 h1),h2]
 obtain⟨P,hP⟩:=NW h.nd qG (Nat.le_refl T.length)
 obtain⟨f1,f2,f3,f4⟩:=sS (Nat.le_refl _) hP
 rw[List.take_length] at f1 f3
 have oG:=qm UD (Nat.le_refl L.length)
 have Km:∀d,aU L d->0<=ak E d/\(ak E d).toNat<T.length:=fun d hd=>by
  obtain⟨e,he,q⟩:=rP.1 hd
  obtain⟨r1,r2,r3,r4⟩:=aN hr
  have hb:=(aG.1 hL).2 e he
  have eE:=r4 e.toNat (by omega)
  unfold Ko at eE
  have hlen:=h.len
  rcases q with rfl|rfl
  .have e0:ak E (2*e)=(E.getD e.toNat (0,0)).1:=by unfold ak;rw[if_pos (by omega),show 2*e/2=e by omega]
   rw[e0];omega
  have e0:ak E (2*e+1)=(E.getD e.toNat (0,0)).2:=by unfold ak;rw[if_neg (by omega),show(2*e+1)/2=e by omega]
  rw[e0];omega
 have e1:P.length=(dA L L.length).length:=B7 f4 oG fun d=>by
  rw[f3]
  constructor
  .intro hd
   have hd:=(cO d).1 hd
   obtain⟨t0,t1⟩:=Km d hd
   have:=(h.mem _ t1 d).2 ⟨hd,by omega⟩
   have:=(mH (Nat.le_refl T.length)).2 ⟨_,t1,this⟩
   rwa[List.take_length] at this
  intro hd
  obtain⟨u,hu,UC⟩:=(mH (Nat.le_refl T.length)).1 (by rw[List.take_length];exact hd)
  exact(cO d).2 ((h.mem u hu d).1 UC).1
 have e2:=xX (E:=E) UD
 rw[B5 hp h.len hP (by omega)]
theorem KE {l:List Int}{i:Int}(h0:0<=i)(h1:i<=(l.length:Int)):(mF l i).length=l.length:=by
 unfold mF;rw[List.length_append,List.length_drop,List.length_take];omega
theorem Ei {l:List Int}{i:Int}(h0:0<=i)(h1:i<=(l.length:Int)){j:Nat}(hj:j<l.length):(mF l i).getD j 0=l.getD ((j+i.toNat)%l.length) 0:=by
 unfold mF
 have hi:i.toNat<=l.length:=by omega
 rw[List.getD_eq_getElem?_getD,List.getD_eq_getElem?_getD,List.getElem?_append]
 rw[List.length_drop]
 split
 .rename_i q
  rw[List.getElem?_drop,Nat.mod_eq_of_lt (by omega),Nat.add_comm]
 rename_i q
 rw[List.getElem?_take,if_pos (by omega)]
 have e:(j+i.toNat)%l.length=j-(l.length-i.toNat):=by
  rw[show j+i.toNat=(j-(l.length-i.toNat))+l.length by omega,Nat.add_mod_right,Nat.mod_eq_of_lt (by omega)]
 rw[e]
def sV (l:List Int)(x y:Int):Prop:=∃j,j<l.length/\l.getD j 0=x/\y=l.getD ((j+l.length-1)%l.length) 0
theorem KF {l:List Int}{i:Int}(h0:0<=i)(h1:i<=(l.length:Int)){x y:Int}(h:sV (mF l i) x y):sV l x y:=by
 obtain⟨j,hj,e1,e2⟩:=h
 rw[KE h0 h1] at hj e2
 have hl:0<l.length:=by omega
 have hm:(j+l.length-1)%l.length<l.length:=Nat.mod_lt _ hl
 rw[Ei h0 h1 hj] at e1
 rw[Ei h0 h1 hm] at e2
 refine⟨(j+i.toNat)%l.length,Nat.mod_lt _ hl,e1,?_⟩
 rw[e2]
 congr 1
 rw[Nat.mod_add_mod,show(j+i.toNat)%l.length+l.length-1=(j+i.toNat)%l.length+(l.length-1) by omega,Nat.mod_add_mod]
 congr 1
 omega
theorem Ej {l:List Int}(hn:l.Nodup){x y z:Int}(h:sV l x y)(k:sV l x z):y=z:=by
 obtain⟨i,hi,e1,rfl⟩:=h
 obtain⟨j,hj,e2,rfl⟩:=k
 rw[eV hn hi hj (e1.trans e2.symm)]
theorem pred_inj {l:List Int}(hn:l.Nodup){x y z:Int}(h:sV l x z)(k:sV l y z):x=y:=by
 obtain⟨i,hi,rfl,e1⟩:=h
 obtain⟨j,hj,rfl,e2⟩:=k
 have hl:0<l.length:=by omega
 have:=eV hn (Nat.mod_lt _ hl) (Nat.mod_lt _ hl) (e1.symm.trans e2)
 have e:i=j:=by
  have key:∀a,a<l.length->(a+l.length-1)%l.length=if a=0 then l.length-1 else a-1:=fun a ha=>by
   split
   .rename_i q;subst q;rw[Nat.zero_add,Nat.mod_eq_of_lt (by omega)]
   rw[show a+l.length-1=(a-1)+l.length by omega,Nat.add_mod_right,Nat.mod_eq_of_lt (by omega)]
  rw[key i hi,key j hj] at this
  split at this<;>split at this<;>omega
 rw[e]
theorem NY {l:List Int}{x y:Int}(h:sV l x y):y∈l:=by
 obtain⟨i,hi,_,rfl⟩:=h
 exact aB.2 ⟨_,Nat.mod_lt _ (by omega),rfl⟩
theorem AA {t:List Int}(hn:t.Nodup){P:List (Int×Int)}:∀ {k:Nat},k<=t.length->(∀j,j<k->ah (sR P t k) (t.getD j 0)=some (j:Int))/\∀x,(∀j,j<k->t.getD j 0≠x)->ah (sR P t k) x=ah P x
 |0,_=>⟨fun j hj=>by omega,fun x _=>rfl⟩
 |k+1,hk=>by
  obtain⟨h1,h2⟩:=AA hn (P:=P) (k:=k) (by omega)
  refine⟨fun j hj=>?_,fun x hx=>?_⟩
  .show ah (cB (sR P t k) (t.getD k 0) (k:Int)) _=_
   rw[bO]
   by_cases q:j=k
   .rw[q,if_pos rfl]
   rw[if_neg fun e=>q (eV hn (by omega) (by omega) e.symm),h1 j (by omega)]
  show ah (cB (sR P t k) (t.getD k 0) (k:Int)) _=_
  rw[bO,if_neg (hx k (by omega)),h2 x fun j hj=>hx j (by omega)]
theorem Gs (l:List Int):∃i:Int,0<=i/\i<=(l.length:Int)/\bC l=mF l i:=by
 have:=mG l l.length
 exact⟨iQ l l.length,this.1,by omega,rfl⟩
theorem uh {l:List Int}{x:Int}:x∈bC l↔x∈l:=by
 constructor
 .exact xR
 intro h
 unfold bC mF
 rw[List.mem_append]
 rw[<-List.take_append_drop (iQ l l.length).toNat l,List.mem_append] at h
 exact h.symm
theorem Ek {l:List Int}(h:l.Nodup):(bC l).Nodup:=by
 unfold bC mF
 rw[<-List.take_append_drop (iQ l l.length).toNat l] at h
 exact(List.perm_append_comm.nodup_iff).1 h
theorem AB {T:List (List Int)}(hn:∀v,v<T.length->(T.getD v []).Nodup)(hd:∀u v,u<T.length->v<T.length->∀d,d∈T.getD u []->d∈T.getD v []->u=v):∀ {k:Nat},k<=T.length->∀v,v<k->∀j,j<(T.getD v []).length->ah (kJ T k) ((bC (T.getD v [])).getD j 0)=some (j:Int)
 |0,_,v,hv,_,_=>by omega
 |k+1,hk,v,hv,j,hj=>by
  have hnk:=Ek (hn k (by omega))
  obtain⟨h1,h2⟩:=AA hnk (P:=kJ T k) (Nat.le_refl _)
  show ah (sR (kJ T k) (bC (T.getD k [])) (bC (T.getD k [])).length) _=_
  by_cases q:v=k
  .subst q
   exact h1 j (by rw[fh];exact hj)
  rw[h2 _ fun i hi e=>?_]
  .exact AB hn hd (k:=k) (by omega) v (by omega) j hj
  have m1:(bC (T.getD v [])).getD j 0∈T.getD v []:=uh.1 (aB.2 ⟨j,by rw[fh];exact hj,rfl⟩)
  have m2:(bC (T.getD k [])).getD i 0∈T.getD k []:=uh.1 (aB.2 ⟨i,hi,rfl⟩)
  rw[e] at m2
  exact q (hd v k (by omega) (by omega) _ m1 m2)
theorem Em (d:Int):aq (aq d)=d:=by unfold aq;split<;>split<;>omega
theorem KG (d:Int):aq d/2=d/2:=by unfold aq;split<;>omega
theorem fL {L:List Int}{d:Int}:aU L (aq d)↔aU L d:=by unfold aU;rw[KG]
theorem Gt {n:Int}{E:List (Int×Int)}{L:List Int}{T:List (List Int)}(h:bW n E L T):∀u v,u<T.length->v<T.length->∀d,d∈T.getD u []->d∈T.getD v []->u=v:=fun u v hu hv d h1 h2=>by
 have e1:=((h.mem u hu d).1 h1).2
 have e2:=((h.mem v hv d).1 h2).2
 omega
theorem nR {n:Int}{E:List (Int×Int)}{V L:List Int}{T:List (List Int)}(hp:aA n E V L=0)(h:bW n E L T){d:Int}(hd:aU L d):0<=ak E d/\(ak E d).toNat<T.length/\d∈T.getD (ak E d).toNat []:=by
 obtain⟨hr,_,hL,_⟩:=aD hp
 obtain⟨r1,r2,r3,r4⟩:=aN hr
 obtain⟨e,he,q⟩:=rP.1 hd
 have hb:=(aG.1 hL).2 e he
 have eE:=r4 e.toNat (by omega)
 unfold Ko at eE
 have hlen:=h.len
 have key:0<=ak E d/\(ak E d).toNat<T.length:=by
  rcases q with rfl|rfl
  .have e0:ak E (2*e)=(E.getD e.toNat (0,0)).1:=by unfold ak;rw[if_pos (by omega),show 2*e/2=e by omega]
   rw[e0];omega
  have e0:ak E (2*e+1)=(E.getD e.toNat (0,0)).2:=by unfold ak;rw[if_neg (by omega),show(2*e+1)/2=e by omega]
  rw[e0];omega
 exact⟨key.1,key.2,(h.mem _ key.2 d).2 ⟨hd,by omega⟩⟩
def NZ (E:List (Int×Int))(L:List Int)(T:List (List Int)):Option nQ:=some (T.map bC,r8 E L L.length,kJ T T.length,dA L L.length)
def u6 (E:List (Int×Int))(L:List Int)(T:List (List Int))(d:Int):Int:=(cW (NZ E L T) (aq d) (-1)).1
theorem sW {α β:Type}{f:α->β}{l:List α}{k:Nat}(h:k<l.length)(z:α)(y:β):(l.map f).getD k y=f (l.getD k z):=by
 rw[List.getD_eq_getElem?_getD,List.getElem?_map,List.getD_eq_getElem?_getD,List.getElem?_eq_getElem h];rfl
theorem AD {n:Int}{E:List (Int×Int)}{V L:List Int}{T:List (List Int)}(hp:aA n E V L=0)(h:bW n E L T){t:Int}(ht:aU L t):
  ∃j:Nat,j<(T.getD (ak E t).toNat []).length/\ah (r8 E L L.length) t=some (ak E t)/\ah (kJ T T.length) t=some (j:Int)/\(bC (T.getD (ak E t).toNat [])).getD j 0=t:=by
 obtain⟨h0,h1,h2⟩:=nR hp h ht
 obtain⟨j,hj,e⟩:=aB (z:=0).1 (uh.2 h2)
 rw[fh] at hj
 refine⟨j,hj,?_,?_,e⟩
 .rw[kK (Nat.le_refl _),if_pos ((cO t).2 ht)]
 have:=AB h.nd (Gt h) (Nat.le_refl _) _ h1 j hj
 rwa[e] at this
theorem mI {n:Int}{E:List (Int×Int)}{V L:List Int}{T:List (List Int)}(hp:aA n E V L=0)(h:bW n E L T){d:Int}(hd:aU L d):sV (T.getD (ak E (aq d)).toNat []) (aq d) (u6 E L T d):=by
 have ht:=fL.2 hd
 obtain⟨h0,h1,h2⟩:=nR hp h ht
 obtain⟨j,hj,e1,e2,e3⟩:=AD hp h ht
 obtain⟨i,i0,i1,ei⟩:=Gs (T.getD (ak E (aq d)).toNat [])
 refine KF i0 i1 ?_
 rw[<-ei]
 refine⟨j,by rw[fh];exact hj,e3,?_⟩
 have eT:(T.map bC).getD (ak E (aq d)).toNat []=bC (T.getD (ak E (aq d)).toNat []):=sW h1 _ _
 unfold u6 cW NZ
 simp only[e1,e2,eT,fh,Option.getD_some]
 congr 1
 have:((j:Int)+ -1+((T.getD (ak E (aq d)).toNat []).length:Int))=((j+(T.getD (ak E (aq d)).toNat []).length-1:Nat):Int):=by omega
 rw[this,<-Int.natCast_emod]
 rfl
theorem sX {n:Int}{E:List (Int×Int)}{V L:List Int}{T:List (List Int)}(hp:aA n E V L=0)(h:bW n E L T)(hs:av T){d:Int}(hd:aU L d):xU (NZ E L T) (aq d)/\0<=d/\d<=1000000:=by
 have ht:=fL.2 hd
 obtain⟨h0,h1,h2⟩:=nR hp h ht
 obtain⟨j,hj,e1,e2,e3⟩:=AD hp h ht
 obtain⟨hr,_,hL,_⟩:=aD hp
 obtain⟨r1,r2,r3,r4⟩:=aN hr
 obtain⟨e,he,q⟩:=rP.1 hd
 have hb:=(aG.1 hL).2 e he
 refine⟨fun v hv=>?_,by omega,by omega⟩
 have hv:ah (r8 E L L.length) (aq d)=some v:=hv
 rw[e1] at hv
 injection hv with hv
 subst hv
 have eT:(T.map bC).getD (ak E (aq d)).toNat []=bC (T.getD (ak E (aq d)).toNat []):=sW h1 _ _
 have hz:=hs.2 _ (aB (z:=[]).2 ⟨_,h1,rfl⟩)
 refine⟨h0,by rw[List.length_map];omega,?_,?_,?_⟩
 .rw[eT,fh];exact hz
 .show 0<=(ah (kJ T T.length) (aq d)).getD 0
  rw[e2];exact Int.natCast_nonneg _
 show(ah (kJ T T.length) (aq d)).getD 0<_
 rw[e2,eT,fh]
 show(j:Int)<_
 omega
theorem jk {n:Int}{E:List (Int×Int)}{V L:List Int}{T:List (List Int)}(hp:aA n E V L=0)(h:bW n E L T){d:Int}(hd:aU L d):aU L (u6 E L T d)/\ak E (u6 E L T d)=ak E (aq d):=by
 obtain⟨h0,h1,h2⟩:=nR hp h (fL.2 hd)
 have:=(h.mem _ h1 _).1 (NY (mI hp h hd))
 exact⟨this.1,by omega⟩
theorem xZ {n:Int}{E:List (Int×Int)}{V L:List Int}{T:List (List Int)}(hp:aA n E V L=0)(h:bW n E L T){d e:Int}(hd:aU L d)(he:aU L e)(q:u6 E L T d=u6 E L T e):d=e:=by
 have p1:=mI hp h hd
 have p2:=mI hp h he
 have t1:=(jk hp h hd).2
 have t2:=(jk hp h he).2
 rw[q] at t1 p1
 rw[<-t1,t2] at p1
 have:=pred_inj (h.nd _ (nR hp h (fL.2 he)).2.1) p1 p2
 rw[<-Em d,this,Em]
def tK (V:List Int)(T:List (List Int)):Nat->List (Int×List Int)
 |0=>[]
 |k+1=>if(T.getD (V.getD (V.length-1-k) 0).toNat []).length=0 then tK V T k++[(-1-V.getD (V.length-1-k) 0,[])] else tK V T k
theorem nS (V:List Int)(T:List (List Int)):∀k,(tK V T k).length<=k
 |0=>Nat.le_refl _
 |k+1=>by
  have:=nS V T k
  unfold tK
  split
  .rw[List.length_append];simp;omega
  omega
def iR (r:Option nQ):Nat->List (Int×Int)->Int->List Int->List (Int×Int)×List Int
 |0,m,_,acc=>(m,acc)
 |k+1,m,x,acc=>if(ah (wG m x) (cW r (aq x) (-1)).1).isSome=true then iR r k (wG m x) (cW r (aq x) (-1)).1 (acc++[x]) else(wG m x,acc++[x])
def jb (r:Option nQ)(s:List (Int×Int)×List (Int×List Int))(d:Int):List (Int×Int)×List (Int×List Int):=
 if(ah s.1 d).isSome=true then((iR r s.1.length s.1 d []).1,s.2++[(d,(iR r s.1.length s.1 d []).2)]) else s
def N0 (ds:List Int):Nat->List (Int×Int)
 |0=>[]
 |k+1=>cB (N0 ds k) (ds.getD k 0) (ds.getD k 0)
def dJ (r:Option nQ)(ds:List Int)(out:List (Int×List Int)):Nat->List (Int×Int)×List (Int×List Int)
 |0=>(N0 ds ds.length,out)
 |k+1=>jb r (dJ r ds out k) (ds.getD k 0)
def aa (n:Int)(E:List (Int×Int))(V L:List Int)(T:List (List Int)):List (Int×List Int)×Int:=
 if(bT n E V L T).2≠0 then([],(bT n E V L T).2) else((dJ (bT n E V L T).1 (dA L L.length) (tK V T V.length) (dA L L.length).length).2,0)
theorem UE (ds:List Int):∀k,KN (N0 ds k)
 |0=>B6
 |k+1=>Eh (UE ds k) _ _
theorem vV {ds:List Int}:∀ {k:Nat},k<=ds.length->∀x,(ah (N0 ds k) x).isSome=true↔x∈ds.take k
 |0,_,x=>by simp[N0];rfl
 |k+1,h,x=>by
  show(ah (cB (N0 ds k) (ds.getD k 0) (ds.getD k 0)) x).isSome=true↔_
  rw[bO,b6 (by omega) 0,List.mem_append,List.mem_singleton]
  split
  .rename_i e;exact⟨fun _=>.inr e.symm,fun _=>rfl⟩
  rename_i e
  rw[vV (k:=k) (by omega)]
  exact⟨.inl,fun q=>q.elim id fun q=>(e q.symm).elim⟩
theorem B8 (ds:List Int):∀k,(N0 ds k).length<=k
 |0=>Nat.le_refl _
 |k+1=>by
  have:=B8 ds k
  have:=dh (N0 ds k) (ds.getD k 0) (ds.getD k 0)
  show(cB _ _ _).length<=_
  omega
theorem sY {V:List Int}{T:List (List Int)}{i:Int}(h0:0<=i)(h1:i<(V.length:Int)):tK V T (V.length-(i-1+1).toNat)=if(T.getD (V.getD i.toNat 0).toNat []).length=0 then tK V T (V.length-(i+1).toNat)++[(-1-V.getD i.toNat 0,[])] else tK V T (V.length-(i+1).toNat):=by
 rw[show V.length-(i-1+1).toNat=(V.length-(i+1).toNat)+1 by omega]
 show(if(T.getD (V.getD (V.length-1-(V.length-(i+1).toNat)) 0).toNat []).length=0 then _ else _)=_
 rw[show V.length-1-(V.length-(i+1).toNat)=i.toNat by omega]
theorem RO {r:Option nQ}{m:List (Int×Int)}{x:Int}{acc:List Int}{R:List (Int×Int)×List Int}(hk:KN m)(hs:(ah m x).isSome=true)(ho:iR r m.length m x acc=R):
  ((ah (wG m x) (cW r (aq x) (-1)).1).isSome=true/\(ah (wG m x) (cW r (aq x) (-1)).1).isSome=true/\iR r (wG m x).length (wG m x) (cW r (aq x) (-1)).1 (acc++[x])=R)\/((ah (wG m x) (cW r (aq x) (-1)).1).isSome=false/\(wG m x,acc++[x])=R):=by
 have e:=Az hk hs
 rw[<-e] at ho
 unfold iR at ho
 split at ho
 .rename_i q;exact .inl ⟨q,q,ho⟩
 rename_i q;exact .inr ⟨by simpa using q,ho⟩
theorem vW {L:List Int}{m:List (Int×Int)}(h:∀y,(ah m y).isSome=true->aU L y)(x:Int):∀y,(ah (wG m x) y).isSome=true->aU L y:=fun y hy=>by
 rw[wH] at hy
 split at hy
 .cases hy
 exact h y hy
def x4 (L:List Int)(r:Option nQ)(ds:List Int)(out:List (Int×List Int))(k:Nat)(m2:List (Int×Int))(o2:List (Int×List Int)):Prop:=
 m2=(dJ r ds out k).1/\o2=(dJ r ds out k).2/\KN m2/\(∀y,(ah m2 y).isSome=true->aU L y)/\o2.length<=out.length+k
theorem RP {L:List Int}{r:Option nQ}{ds:List Int}{out:List (Int×List Int)}{k:Nat}{m2:List (Int×Int)}{o2:List (Int×List Int)}(h:(ah (dJ r ds out k).1 (ds.getD k 0)).isSome=false)(hI:x4 L r ds out k m2 o2):x4 L r ds out (k+1) m2 o2:=by
 obtain⟨h1,h2,h3,h4,h5⟩:=hI
 have e:dJ r ds out (k+1)=dJ r ds out k:=by
  show jb r (dJ r ds out k) (ds.getD k 0)=_
  unfold jb;rw[if_neg (by rw[h];simp)]
 exact⟨by rw[e];exact h1,by rw[e];exact h2,h3,h4,by omega⟩
theorem N1 {L:List Int}{r:Option nQ}{ds:List Int}{out:List (Int×List Int)}{k:Nat}{m2 mm:List (Int×Int)}{o2:List (Int×List Int)}{acc:List Int}(hk:k<ds.length)(h:(ah (dJ r ds out k).1 (ds.getD k 0)).isSome=true)
  (hR:(mm,acc)=iR r (dJ r ds out k).1.length (dJ r ds out k).1 (ds.getD k 0) []) (kk:KN mm) (kd:∀y,(ah mm y).isSome=true->aU L y) (hI:x4 L r ds out k m2 o2):x4 L r ds out (k+1) mm (o2++[(ds.getD k 0,acc)]):=by
 obtain⟨h1,h2,h3,h4,h5⟩:=hI
 have e:dJ r ds out (k+1)=(mm,(dJ r ds out k).2++[(ds.getD k 0,acc)]):=by
  show jb r (dJ r ds out k) (ds.getD k 0)=_
  unfold jb;rw[if_pos h,<-hR]
 exact⟨by rw[e],by rw[e,h2],kk,kd,by rw[List.length_append];simp;omega⟩
theorem N2 {L:List Int}{m:List (Int×Int)}(h:KN m)(hd:∀y,(ah m y).isSome=true->aU L y):m.length<=(dA L L.length).length:=by
 have:=h.length_le_of_subset (l₂:=dA L L.length) fun x hx=>(cO x).2 (hd x (mem_keys.1 hx))
 rwa[List.length_map] at this
theorem mJ {n:Int}{E:List (Int×Int)}{V L:List Int}{T:List (List Int)}(h:(bT n E V L T).2=0):aa n E V L T=((dJ (bT n E V L T).1 (dA L L.length) (tK V T V.length) (dA L L.length).length).2,0):=by
 unfold aa;rw[if_neg (by rw[h];exact fun q=>q rfl)]
end Go.Proofs.YtnfdimfepbbbpaaGreat
namespace Go.Proofs.YtnfdimfepbbbpaaGreat
open Go.RowKit
open Go.Proofs.YtnfdimfepbbbpaaGreat.Deep
attribute [local instance 10] Classical.propDecidable
section
variable {E:List (Int×Int)}{M:List (Int×List Int)}{V L:List Int}{a shut:Int}{n:Int}
theorem x5 {Q:Int->Prop}{v:Int}:∀ {l:List Int} {s:List (Int×Int)×List Int},(∀d∈l,bJ E d≠shut->Q (bJ E d))->(∀x,(ah s.1 x).isSome=true->Q x)->(∀x∈s.2,Q x)->
  (∀x,(ah (l.foldl (dV E v shut) s).1 x).isSome=true->Q x)/\∀x∈(l.foldl (dV E v shut) s).2,Q x
 |[],s,_,h1,h2=>⟨h1,h2⟩
 |d::l,s,hd,h1,h2=>by
  rw[List.foldl_cons]
  refine x5 (fun e he=>hd e (List.mem_cons_of_mem _ he)) (fun x hx=>?_) fun x hx=>?_
  .unfold dV at hx
   split at hx
   .exact h1 x hx
   rename_i hn
   have hx:(ah (cB s.1 (bJ E d) _) x).isSome=true:=hx
   rw[bO] at hx
   split at hx
   .rename_i e;rw[<-e];exact hd d List.mem_cons_self fun e=>hn (.inr e)
   exact h1 x hx
  unfold dV at hx
  split at hx
  .exact h2 x hx
  rename_i hn
  rcases List.mem_append.1 hx with hx|hx
  .exact h2 x hx
  rw[List.mem_singleton.1 hx];exact hd d List.mem_cons_self fun e=>hn (.inr e)
theorem Ih {Q:Int->Prop}(hQ:∀v,Q v->∀d∈(ah M v).getD [],bJ E d≠shut->Q (bJ E d)):∀(f:Nat) (v:Int) (m:List (Int×Int)) (q:List Int),Q v->(∀x,(ah m x).isSome=true->Q x)->(∀x∈q,Q x)->∀x,(ah (uf E M shut f v (m,q)) x).isSome=true->Q x
 |0,v,m,q,_,h1,_,x,hx=>h1 x hx
 |f+1,v,m,q,hv,h1,h2,x,hx=>by
  obtain⟨k1,k2⟩:=x5 (Q:=Q) (v:=v) (s:=(m,q)) (hQ v hv) h1 h2
  have bY:uf E M shut (f+1) v (m,q)=(match(ff E M v shut (m,q)).2 with
   |[]=>(ff E M v shut (m,q)).1
   |x::t=>uf E M shut f x ((ff E M v shut (m,q)).1,t)):=rfl
  rw[bY] at hx
  have k1:∀x,(ah (ff E M v shut (m,q)).1 x).isSome=true->Q x:=k1
  have k2:∀x∈(ff E M v shut (m,q)).2,Q x:=k2
  generalize ff E M v shut (m,q)=s at*
  obtain⟨m',q'⟩:=s
  cases q' with
  |nil=>exact k1 x hx
  |cons y t=>exact Ih hQ f y m' t (k2 y List.mem_cons_self) k1 (fun z hz=>k2 z (List.mem_cons_of_mem _ hz)) x hx
def Cn (E:List (Int×Int))(L:List Int)(x y:Int):Prop:=(zb E L).iB (· ≠-1) x y
theorem uj (hp:aA n E V L=0)(ha:a≠-1){x:Int}:(ah (dI E (bV E L) a (-1)) x).isSome=true↔Cn E L a x:=by
 refine⟨fun h=>?_,Ky hp⟩
 have hdk:=DW (E:=E) (aD hp).2.2.1
 refine Ih (Q:=fun x=>Cn E L a x) (fun v hv d hd hs=>?_) _ a [(a,0)] [] (.refl ha) (fun x hx=>?_) (fun x hx=>by cases hx) x h
 .rw[qj] at hd
  obtain⟨h1,h2⟩:=hdk.mem v d hd
  exact .step hv ⟨_,h1,h2⟩ hs
 cases hl:ah [(a,(0:Int))] x with
 |none=>rw[hl] at hx;cases hx
 |some z=>
  have:=List.mem_singleton.1 (lz hl)
  cases this
  exact .refl ha
noncomputable def b8 (E:List (Int×Int)) (L:List Int):List Int->List Int:=fun V=>V.foldl (fun r v=>if ∃a∈r,Cn E L a v then r else r++[v]) []
theorem uk (V:List Int)(v:Int):b8 E L (V++[v])=if ∃a∈b8 E L V,Cn E L a v then b8 E L V else b8 E L V++[v]:=by
 unfold b8;rw[List.foldl_append];rfl
theorem B9 {P:List Int->Prop}(h0:P [])(h1:∀l x,P l->P (l++[x])):∀l,P l:=fun l=>by
 have key:∀l:List Int,P l.reverse:=by
  intro l
  induction l with
  |nil=>exact h0
  |cons x l ih=>rw[List.reverse_cons];exact h1 _ _ ih
 have:=key l.reverse
 rwa[List.reverse_reverse] at this
theorem vX:∀V:List Int,(∀v∈V,v≠-1)->(∀a∈b8 E L V,a∈V)/\(∀v∈V,∃a∈b8 E L V,Cn E L a v)/\(b8 E L V).Nodup/\∀a∈b8 E L V,∀b∈b8 E L V,Cn E L a b->a=b:=by
 refine B9 (fun _=>⟨fun a h=>(by cases h),fun a h=>(by cases h),List.nodup_nil,fun a h=>(by cases h)⟩) fun V v ih hV=>?_
 obtain⟨h1,h2,h3,h4⟩:=ih fun x hx=>hV x (List.mem_append_left _ hx)
 have hv:=hV v (List.mem_append_right _ (List.mem_singleton.2 rfl))
 rw[uk]
 split
 .rename_i q
  refine⟨fun a ha=>List.mem_append_left _ (h1 a ha),fun x hx=>?_,h3,h4⟩
  rcases List.mem_append.1 hx with hx|hx
  .exact h2 x hx
  rw[List.mem_singleton.1 hx];exact q
 rename_i q
 refine⟨fun a ha=>?_,fun x hx=>?_,?_,fun a ha b hb uY=>?_⟩
 .rcases List.mem_append.1 ha with ha|ha
  .exact List.mem_append_left _ (h1 a ha)
  exact List.mem_append_right _ ha
 .rcases List.mem_append.1 hx with hx|hx
  .obtain⟨a,ha,hc⟩:=h2 x hx
   exact⟨a,List.mem_append_left _ ha,hc⟩
  rw[List.mem_singleton.1 hx];exact⟨v,List.mem_append_right _ (List.mem_singleton.2 rfl),.refl hv⟩
 .rw[List.nodup_append]
  exact⟨h3,by simp,fun x hx y hy e=>by subst e;rw[List.mem_singleton.1 hy] at hx;exact q ⟨v,hx,.refl hv⟩⟩
 rcases List.mem_append.1 ha with ha|ha<;>rcases List.mem_append.1 hb with hb|hb
 .exact h4 a ha b hb uY
 .rw[List.mem_singleton.1 hb] at uY;exact(q ⟨a,ha,uY⟩).elim
 .rw[List.mem_singleton.1 ha] at uY;exact(q ⟨b,hb,Gr.iB.symm uY⟩).elim
 rw[List.mem_singleton.1 ha,List.mem_singleton.1 hb]
noncomputable def gx (E:List (Int×Int)) (L V:List Int) (a:Int):List Int:=V.filter fun v=>decide (Cn E L a v)
noncomputable def VR (E:List (Int×Int)) (L:List Int) (a:Int):List Int:=L.filter fun e=>decide (Cn E L a (eA E e))
theorem sZ {v:Int}:v∈gx E L V a↔v∈V/\Cn E L a v:=by unfold gx;rw[List.mem_filter];simp
theorem x6 {α:Type}{r:List α}{f g:α->List Int×List Int}{i:Nat}(hi:i<r.length)(z:α)(h:∀j,j<r.length->j≠i->f (r.getD j z)=g (r.getD j z)):(r.map f).set i (g (r.getD i z))=r.map g:=by
 apply List.ext_getElem?
 intro j
 rw[List.getElem?_set]
 by_cases e:i=j
 .subst e
  rw[if_pos rfl,List.length_map,if_pos hi,List.getElem?_map,List.getD_eq_getElem?_getD,List.getElem?_eq_getElem hi];rfl
 rw[if_neg e,List.getElem?_map,List.getElem?_map]
 by_cases hj:j<r.length
 .have:=h j hj fun q=>e q.symm
  rw[List.getD_eq_getElem?_getD,List.getElem?_eq_getElem hj] at this
  rw[List.getElem?_eq_getElem hj]
  exact congrArg some this
 rw[List.getElem?_eq_none (by omega)];rfl
theorem x7 {α:Type}{r:List α}{f:α->List Int×List Int}{i:Nat}(hi:i<r.length)(z:α):(r.map f).getD i ([],[])=f (r.getD i z):=sW hi z _
theorem Zv (hp:aA n E V L=0):∀W:List Int,(∀v∈W,v≠-1)->
  (W.foldl (fE E (bV E L)) ([],[])).2=(b8 E L W).map (fun a=>(gx E L W a,[]))/\
  (∀x,(∀i,i<(b8 E L W).length->Cn E L ((b8 E L W).getD i 0) x->ah (W.foldl (fE E (bV E L)) ([],[])).1 x=some (i:Int))/\((¬ ∃a∈b8 E L W,Cn E L a x)->ah (W.foldl (fE E (bV E L)) ([],[])).1 x=none)):=by
 refine B9 (fun _=>⟨rfl,fun x=>⟨fun i hi=>by simp[b8] at hi,fun _=>rfl⟩⟩) fun W v ih hW=>?_
 have VS:∀x∈W,x≠-1:=fun x hx=>hW x (List.mem_append_left _ hx)
 obtain⟨h1,h2⟩:=ih VS
 have hv:=hW v (List.mem_append_right _ (List.mem_singleton.2 rfl))
 obtain⟨r1,r2,r3,r4⟩:=vX (E:=E) (L:=L) W VS
 rw[List.foldl_append]
 show(fE E (bV E L) (W.foldl (fE E (bV E L)) ([],[])) v).2=_/\∀x,(∀i,i<_->_->ah (fE E (bV E L) (W.foldl (fE E (bV E L)) ([],[])) v).1 x=_)/\(_->ah (fE E (bV E L) (W.foldl (fE E (bV E L)) ([],[])) v).1 x=none)
 generalize W.foldl (fE E (bV E L)) ([],[])=s at*
 obtain⟨pm,out⟩:=s
 dsimp only at h1 h2
 subst h1
 rw[uk]
 have RQ:∀a,gx E L (W++[v]) a=if Cn E L a v then gx E L W a++[v] else gx E L W a:=fun a=>by
  unfold gx
  rw[List.filter_append]
  split
  .rename_i q;rw[List.filter_cons_of_pos (by simpa using q)];rfl
  rename_i q;rw[List.filter_cons_of_neg (by simpa using q)];simp
 by_cases hc:∃a∈b8 E L W,Cn E L a v
 .rw[if_pos hc]
  obtain⟨a,ha,hav⟩:=hc
  obtain⟨i,hi,rfl⟩:=aB (z:=0).1 ha
  have qG:=(h2 v).1 i hi hav
  have e:fE E (bV E L) (pm,(b8 E L W).map fun a=>(gx E L W a,[])) v=(pm,D5 ((b8 E L W).map fun a=>(gx E L W a,[])) (i:Int) v):=by
   unfold fE;dsimp only;rw[if_pos (by rw[qG];rfl),qG];rfl
  rw[e]
  refine⟨?_,h2⟩
  show((b8 E L W).map fun a=>(gx E L W a,[])).set (i:Int).toNat _=_
  rw[Int.toNat_natCast,x7 hi 0]
  have:(gx E L W ((b8 E L W).getD i 0)++[v],([]:List Int))=(fun a=>(gx E L (W++[v]) a,([]:List Int))) ((b8 E L W).getD i 0):=by
   show _=(gx E L (W++[v]) _,[])
   rw[RQ,if_pos hav]
  show((b8 E L W).map fun a=>(gx E L W a,[])).set i (gx E L W ((b8 E L W).getD i 0)++[v],[])=_
  rw[this]
  refine x6 (f:=fun a=>(gx E L W a,[])) (g:=fun a=>(gx E L (W++[v]) a,[])) hi 0 fun j hj dL=>?_
  rw[RQ,if_neg]
  intro q
  have:=r4 _ (aB.2 ⟨j,hj,rfl⟩) _ ha ((Gr.iB.trans q (Gr.iB.symm hav)))
  exact dL (eV r3 hj hi this)
 rw[if_neg hc]
 have qG:=(h2 v).2 hc
 have e:fE E (bV E L) (pm,(b8 E L W).map fun a=>(gx E L W a,[])) v=(nN pm (dI E (bV E L) v (-1)) ((b8 E L W).length:Int),D5 (((b8 E L W).map fun a=>(gx E L W a,[]))++[([],[])]) ((b8 E L W).length:Int) v):=by
  unfold fE;dsimp only;rw[if_neg (by rw[qG];decide),List.length_map]
 rw[e]
 have kV:∀x,ah (nN pm (dI E (bV E L) v (-1)) ((b8 E L W).length:Int)) x=if(ah (dI E (bV E L) v (-1)) x).isSome=true then some ((b8 E L W).length:Int) else ah pm x:=fun x=>sP
 refine⟨?_,fun x=>⟨fun i hi hx=>?_,fun hx=>?_⟩⟩
 .have y5:∀a∈b8 E L W,gx E L (W++[v]) a=gx E L W a:=fun a ha=>by rw[RQ,if_neg fun q=>hc ⟨a,ha,q⟩]
  have tO:gx E L W v=[]:=by
   unfold gx
   rw[List.filter_eq_nil_iff]
   intro x hx q
   have q:Cn E L v x:=by simpa using q
   obtain⟨a,ha,UF⟩:=r2 x hx
   exact hc ⟨a,ha,Gr.iB.trans UF (Gr.iB.symm q)⟩
  show(((b8 E L W).map fun a=>(gx E L W a,[]))++[([],[])]).set ((b8 E L W).length:Int).toNat _=_
  rw[Int.toNat_natCast]
  have hlen:((b8 E L W).map fun a=>(gx E L W a,([]:List Int))).length=(b8 E L W).length:=List.length_map ..
  have eg:(((b8 E L W).map fun a=>(gx E L W a,([]:List Int)))++[([],[])]).getD (b8 E L W).length ([],[])=([],[]):=by
   rw[List.getD_eq_getElem?_getD,List.getElem?_append_right (by omega),hlen,Nat.sub_self];rfl
  rw[eg,List.set_append_right _ _ (by omega),hlen,Nat.sub_self,List.map_append]
  congr 1
  .exact List.map_congr_left fun a ha=>by rw[y5 a ha]
  show[(([]:List Int)++[v],([]:List Int))]=[(gx E L (W++[v]) v,[])]
  rw[RQ,if_pos (.refl hv),tO]
 .rw[kV]
  rw[List.length_append] at hi
  by_cases q:i<(b8 E L W).length
  .have eg:(b8 E L W++[v]).getD i 0=(b8 E L W).getD i 0:=o8 q
   rw[eg] at hx
   rw[if_neg,(h2 x).1 i q hx]
   intro z
   exact hc ⟨_,aB.2 ⟨i,q,rfl⟩,Gr.iB.trans hx (Gr.iB.symm ((uj hp hv).1 z))⟩
  have vE:i=(b8 E L W).length:=by simp at hi;omega
  subst vE
  have eg:(b8 E L W++[v]).getD (b8 E L W).length 0=v:=by
   rw[List.getD_eq_getElem?_getD,List.getElem?_append_right (Nat.le_refl _),Nat.sub_self];rfl
  rw[eg] at hx
  rw[if_pos ((uj hp hv).2 hx)]
 rw[kV,if_neg,(h2 x).2]
 .rintro⟨a,ha,q⟩;exact hx ⟨a,List.mem_append_left _ ha,q⟩
 intro z;exact hx ⟨v,List.mem_append_right _ (List.mem_singleton.2 rfl),(uj hp hv).1 z⟩
noncomputable def nU (E:List (Int×Int)) (V L:List Int):kQ:=(b8 E L V).map fun a=>(gx E L V a,VR E L a)
theorem pg {V:List Int}(h:bP V n):∀v∈V,v≠-1:=fun v hv=>by have:=(aG.1 h).2 v hv;omega
theorem AE (hp:aA n E V L=0):nO E V L=nU E V L:=by
 obtain⟨hr,hV,hL,eE⟩:=aD hp
 have VT:=pg hV
 obtain⟨h1,h2⟩:=Zv hp V VT
 obtain⟨r1,r2,r3,r4⟩:=vX (E:=E) (L:=L) V VT
 unfold nO
 generalize V.foldl (fE E (bV E L)) ([],[])=s at*
 obtain⟨pm,out⟩:=s
 dsimp only at h1 h2 ⊢
 subst h1
 have key:∀W:List Int,(∀e∈W,e∈L)->W.foldl (xQ E pm) ((b8 E L V).map fun a=>(gx E L V a,[]))=(b8 E L V).map fun a=>(gx E L V a,W.filter fun e=>decide (Cn E L a (eA E e))):=by
  refine B9 (fun _=>rfl) fun W e ih hW=>?_
  rw[List.foldl_append,ih fun x hx=>hW x (List.mem_append_left _ hx)]
  show xQ E pm _ e=_
  have he:=hW e (List.mem_append_right _ (List.mem_singleton.2 rfl))
  obtain⟨j,hj,rfl⟩:=fC.1 he
  obtain⟨ka,kb⟩:=ug (j:=(j:Int)) hp (by omega) (by omega)
  rw[Int.toNat_natCast] at ka
  have ka:eA E (L.getD j 0)∈V:=ka
  generalize L.getD j 0=e at*
  obtain⟨a,ha,UF⟩:=r2 _ ka
  obtain⟨i,hi,rfl⟩:=aB (z:=0).1 ha
  have qG:=(h2 (eA E e)).1 i hi UF
  have ee:xQ E pm ((b8 E L V).map fun a=>(gx E L V a,W.filter fun e=>decide (Cn E L a (eA E e)))) e=NP ((b8 E L V).map fun a=>(gx E L V a,W.filter fun e=>decide (Cn E L a (eA E e)))) (i:Int) e:=by
   unfold xQ
   rw[show(E.getD e.toNat (0,0)).1=eA E e from rfl,qG];rfl
  rw[ee]
  unfold NP
  rw[Int.toNat_natCast,x7 hi 0]
  have hf:∀a,(W++[e]).filter (fun e=>decide (Cn E L a (eA E e)))=if Cn E L a (eA E e) then W.filter (fun e=>decide (Cn E L a (eA E e)))++[e] else W.filter (fun e=>decide (Cn E L a (eA E e))):=fun a=>by
   rw[List.filter_append]
   split
   .rename_i q;rw[List.filter_cons_of_pos (by simpa using q)];rfl
   rename_i q;rw[List.filter_cons_of_neg (by simpa using q)];simp
  have:=x6 (f:=fun a=>(gx E L V a,W.filter fun e=>decide (Cn E L a (eA E e)))) (g:=fun a=>(gx E L V a,(W++[e]).filter fun e=>decide (Cn E L a (eA E e)))) hi 0 fun j hj dL=>by
   rw[hf,if_neg]
   intro q
   have:=r4 _ (aB.2 ⟨j,hj,rfl⟩) _ ha ((Gr.iB.trans q (Gr.iB.symm UF)))
   exact dL (eV r3 hj hi this)
  rw[<-this]
  dsimp only
  rw[hf,if_pos UF]
 exact key L fun _ h=>h
end
end Go.Proofs.YtnfdimfepbbbpaaGreat
namespace Go.Proofs.YtnfdimfepbbbpaaGreat
open Go.RowKit
open Go.Proofs.YtnfdimfepbbbpaaGreat.Deep
def qJ (m:List (Int×Int))(vs:List Int)(c:Int):Nat->List (Int×Int)
 |0=>m
 |k+1=>cB (qJ m vs c k) (vs.getD k 0) c
def um (P:kQ):Nat->List (Int×Int)
 |0=>[]
 |k+1=>qJ (um P k) (P.getD k ([],[])).1 (k:Int) (P.getD k ([],[])).1.length
theorem pn {m:List (Int×Int)}{vs:List Int}{c i:Int}(h:0<=i):qJ m vs c (i+1).toNat=cB (qJ m vs c i.toNat) (vs.getD i.toNat 0) c:=by
 rw[show(i+1).toNat=i.toNat+1 by omega];rfl
theorem En {P:kQ}{i:Int}(h:0<=i):um P (i+1).toNat=qJ (um P i.toNat) (P.getD i.toNat ([],[])).1 i (P.getD i.toNat ([],[])).1.length:=by
 rw[show(i+1).toNat=i.toNat+1 by omega]
 show qJ _ _ ((i.toNat:Nat):Int) _=_
 rw[Int.toNat_of_nonneg h]
theorem jo {m:List (Int×Int)}{vs:List Int}{c:Int}:∀k,(qJ m vs c k).length<=m.length+k
 |0=>Nat.le_refl _
 |k+1=>by
  have h:=jo (m:=m) (vs:=vs) (c:=c) k
  have:=dh (qJ m vs c k) (vs.getD k 0) c
  show(cB _ _ _).length<=_
  omega
theorem nV {P:kQ}{N:Nat}(hP:∀k,(P.getD k ([],[])).1.length<=N):∀k,(um P k).length<=k*N
 |0=>by simp[um]
 |k+1=>by
  have h:=nV hP k
  have h1:=jo (m:=um P k) (vs:=(P.getD k ([],[])).1) (c:=(k:Int)) (P.getD k ([],[])).1.length
  have h2:=hP k
  show(qJ _ _ _ _).length<=_
  rw[Nat.succ_mul];omega
theorem kL {m:List (Int×Int)}{vs:List Int}{c:Int}:∀ {k:Nat},k<=vs.length->∀x,ah (qJ m vs c k) x=if x∈vs.take k then some c else ah m x
 |0,_,x=>by simp[qJ]
 |k+1,h,x=>by
  show ah (cB (qJ m vs c k) (vs.getD k 0) c) x=_
  rw[bO,kL (k:=k) (by omega),b6 (by omega) 0]
  by_cases q:vs.getD k 0=x
  .rw[if_pos q,if_pos (List.mem_append_right _ (by simp only[List.mem_singleton];exact q.symm))]
  rw[if_neg q]
  by_cases z:x∈vs.take k
  .rw[if_pos z,if_pos (List.mem_append_left _ z)]
  rw[if_neg z,if_neg]
  intro y
  rcases List.mem_append.1 y with y|y
  .exact z y
  exact q (List.mem_singleton.1 y).symm
structure u7 (E:List (Int×Int))(V L:List Int)(P:kQ):Prop where
 len:P.length<=V.length
 bd:∀k,(P.getD k ([],[])).1.length<=V.length/\(P.getD k ([],[])).2.length<=L.length
 sub:∀k,∀v∈(P.getD k ([],[])).1,v∈V
 RD:∀v∈V,∃i,i<P.length/\v∈(P.getD i ([],[])).1
 uq:∀i j,i<P.length->j<P.length->∀v,v∈(P.getD i ([],[])).1->v∈(P.getD j ([],[])).1->i=j
theorem Eo {E:List (Int×Int)}{V L:List Int}{P:kQ}(h:u7 E V L P):∀ {k:Nat},k<=P.length->∀i,i<k->∀x∈(P.getD i ([],[])).1,ah (um P k) x=some (i:Int)
 |k+1,hk,i,hi,x,hx=>by
  show ah (qJ (um P k) (P.getD k ([],[])).1 (k:Int) (P.getD k ([],[])).1.length) x=_
  rw[kL (Nat.le_refl _),List.take_length]
  by_cases q:i=k
  .subst q;rw[if_pos hx]
  rw[if_neg fun z=>q (h.uq i k (by omega) (by omega) x hx z)]
  exact Eo h (k:=k) (by omega) i (by omega) x hx
theorem Ca {E:List (Int×Int)}{V L:List Int}{P:kQ}(h:u7 E V L P){v:Int}(hv:v∈V):∃i:Nat,i<P.length/\v∈(P.getD i ([],[])).1/\ah (um P P.length) v=some (i:Int):=by
 obtain⟨i,hi,hx⟩:=h.RD v hv
 exact⟨i,hi,hx,Eo h (Nat.le_refl _) i hi v hx⟩
theorem Ep {α:Type}{l:List α}{k:Nat}{z:α}(h:l.length<=k):l.getD k z=z:=by
 rw[List.getD_eq_getElem?_getD,List.getElem?_eq_none h];rfl
theorem KH {n:Int}{E:List (Int×Int)}{V L:List Int}(hp:aA n E V L=0):u7 E V L (nO E V L):=by
 obtain⟨hr,hV,hL,eE⟩:=aD hp
 obtain⟨r1,r2,r3,r4⟩:=vX (E:=E) (L:=L) V (pg hV)
 rw[AE hp]
 have hlen:(nU E V L).length=(b8 E L V).length:=List.length_map ..
 have rA:∀k,k<(nU E V L).length->(nU E V L).getD k ([],[])=(gx E L V ((b8 E L V).getD k 0),VR E L ((b8 E L V).getD k 0)):=fun k hk=>x7 (by omega) 0
 refine⟨?_,fun k=>?_,fun k v hv=>?_,fun v hv=>?_,fun i j hi hj v h1 h2=>?_⟩
 .rw[hlen];exact r3.length_le_of_subset r1
 .by_cases hk:k<(nU E V L).length
  .rw[rA k hk];exact⟨List.length_filter_le _ _,List.length_filter_le _ _⟩
  rw[Ep (by omega)];exact⟨Nat.zero_le _,Nat.zero_le _⟩
 .by_cases hk:k<(nU E V L).length
  .rw[rA k hk] at hv;exact(sZ.1 hv).1
  rw[Ep (by omega)] at hv;cases hv
 .obtain⟨a,ha,hc⟩:=r2 v hv
  obtain⟨i,hi,rfl⟩:=aB (z:=0).1 ha
  exact⟨i,by omega,by rw[rA i (by omega)];exact sZ.2 ⟨hv,hc⟩⟩
 rw[rA i hi] at h1
 rw[rA j hj] at h2
 have h1:=(sZ.1 h1).2
 have h2:=(sZ.1 h2).2
 exact eV r3 (by omega) (by omega) (r4 _ (aB.2 ⟨i,by omega,rfl⟩) _ (aB.2 ⟨j,by omega,rfl⟩) ((Gr.iB.trans h1 (Gr.iB.symm h2))))
def az (n:Int)(E:List (Int×Int))(V L:List Int):kQ:=if aA n E V L≠0 then[] else nO E V L
theorem Ii {n:Int}{E:List (Int×Int)}{V L:List Int}(hp:aA n E V L=0):az n E V L=nO E V L:=if_neg (by rw[hp];exact fun q=>q rfl)
theorem fo {n:Int}{E:List (Int×Int)}{V L:List Int}(hp:aA n E V L=0):u7 E V L (az n E V L):=by rw[Ii hp];exact KH hp
def fV (E:List (Int×Int))(w:Int×List Int):Int:=if w.2.length=0 then -1-w.1 else ak E w.1
theorem qn {V:List Int}{T:List (List Int)}:∀ {k:Nat},k<=V.length->∀w∈tK V T k,w.2.length=0/\-1-w.1∈V
 |0,_,w,h=>by cases h
 |k+1,hk,w,h=>by
  unfold tK at h
  split at h
  .rcases List.mem_append.1 h with h|h
   .exact qn (by omega) w h
   rw[List.mem_singleton.1 h]
   exact⟨rfl,by rw[show -1-(-1-V.getD (V.length-1-k) 0)=V.getD (V.length-1-k) 0 by omega];exact aB.2 ⟨_,by omega,rfl⟩⟩
  exact qn (by omega) w h
theorem Ij {r:Option nQ}:∀ {k:Nat} {m:List (Int×Int)} {x:Int} {acc:List Int},acc.length<=(iR r k m x acc).2.length/\(0<k->acc.length<(iR r k m x acc).2.length)/\(iR r k m x acc).2.length<=acc.length+k
 |0,m,x,acc=>⟨Nat.le_refl _,fun h=>(by omega),Nat.le_refl _⟩
 |k+1,m,x,acc=>by
  unfold iR
  split
  .obtain⟨h1,_,h2⟩:=Ij (r:=r) (k:=k) (m:=wG m x) (x:=(cW r (aq x) (-1)).1) (acc:=acc++[x])
   rw[List.length_append,List.length_singleton] at h1 h2
   exact⟨by omega,fun _=>by omega,by omega⟩
  simp only[List.length_append,List.length_singleton]
  omega
theorem Ik {r:Option nQ}{L:List Int}{ds:List Int}{out:List (Int×List Int)}(hd:∀d∈ds,aU L d):∀ {k:Nat},k<=ds.length->∀w∈(dJ r ds out k).2,w∈out\/(w.2.length≠0/\aU L w.1)
 |0,_,w,h=>.inl h
 |k+1,hk,w,h=>by
  have ih:=Ik (r:=r) (out:=out) hd (k:=k) (by omega)
  have h:w∈(jb r (dJ r ds out k) (ds.getD k 0)).2:=h
  unfold jb at h
  split at h
  .rename_i hs
   rcases List.mem_append.1 h with h|h
   .exact ih w h
   rw[List.mem_singleton.1 h]
   refine .inr ⟨?_,hd _ (aB.2 ⟨k,by omega,rfl⟩)⟩
   have LJ:0<(dJ r ds out k).1.length:=by
    cases hm:(dJ r ds out k).1 with
    |nil=>rw[hm] at hs;cases hs
    |cons _ _=>simp
   have:=Ij (r:=r) (k:=(dJ r ds out k).1.length) (m:=(dJ r ds out k).1) (x:=ds.getD k 0) (acc:=[])
   have:=this.2.1 LJ
   simp only[List.length_nil] at this
   show(iR r _ _ _ []).2.length≠0
   omega
  exact ih w h
theorem Il {r:Option nQ}{ds:List Int}{out:List (Int×List Int)}:∀k,(dJ r ds out k).2.length<=out.length+k
 |0=>Nat.le_refl _
 |k+1=>by
  have ih:=Il (r:=r) (ds:=ds) (out:=out) k
  show(jb r (dJ r ds out k) (ds.getD k 0)).2.length<=_
  unfold jb
  split
  .rw[List.length_append,List.length_singleton];omega
  omega
theorem dm {n:Int}{E:List (Int×Int)}{V L:List Int}{T:List (List Int)}:(aa n E V L T).2=(bT n E V L T).2:=by
 unfold aa
 split
 .rfl
 rename_i q
 have:(bT n E V L T).2=0:=Classical.byContradiction fun z=>q z
 rw[this]
structure s8 (E:List (Int×Int))(V L:List Int)(W:List (Int×List Int)):Prop where
 len:W.length<=V.length+2*L.length
 key:∀w∈W,(w.2.length=0/\-1-w.1∈V)\/(w.2.length≠0/\aU L w.1)
theorem bS {n:Int}{E:List (Int×Int)}{V L:List Int}{T:List (List Int)}(h:(aa n E V L T).2=0):aA n E V L=0/\bW n E L T/\s8 E V L (aa n E V L T).1:=by
 rw[dm] at h
 obtain⟨h1,h2,h3⟩:=fN h
 refine⟨h1,h2,?_⟩
 rw[mJ h]
 have hl:=nS V T V.length
 have hr:=Il (r:=(bT n E V L T).1) (ds:=dA L L.length) (out:=tK V T V.length) (dA L L.length).length
 have hd:=jX L L.length
 refine⟨by show(dJ _ _ _ _).2.length<=_;omega,fun w hw=>?_⟩
 rcases Ik (fun d hd=>(cO d).1 hd) (Nat.le_refl _) w hw with q|q
 .exact .inl (qn (Nat.le_refl _) w q)
 exact .inr q
theorem cv {n:Int}{E:List (Int×Int)}{V L:List Int}(hp:aA n E V L=0){d:Int}(hd:aU L d):ak E d∈V/\0<=d/\d/2<(E.length:Int)/\d<=1000000:=by
 obtain⟨hr,hV,hL,eE⟩:=aD hp
 obtain⟨r1,r2,r3,r4⟩:=aN hr
 have hb:=(aG.1 hL).2 _ hd
 obtain⟨j,hj,e⟩:=fC.1 hd
 obtain⟨ka,kb⟩:=ug (j:=(j:Int)) hp (by omega) (by omega)
 rw[Int.toNat_natCast,e] at ka kb
 refine⟨?_,by omega,by omega,by omega⟩
 unfold ak
 split
 .exact ka
 exact kb
theorem qo {n:Int}{E:List (Int×Int)}{V L:List Int}(hp:aA n E V L=0){W:List (Int×List Int)}(h:s8 E V L W){w:Int×List Int}(hw:w∈W):fV E w∈V:=by
 unfold fV
 rcases h.key w hw with⟨q,z⟩|⟨q,z⟩
 .rw[if_pos q];exact z
 rw[if_neg q];exact(cv hp z).1
theorem u9 {n:Int}{E:List (Int×Int)}{V L:List Int}(hp:aA n E V L=0){W:List (Int×List Int)}(h:s8 E V L W){w:Int×List Int}(hw:w∈W): -1024<=w.1/\w.1<=1000000:=by
 obtain⟨hr,hV,hL,eE⟩:=aD hp
 obtain⟨r1,r2,r3,r4⟩:=aN hr
 rcases h.key w hw with⟨q,z⟩|⟨q,z⟩
 .have:=(aG.1 hV).2 _ z;omega
 have:=cv hp z;omega
def oE (E:List (Int×Int))(P:kQ)(W:List (Int×List Int)):Nat->List Int
 |0=>List.replicate P.length 0
 |k+1=>(oE E P W k).set ((ah (um P P.length) (fV E (W.getD k (0,[])))).getD 0).toNat ((oE E P W k).getD ((ah (um P P.length) (fV E (W.getD k (0,[])))).getD 0).toNat 0+1)
theorem vY {E:List (Int×Int)}{P:kQ}{W:List (Int×List Int)}:∀k,(oE E P W k).length=P.length
 |0=>List.length_replicate
 |k+1=>by unfold oE;rw[List.length_set];exact vY k
theorem N3 {E:List (Int×Int)}{P:kQ}{W:List (Int×List Int)}:∀k j,0<=(oE E P W k).getD j 0/\(oE E P W k).getD j 0<=(k:Int)
 |0,j=>by
  unfold oE
  rw[List.getD_eq_getElem?_getD,List.getElem?_replicate]
  split<;>simp
 |k+1,j=>by
  have h1:=N3 (E:=E) (P:=P) (W:=W) k
  unfold oE
  rw[List.getD_eq_getElem?_getD,List.getElem?_set]
  split
  .split
   .have:=h1 ((ah (um P P.length) (fV E (W.getD k (0,[])))).getD 0).toNat
    simp only[Option.getD_some]
    omega
   simp only[Option.getD_none];omega
  have:=h1 j
  rw[List.getD_eq_getElem?_getD] at this
  omega
theorem AF {E:List (Int×Int)}{P:kQ}{W:List (Int×List Int)}{i:Int}(h:0<=i):oE E P W (i+1).toNat=(oE E P W i.toNat).set ((ah (um P P.length) (fV E (W.getD i.toNat (0,[])))).getD 0).toNat ((oE E P W i.toNat).getD ((ah (um P P.length) (fV E (W.getD i.toNat (0,[])))).getD 0).toNat 0+1):=by
 rw[show(i+1).toNat=i.toNat+1 by omega];rfl
def zf (P:kQ)(fs:List Int):Nat->List Int
 |0=>[]
 |k+1=>zf P fs k++[Int.tdiv (2-((P.getD k ([],[])).1.length:Int)+((P.getD k ([],[])).2.length:Int)-fs.getD k 0) 2]
theorem Cb {P:kQ}{fs:List Int}:∀k,(zf P fs k).length=k
 |0=>rfl
 |k+1=>by unfold zf;rw[List.length_append,Cb k];rfl
theorem KI {P:kQ}{fs:List Int}{i:Int}(h:0<=i):zf P fs (i+1).toNat=zf P fs i.toNat++[Int.tdiv (2-((P.getD i.toNat ([],[])).1.length:Int)+((P.getD i.toNat ([],[])).2.length:Int)-fs.getD i.toNat 0) 2]:=by
 rw[show(i+1).toNat=i.toNat+1 by omega];rfl
def cK (n:Int)(E:List (Int×Int))(V L:List Int)(T:List (List Int)):List Int×Int:=
 if(aa n E V L T).2≠0 then([],(aa n E V L T).2) else(zf (az n E V L) (oE E (az n E V L) (aa n E V L T).1 (aa n E V L T).1.length) (az n E V L).length,0)
def fW (n:Int)(E:List (Int×Int))(V L:List Int)(T:List (List Int)):Int:=
 if(cK n E V L T).2≠0 then(cK n E V L T).2 else if(cK n E V L T).1.all (fun g=>decide (g=0)) then 0 else 6
theorem vZ {n:Int}{E:List (Int×Int)}{V L:List Int}{T:List (List Int)}:(cK n E V L T).2=(bT n E V L T).2:=by
 unfold cK
 split
 .exact dm
 rename_i q
 rw[<-dm]
 exact(Classical.not_not.1 q).symm
theorem KJ {n:Int}{E:List (Int×Int)}{V L:List Int}{T:List (List Int)}(h:(cK n E V L T).2=0):(cK n E V L T).1.length<=V.length:=by
 rw[vZ,<-dm] at h
 obtain⟨hp,_,_⟩:=bS h
 unfold cK
 rw[if_neg (by rw[h];exact fun q=>q rfl)]
 show(zf _ _ _).length<=_
 rw[Cb]
 exact(fo hp).len
theorem Gu {n:Int}{E:List (Int×Int)}{V L:List Int}{T:List (List Int)}(h:(cK n E V L T).2=0):V.length<=1024:=by
 rw[vZ,<-dm] at h
 obtain⟨hp,_,_⟩:=bS h
 obtain⟨hr,hV,hL,eE⟩:=aD hp
 obtain⟨r1,r2,r3,r4⟩:=aN hr
 have:=ay hV r1
 omega
theorem N4 {n:Int}{E:List (Int×Int)}{V L:List Int}{T:List (List Int)}{i:Int}(h:(cK n E V L T).2=0)(h0:0<=i)(h1:i<((cK n E V L T).1.length:Int))(h2:¬(cK n E V L T).1.getD i.toNat 0=0):fW n E V L T=6:=by
 unfold fW
 rw[if_neg (by rw[h];exact fun q=>q rfl),if_neg]
 intro q
 exact h2 (of_decide_eq_true (List.all_eq_true.1 q _ (aB.2 ⟨i.toNat,by omega,rfl⟩)))
theorem RR {n:Int}{E:List (Int×Int)}{V L:List Int}{T:List (List Int)}(h:(cK n E V L T).2=0)(h1:∀j,j<(cK n E V L T).1.length->(cK n E V L T).1.getD j 0=0):fW n E V L T=0:=by
 unfold fW
 rw[if_neg (by rw[h];exact fun q=>q rfl),if_pos]
 rw[List.all_eq_true]
 intro x hx
 obtain⟨j,hj,rfl⟩:=aB (z:=0).1 hx
 exact decide_eq_true (h1 j hj)
def bL (E:List (Int×Int))(P:kQ)(W:List (Int×List Int)):Nat->List (Int×Int)
 |0=>[]
 |k+1=>cB (bL E P W k) (W.getD k (0,[])).1 ((ah (um P P.length) (fV E (W.getD k (0,[])))).getD 0)
theorem KK {E:List (Int×Int)}{P:kQ}{W:List (Int×List Int)}{i:Int}(h:0<=i):bL E P W (i+1).toNat=cB (bL E P W i.toNat) (W.getD i.toNat (0,[])).1 ((ah (um P P.length) (fV E (W.getD i.toNat (0,[])))).getD 0):=by
 rw[show(i+1).toNat=i.toNat+1 by omega];rfl
theorem Cc {E:List (Int×Int)}{P:kQ}{W:List (Int×List Int)}:∀k,(bL E P W k).length<=k
 |0=>Nat.le_refl _
 |k+1=>by
  have:=Cc (E:=E) (P:=P) (W:=W) k
  have:=dh (bL E P W k) (W.getD k (0,[])).1 ((ah (um P P.length) (fV E (W.getD k (0,[])))).getD 0)
  show(cB _ _ _).length<=_
  omega
theorem UG {l m:List Int}{i:Int}(h0:0<=i)(h:¬l.getD i.toNat 0=m.getD i.toNat 0):false=decide (l=m):=(decide_eq_false fun e=>h (by rw[e])).symm
theorem N5 {l m:List Int}(h:¬(l.length:Int)=(m.length:Int)):false=decide (l=m):=(decide_eq_false fun e=>h (by rw[e])).symm
theorem N6 {l m:List Int}(h1:(l.length:Int)=(m.length:Int)){i:Int}(hi:(l.length:Int)<=i)(h:∀j:Nat,(j:Int)<i->l.getD j 0=m.getD j 0):true=decide (l=m):=by
 refine(decide_eq_true ?_).symm
 apply List.ext_getElem (by omega)
 intro j h2 h3
 have:=h j (by omega)
 rwa[List.getD_eq_getElem?_getD,List.getElem?_eq_getElem h2,List.getD_eq_getElem?_getD,List.getElem?_eq_getElem h3] at this
def jY (l:List Int)(x:Int):Int:=if l.findIdx (fun y=>decide (y=x))<l.length then((l.findIdx fun y=>decide (y=x):Nat):Int) else -1
section
variable {l:List Int}{x:Int}
theorem getD_eq {α:Type}{l:List α}{j:Nat}(h:j<l.length)(d:α):l.getD j d=l[j]:=by rw[List.getD_eq_getElem?_getD,List.getElem?_eq_getElem h];rfl
theorem RS {i:Int}(h0:0<=i)(h1:i<(l.length:Int))(h2:l.getD i.toNat 0=x)(h3:∀j:Nat,(j:Int)<i->¬l.getD j 0=x):jY l x=i:=by
 have hi:i.toNat<l.length:=by omega
 have h:l.findIdx (fun y=>decide (y=x))=i.toNat:=(List.findIdx_eq hi).2 ⟨by rw[<-getD_eq hi 0];simpa using h2,fun j hj=>by
  have:=h3 j (by omega)
  rw[getD_eq (show j<l.length by omega)] at this
  simpa using this⟩
 unfold jY
 rw[h,if_pos hi];omega
theorem VU (h:∀j:Nat,(j:Int)<(l.length:Int)->¬l.getD j 0=x):jY l x= -1:=by
 unfold jY
 rw[if_neg]
 intro q
 have:=List.findIdx_getElem (w:=q)
 have hj:=h _ (show((l.findIdx fun y=>decide (y=x):Nat):Int)<_ by omega)
 rw[getD_eq q] at hj
 exact hj (by simpa using this)
theorem Zw: -1<=jY l x/\jY l x<(l.length:Int):=by
 unfold jY;split<;>omega
theorem Cd {j:Nat}(hj:j<l.length)(e:l.getD j 0=x):∃i:Nat,jY l x=(i:Int)/\i<=j/\l.getD i 0=x:=by
 have hx:x∈l:=e▸(by rw[getD_eq hj];exact List.getElem_mem hj)
 have iH:l.findIdx (fun y=>decide (y=x))<l.length:=List.findIdx_lt_length_of_exists ⟨x,hx,by simp⟩
 refine⟨l.findIdx fun y=>decide (y=x),if_pos iH,?_,?_⟩
 .refine Nat.le_of_not_lt fun q=>?_
  have:=List.not_of_lt_findIdx q
  rw[getD_eq hj] at e
  simp[e] at this
 rw[getD_eq iH]
 have:=List.findIdx_getElem (w:=iH)
 simpa using this
theorem RT:0<=jY l x↔x∈l:=by
 constructor
 .intro h
  unfold jY at h
  split at h
  .rename_i q
   have:=List.findIdx_getElem (w:=q)
   have e:l[l.findIdx fun y=>decide (y=x)]=x:=by simpa using this
   rw[<-e];exact List.getElem_mem q
  omega
 intro h
 obtain⟨j,hj,e⟩:=aB (z:=(0:Int)).1 h
 obtain⟨i,h1,_⟩:=Cd hj e
 omega
theorem VV {i:Int}(h0:0<=i)(hi:i<(l.length:Int))(h:jY l (l.getD i.toNat 0)<i):false=decide l.Nodup:=by
 refine(decide_eq_false fun hn=>?_).symm
 obtain⟨k,h1,h2,h3⟩:=Cd (show i.toNat<l.length by omega) rfl
 have:=eV (z:=(0:Int)) hn (by omega) (show i.toNat<l.length by omega) h3
 omega
theorem RU {i:Int}(hi:(l.length:Int)<=i)(h:∀j:Nat,(j:Int)<i->¬jY l (l.getD j 0)<(j:Int)):true=decide l.Nodup:=by
 refine(decide_eq_true ?_).symm
 rw[List.nodup_iff_pairwise_ne,List.pairwise_iff_getElem]
 intro a b ha hb uY e
 obtain⟨k,h1,h2,_⟩:=Cd (x:=l.getD b 0) ha (by rw[getD_eq ha,getD_eq hb];exact e)
 exact h b (by omega) (by omega)
def qK (l:List Int)(a:Int):Nat->List Int
 |0=>[]
 |k+1=>qK l a k++[l.getD ((a+(k:Int))%(l.length:Int)).toNat 0]
theorem KL {a i:Int}(h:0<=i):qK l a (i+1).toNat=qK l a i.toNat++[l.getD ((a+i)%(l.length:Int)).toNat 0]:=by
 rw[show(i+1).toNat=i.toNat+1 by omega]
 show _++[l.getD ((a+((i.toNat:Nat):Int))%_).toNat 0]=_
 rw[Int.toNat_of_nonneg h]
theorem jA (a:Int):∀k,(qK l a k).length=k
 |0=>rfl
 |k+1=>by
  show(qK l a k++_).length=_
  rw[List.length_append,jA a k];rfl
theorem Er (a:Int):∀ {k j:Nat},j<k->(qK l a k).getD j 0=l.getD ((a+(j:Int))%(l.length:Int)).toNat 0
 |k+1,j,h=>by
  show(qK l a k++_).getD j 0=_
  rw[List.getD_eq_getElem?_getD]
  by_cases q:j<k
  .rw[List.getElem?_append_left (by rw[jA];exact q),<-List.getD_eq_getElem?_getD]
   exact Er a q
  have:j=k:=by omega
  subst this
  rw[List.getElem?_append_right (by rw[jA];exact Nat.le_refl _),jA,Nat.sub_self];rfl
theorem AG {i:Nat}(hi:i<l.length):qK l (i:Int) l.length=l.drop i++l.take i:=by
 apply List.ext_getElem
 .rw[jA,List.length_append,List.length_drop,List.length_take];omega
 intro j h1 h2
 rw[jA] at h1
 rw[<-getD_eq (by rw[jA];exact h1) 0,Er _ h1]
 by_cases q:i+j<l.length
 .rw[List.getElem_append_left (by rw[List.length_drop];omega),List.getElem_drop]
  rw[show(((i:Int)+(j:Int))%(l.length:Int)).toNat=i+j by rw[Int.emod_eq_of_lt (by omega) (by omega)];omega,getD_eq q]
 rw[List.getElem_append_right (by rw[List.length_drop];omega),List.getElem_take]
 have e:((i:Int)+(j:Int))%(l.length:Int)=(i:Int)+(j:Int)-(l.length:Int):=by
  rw[<-Int.sub_emod_right,Int.emod_eq_of_lt (by omega) (by omega)]
 rw[e,show((i:Int)+(j:Int)-(l.length:Int)).toNat=i+j-l.length by omega,getD_eq (by omega)]
 congr 1
 rw[List.length_drop];omega
end
def N7 (a b:List Int):Prop:=a.length=b.length/\(a.length=0\/∃i,i<b.length/\a=qK b (i:Int) b.length)
instance (a b:List Int):Decidable (N7 a b):=by unfold N7;infer_instance
def zg (a b:List Int):Bool:=decide (N7 a b)
theorem N8 {a b:List Int}(h:¬(a.length:Int)=(b.length:Int)):false=zg a b:=(decide_eq_false fun q=>h (by rw[q.1])).symm
theorem N9 {a b:List Int}(h:(a.length:Int)=(b.length:Int)){i:Int}(h0:0<=i)(hi:i<(b.length:Int))(ht:a=qK b i b.length):true=zg a b:=
 (decide_eq_true ⟨by omega,.inr ⟨i.toNat,by omega,by rw[Int.toNat_of_nonneg h0];exact ht⟩⟩).symm
theorem Oa {a b:List Int}(h:(a.length:Int)=(b.length:Int))(hb:∀j:Nat,(j:Int)<(b.length:Int)->¬a=qK b (j:Int) b.length):decide ((a.length:Int)=0)=zg a b:=by
 unfold zg
 refine decide_eq_decide.2 ⟨fun q=>⟨by omega,.inl (by omega)⟩,fun q=>?_⟩
 rcases q.2 with z|⟨i,hi,ht⟩
 .omega
 exact absurd ht (hb i (by omega))
def RV (E:List (Int×Int))(T:List (List Int))(d n:Int):Int:=
 (T.getD (ak E d).toNat []).getD ((jY (T.getD (ak E d).toNat []) d+n+((T.getD (ak E d).toNat []).length:Int))%((T.getD (ak E d).toNat []).length:Int)).toNat 0
def fF (E:List (Int×Int))(T:List (List Int))(d:Int):Int:=RV E T (aq d) (-1)
section
variable {n:Int}{E:List (Int×Int)}{V L:List Int}{T:List (List Int)}
theorem jL (hp:aA n E V L=0)(h:bW n E L T){d:Int}(hd:aU L d):fF E T d=u6 E L T d:=by
 have ht:=fL.2 hd
 obtain⟨h0,h1,h2⟩:=nR hp h ht
 obtain⟨j,hj,e⟩:=aB (z:=(0:Int)).1 h2
 obtain⟨i,i1,i2,i3⟩:=Cd hj e
 refine Ej (h.nd _ h1) ⟨i,by omega,i3,?_⟩ (mI hp h hd)
 unfold fF RV
 rw[i1]
 congr 1
 rw[show(i:Int)+ -1+((T.getD (ak E (aq d)).toNat []).length:Int)=((i+(T.getD (ak E (aq d)).toNat []).length-1:Nat):Int) by omega,<-Int.natCast_emod]
 rfl
end
def jq (f:Int->Int):Nat->Int->Int
 |0,d=>d
 |k+1,d=>f (jq f k d)
def eL (f:Int->Int)(d:Int)(N:Nat):Nat:=((List.range N).find? fun k=>decide (jq f (k+1) d=d)).getD 0+1
def kM (f:Int->Int)(d:Int)(p:Nat):List Int:=(List.range p).map fun i=>jq f i d
section
variable {f:Int->Int}{D:List Int}{d:Int}
theorem rQ (a:Nat):∀b,jq f (a+b) d=jq f b (jq f a d)
 |0=>rfl
 |b+1=>by
  show f (jq f (a+b) d)=f _
  rw[rQ a b]
theorem jM (hc:∀x∈D,f x∈D)(hd:d∈D):∀k,jq f k d∈D
 |0=>hd
 |k+1=>hc _ (jM hc hd k)
theorem Gv (hc:∀x∈D,f x∈D)(hi:∀x∈D,∀y∈D,f x=f y->x=y){x y:Int}(hx:x∈D)(hy:y∈D):∀ {k:Nat},jq f k x=jq f k y->x=y
 |0,h=>h
 |k+1,h=>Gv hc hi hx hy (k:=k) (hi _ (jM hc hx k) _ (jM hc hy k) h)
theorem fG (p:Nat):(kM f d p).length=p:=by unfold kM;rw[List.length_map,List.length_range]
theorem jB {p i:Nat}(h:i<p):(kM f d p).getD i 0=jq f i d:=by
 unfold kM
 rw[sW (z:=0) (by rw[List.length_range];exact h),getD_eq (by rw[List.length_range];exact h),List.getElem_range]
theorem AH (p:Nat):kM f d (p+1)=kM f d p++[jq f p d]:=by
 unfold kM;rw[List.range_succ,List.map_append];rfl
theorem RW (hc:∀x∈D,f x∈D)(hi:∀x∈D,∀y∈D,f x=f y->x=y)(hd:d∈D):∃k,k<D.length/\jq f (k+1) d=d:=by
 have hn:¬(kM f d (D.length+1)).Nodup:=fun hn=>by
  have:=hn.length_le_of_subset (l₂:=D) fun x hx=>by
   obtain⟨i,_,rfl⟩:=List.mem_map.1 hx
   exact jM hc hd i
  rw[fG] at this;omega
 have hx:∃a b,a<b/\b<D.length+1/\jq f a d=jq f b d:=by
  refine Classical.byContradiction fun hx=>hn ?_
  rw[List.nodup_iff_pairwise_ne,List.pairwise_iff_getElem]
  intro a b ha hb uY e
  rw[fG] at ha hb
  rw[<-getD_eq (by rw[fG];exact ha) 0,<-getD_eq (by rw[fG];exact hb) 0,jB ha,jB hb] at e
  exact hx ⟨a,b,uY,hb,e⟩
 obtain⟨a,b,uY,hb,e⟩:=hx
 refine⟨b-a-1,by omega,?_⟩
 have e2:jq f b d=jq f a (jq f (b-a) d):=by rw[<-rQ];congr 1;omega
 have:=Gv hc hi hd (jM hc hd (b-a)) (e.trans e2)
 rw[show b-a-1+1=b-a by omega];exact this.symm
theorem rR (hc:∀x∈D,f x∈D)(hi:∀x∈D,∀y∈D,f x=f y->x=y)(hd:d∈D):0<eL f d D.length/\eL f d D.length<=D.length/\jq f (eL f d D.length) d=d/\∀k,0<k->k<eL f d D.length->jq f k d≠d:=by
 obtain⟨k,hk,e⟩:=RW hc hi hd
 cases hq:(List.range D.length).find? fun k=>decide (jq f (k+1) d=d) with
 |none=>
  rw[List.find?_eq_none] at hq
  exact absurd e (by simpa using hq k (List.mem_range.2 hk))
 |some m=>
  have hm:=List.find?_range_eq_some.1 hq
  have e1:eL f d D.length=m+1:=by unfold eL;rw[hq];rfl
  rw[e1]
  have h1:=List.mem_range.1 hm.2.1
  refine⟨by omega,by omega,by simpa using hm.1,fun k h0 h1=>?_⟩
  have:=hm.2.2 (k-1) (by omega)
  rw[show k-1+1=k by omega] at this
  simpa using this
theorem Gw {p:Nat}(hp:jq f p d=d):∀q,jq f (p*q) d=d
 |0=>rfl
 |q+1=>by rw[Nat.mul_succ,Nat.add_comm,rQ,hp,Gw hp q]
theorem Ob {p:Nat}(h0:0<p)(hp:jq f p d=d)(k:Nat):jq f k d=jq f (k%p) d:=by
 conv=>lhs;rw[<-Nat.div_add_mod k p,rQ,Gw hp]
theorem x8 (hc:∀x∈D,f x∈D)(hi:∀x∈D,∀y∈D,f x=f y->x=y)(hd:d∈D):(kM f d (eL f d D.length)).Nodup:=by
 obtain⟨p0,p1,p2,p3⟩:=rR hc hi hd
 rw[List.nodup_iff_pairwise_ne,List.pairwise_iff_getElem]
 intro a b ha hb uY e
 rw[fG] at ha hb
 rw[<-getD_eq (by rw[fG];exact ha) 0,<-getD_eq (by rw[fG];exact hb) 0,jB ha,jB hb] at e
 have e2:jq f b d=jq f a (jq f (b-a) d):=by rw[<-rQ];congr 1;omega
 exact p3 (b-a) (by omega) (by omega) (Gv hc hi hd (jM hc hd (b-a)) (e.trans e2)).symm
def lq (f:Int->Int)(x y:Int):Prop:=∃k,jq f k x=y
theorem lq.refl (x:Int):lq f x x:=⟨0,rfl⟩
theorem lq.trans {x y z:Int}(h:lq f x y)(k:lq f y z):lq f x z:=by
 obtain⟨a,rfl⟩:=h
 obtain⟨b,rfl⟩:=k
 exact⟨a+b,rQ a b⟩
theorem lq.symm (hc:∀x∈D,f x∈D)(hi:∀x∈D,∀y∈D,f x=f y->x=y){x y:Int}(hx:x∈D)(h:lq f x y):lq f y x:=by
 obtain⟨a,rfl⟩:=h
 obtain⟨p0,p1,p2,p3⟩:=rR hc hi hx
 refine⟨eL f x D.length*a-a,?_⟩
 rw[<-rQ]
 have:a<=eL f x D.length*a:=Nat.le_mul_of_pos_left a p0
 rw[show a+(eL f x D.length*a-a)=eL f x D.length*a by omega]
 exact Gw p2 a
theorem iS (hc:∀x∈D,f x∈D)(hi:∀x∈D,∀y∈D,f x=f y->x=y)(hd:d∈D){x:Int}:x∈kM f d (eL f d D.length)↔lq f d x:=by
 obtain⟨p0,p1,p2,p3⟩:=rR hc hi hd
 constructor
 .intro h
  obtain⟨i,_,rfl⟩:=List.mem_map.1 h
  exact⟨i,rfl⟩
 rintro⟨k,rfl⟩
 rw[Ob p0 p2 k]
 exact List.mem_map.2 ⟨_,List.mem_range.2 (Nat.mod_lt _ p0),rfl⟩
end
def iT (f:Int->Int)(d:Int)(p:Nat):Bool:=(List.range p).all fun j=>decide (j=0)||decide (d<jq f j d)
def v7 (f:Int->Int)(ds:List Int)(N:Nat):Nat->List (Int×List Int)
 |0=>[]
 |k+1=>if iT f (ds.getD k 0) (eL f (ds.getD k 0) N)=true then v7 f ds N k++[(ds.getD k 0,kM f (ds.getD k 0) (eL f (ds.getD k 0) N))] else v7 f ds N k
theorem qp {f:Int->Int}{d:Int}{p:Nat}:iT f d p=true↔∀j,0<j->j<p->d<jq f j d:=by
 unfold iT
 rw[List.all_eq_true]
 constructor
 .intro h j h0 h1
  have:=h j (List.mem_range.2 h1)
  simp only[Bool.or_eq_true,decide_eq_true_eq] at this
  rcases this with q|q
  .omega
  exact q
 intro h j hj
 by_cases q:j=0
 .rw[decide_eq_true q];rfl
 rw[decide_eq_true (h j (by omega) (List.mem_range.1 hj)),Bool.or_true]
theorem Ce {L:List Int}(h:BZ L):∀ {k:Nat},k<=L.length->BZ (dA L k)
 |0,_=>List.Pairwise.nil
 |k+1,hk=>by
  have ht:L.take (k+1)=L.take k++[L.getD k 0]:=b6 (by omega) 0
  have ha:BZ (L.take (k+1)):=h.sublist (List.take_sublist _ _)
  rw[ht] at ha
  have hb:=(List.pairwise_append.1 ha).2.2
  refine List.pairwise_append.2 ⟨Ce h (by omega),?_,fun a RX b LZ=>?_⟩
  .refine List.pairwise_cons.2 ⟨fun y hy=>?_,List.pairwise_singleton _ _⟩
   rw[List.mem_singleton.1 hy];omega
  have:=hb _ ((vT (by omega) a).1 RX) _ (List.mem_singleton.2 rfl)
  rcases List.mem_cons.1 LZ with rfl|LZ
  .omega
  rw[List.mem_singleton.1 LZ];omega
section
variable {f:Int->Int}{D:List Int}{d:Int}{r:Option nQ}{m:List (Int×Int)}
theorem Es (hf:∀x∈D,(cW r (aq x) (-1)).1=f x)(hc:∀x∈D,f x∈D)(hi:∀x∈D,∀y∈D,f x=f y->x=y)(hd:d∈D)(hm:∀i,i<eL f d D.length->(ah m (jq f i d)).isSome=true):
  ∀ {k i:Nat} {mi:List (Int×Int)},i<eL f d D.length->eL f d D.length<=i+k->(∀y,(ah mi y).isSome=true↔(ah m y).isSome=true/\∀j,j<i->jq f j d≠y)->
   (iR r k mi (jq f i d) (kM f d i)).2=kM f d (eL f d D.length)/\∀y,(ah (iR r k mi (jq f i d) (kM f d i)).1 y).isSome=true↔(ah m y).isSome=true/\∀j,j<eL f d D.length->jq f j d≠y
 |0,i,mi,h1,h2,_=>by omega
 |k+1,i,mi,h1,h2,hmi=>by
  obtain⟨p0,p1,p2,p3⟩:=rR hc hi hd
  have hn:=x8 hc hi hd
  have hx:=jM hc hd i
  have e:(cW r (aq (jq f i d)) (-1)).1=jq f (i+1) d:=hf _ hx
  have vj:∀y,(ah (wG mi (jq f i d)) y).isSome=true↔(ah m y).isSome=true/\∀j,j<i+1->jq f j d≠y:=fun y=>by
   rw[wH]
   by_cases q:jq f i d=y
   .rw[if_pos q]
    exact⟨fun z=>(by cases z),fun z=>absurd q (z.2 i (Nat.lt_succ_self _))⟩
   rw[if_neg q,hmi]
   exact⟨fun z=>⟨z.1,fun j hj=>(Nat.lt_succ_iff_lt_or_eq.1 hj).elim (z.2 j) fun w=>w▸q⟩,fun z=>⟨z.1,fun j hj=>z.2 j (by omega)⟩⟩
  unfold iR
  rw[e,<-AH]
  by_cases hl:i+1<eL f d D.length
  .have hs:(ah (wG mi (jq f i d)) (jq f (i+1) d)).isSome=true:=(vj _).2 ⟨hm _ hl,fun j hj q=>by
    have:=eV (z:=(0:Int)) hn (i:=j) (j:=i+1) (by rw[fG];omega) (by rw[fG];exact hl) (by rw[jB (by omega),jB hl];exact q)
    omega⟩
   rw[if_pos hs]
   exact Es hf hc hi hd hm hl (by omega) vj
  have ep:i+1=eL f d D.length:=by omega
  have hs:¬(ah (wG mi (jq f i d)) (jq f (i+1) d)).isSome=true:=fun z=>((vj _).1 z).2 0 (by omega) (by rw[ep,p2];rfl)
  rw[if_neg hs,ep]
  rw[ep] at vj
  exact⟨rfl,vj⟩
theorem Im {out:List (Int×List Int)}(ha:BZ D)(hf:∀x∈D,(cW r (aq x) (-1)).1=f x)(hc:∀x∈D,f x∈D)(hi:∀x∈D,∀y∈D,f x=f y->x=y):∀ {k:Nat},k<=D.length->
  (∀y,(ah (dJ r D out k).1 y).isSome=true↔y∈D/\∀j,j<k->¬lq f (D.getD j 0) y)/\(dJ r D out k).2=out++v7 f D D.length k
 |0,_=>⟨fun y=>by
  show(ah (N0 D D.length) y).isSome=true↔_
  rw[vV (Nat.le_refl _),List.take_length]
  exact⟨fun h=>⟨h,fun j hj=>by omega⟩,fun h=>h.1⟩,(List.append_nil _).symm⟩
 |k+1,hk=>by
  obtain⟨h1,h2⟩:=Im ha hf hc hi (k:=k) (by omega)
  have hd:D.getD k 0∈D:=af (by omega)
  obtain⟨p0,p1,p2,p3⟩:=rR hc hi hd
  have iH:∀a b,a<b->b<D.length->D.getD a 0<D.getD b 0:=fun a b uY hb=>by
   rw[getD_eq (show a<D.length by omega),getD_eq hb]
   exact List.pairwise_iff_getElem.1 ha a b (by omega) hb uY
  show(∀y,(ah (jb r (dJ r D out k) (D.getD k 0)).1 y).isSome=true↔_)/\(jb r (dJ r D out k) (D.getD k 0)).2=_
  unfold jb v7
  by_cases hs:(ah (dJ r D out k).1 (D.getD k 0)).isSome=true
  .have y5:=((h1 _).1 hs).2
   have VW:iT f (D.getD k 0) (eL f (D.getD k 0) D.length)=true:=qp.2 fun j j0 j1=>by
    obtain⟨q,hq,e⟩:=aB (z:=(0:Int)).1 (jM hc hd j)
    rcases Nat.lt_trichotomy q k with z|z|z
    .exact absurd (lq.symm hc hi hd ⟨j,rfl⟩) (by rw[<-e];exact y5 q z)
    .subst z;exact absurd e.symm (p3 j j0 j1)
    rw[<-e];exact iH k q z hq
   have gp:∀i,i<eL f (D.getD k 0) D.length->(ah (dJ r D out k).1 (jq f i (D.getD k 0))).isSome=true:=fun i vE=>(h1 _).2 ⟨jM hc hd i,fun j hj z=>y5 j hj (z.trans (lq.symm hc hi hd ⟨i,rfl⟩))⟩
   have abE:eL f (D.getD k 0) D.length<=(dJ r D out k).1.length:=by
    have:=(x8 hc hi hd).length_le_of_subset (l₂:=(dJ r D out k).1.map (·.1)) fun x hx=>by
     obtain⟨i,vE,rfl⟩:=List.mem_map.1 hx
     exact mem_keys.2 (gp i (List.mem_range.1 vE))
    rwa[fG,List.length_map] at this
   obtain⟨o1,o2⟩:=Es hf hc hi hd gp (k:=(dJ r D out k).1.length) (i:=0) p0 (by omega) (mi:=(dJ r D out k).1) fun y=>⟨fun z=>⟨z,fun j hj=>by omega⟩,fun z=>z.1⟩
   have o1:(iR r (dJ r D out k).1.length (dJ r D out k).1 (D.getD k 0) []).2=kM f (D.getD k 0) (eL f (D.getD k 0) D.length):=o1
   have o2:∀y,(ah (iR r (dJ r D out k).1.length (dJ r D out k).1 (D.getD k 0) []).1 y).isSome=true↔(ah (dJ r D out k).1 y).isSome=true/\∀j,j<eL f (D.getD k 0) D.length->jq f j (D.getD k 0)≠y:=o2
   rw[if_pos hs,if_pos VW,o1,h2,List.append_assoc]
   refine⟨fun y=>?_,rfl⟩
   show(ah (iR r (dJ r D out k).1.length (dJ r D out k).1 (D.getD k 0) []).1 y).isSome=true↔_
   rw[o2,h1]
   constructor
   .rintro⟨⟨z1,z2⟩,z3⟩
    refine⟨z1,fun j hj=>?_⟩
    rcases Nat.lt_succ_iff_lt_or_eq.1 hj with w|w
    .exact z2 j w
    subst w
    rintro⟨q,rfl⟩
    exact z3 _ (Nat.mod_lt _ p0) (Ob p0 p2 q).symm
   rintro⟨z1,z2⟩
   exact⟨⟨z1,fun j hj=>z2 j (by omega)⟩,fun j hj e=>z2 k (Nat.lt_succ_self _) ⟨j,e⟩⟩
  have y5:∃j,j<k/\lq f (D.getD j 0) (D.getD k 0):=by
   refine Classical.byContradiction fun z=>hs ((h1 _).2 ⟨hd,fun j hj w=>z ⟨j,hj,w⟩⟩)
  obtain⟨j,hj,hw⟩:=y5
  have r7:D.getD j 0∈D:=af (by omega)
  have Ux:¬iT f (D.getD k 0) (eL f (D.getD k 0) D.length)=true:=fun z=>by
   have hb:=(iS hc hi hd).2 (lq.symm hc hi r7 hw)
   obtain⟨i,vE,e⟩:=List.mem_map.1 hb
   have vE:=List.mem_range.1 vE
   have h3:=iH j k hj (by omega)
   by_cases q:i=0
   .subst q
    have e:D.getD k 0=D.getD j 0:=e
    omega
   have:=qp.1 z i (by omega) vE
   rw[e] at this;omega
  rw[if_neg hs,if_neg Ux]
  refine⟨fun y=>?_,h2⟩
  rw[h1]
  constructor
  .rintro⟨z1,z2⟩
   refine⟨z1,fun q hq=>?_⟩
   rcases Nat.lt_succ_iff_lt_or_eq.1 hq with w|w
   .exact z2 q w
   subst w;exact fun z=>z2 j hj (hw.trans z)
  rintro⟨z1,z2⟩
  exact⟨z1,fun q hq=>z2 q (by omega)⟩
end
theorem fH {n:Int}{E:List (Int×Int)}{V L:List Int}{T:List (List Int)}(h:(bT n E V L T).2=0):
  aa n E V L T=(tK V T V.length++v7 (fF E T) (dA L L.length) (dA L L.length).length (dA L L.length).length,0):=by
 obtain⟨hp,hT,hr⟩:=fN h
 obtain⟨jZ,hV,hL,_⟩:=aD hp
 rw[mJ h]
 have hD:∀x∈dA L L.length,aU L x:=fun x hx=>(cO x).1 hx
 rw[(Im (r:=(bT n E V L T).1) (D:=dA L L.length) (f:=fF E T) (Ce (aG.1 hL).1 (Nat.le_refl _)) (fun x hx=>by
  rw[jL hp hT (hD x hx),hr];rfl) (fun x hx=>by
  rw[jL hp hT (hD x hx)];exact(cO _).2 (jk hp hT (hD x hx)).1) (fun x hx y hy e=>by
  rw[jL hp hT (hD x hx),jL hp hT (hD y hy)] at e;exact xZ hp hT (hD x hx) (hD y hy) e) (Nat.le_refl _)).2]
def Et (E:List (Int×Int))(T:List (List Int))(d:Int):Prop:=0<=d/\d/2<(E.length:Int)/\d<=1000000/\0<=ak E d/\ak E d<(T.length:Int)/\d∈T.getD (ak E d).toNat []
def VOk (E:List (Int×Int))(L:List Int)(T:List (List Int))(v:Int):Prop:=((aR E L v).length:Int)=((T.getD v.toNat []).length:Int)/\(T.getD v.toNat []).Nodup/\∀d∈aR E L v,d∈T.getD v.toNat []
section
variable {n:Int}{E:List (Int×Int)}{V L:List Int}{T:List (List Int)}
theorem AI (h:aA n E V L≠0):(bT n E V L T).2=aA n E V L:=by unfold bT;rw[if_pos h]
theorem VX (h:aA n E V L=0)(h2:(bT n E V L T).2≠0):(bT n E V L T).2=5:=by
 by_cases hl:(T.length:Int)=n
 .cases hq:Ay (r8 E L L.length) T T.length with
  |none=>rw[Ee h hl hq]
  |some P=>
   by_cases hc:(P.length:Int)=((r8 E L L.length).length:Int)
   .rw[B5 h hl hq hc] at h2;exact absurd rfl h2
   rw[Ef h hl hq hc]
 rw[xW h hl]
theorem aaZ (h:bW n E L T)(hL:bP L (E.length:Int)){v:Int}(h0:0<=v)(h1:v<n):VOk E L T v:=by
 have hlen:=h.len
 have hv:v.toNat<T.length:=by omega
 have hm:∀d,d∈T.getD v.toNat []↔d∈aR E L v:=fun d=>by
  rw[h.mem _ hv,dH,Int.toNat_of_nonneg h0];rfl
 have hn:=sU (jW (E:=E) (v:=v) hL)
 have a:=hn.length_le_of_subset fun d hd=>(hm d).2 hd
 have b:=(h.nd _ hv).length_le_of_subset fun d hd=>(hm d).1 hd
 exact⟨by omega,h.nd _ hv,fun d hd=>(hm d).2 hd⟩
theorem Gx (hp:aA n E V L=0){v:Int}(h0:0<=v)(h1:v<n)(h:¬VOk E L T v):5=(bT n E V L T).2:=by
 refine(VX hp fun q=>h ?_).symm
 obtain⟨_,hT,_⟩:=fN q
 obtain⟨_,_,hL,_⟩:=aD hp
 exact aaZ hT hL h0 h1
theorem Zx (hp:aA n E V L=0)(hl:(T.length:Int)=n)(h:∀v:Nat,(v:Int)<n->VOk E L T (v:Int)):0=(bT n E V L T).2:=by
 obtain⟨_,_,hL,_⟩:=aD hp
 refine(gD hp ⟨hl,fun v hv=>(h v (by omega)).2.1,fun v hv d=>?_⟩).symm
 obtain⟨a,b,c⟩:=h v (by omega)
 have hn:=sU (jW (E:=E) (v:=(v:Int)) hL)
 rw[show aU L d/\ak E d=(v:Int)↔d∈aR E L (v:Int) from dH.symm]
 refine⟨fun hd=>?_,c d⟩
 refine Classical.byContradiction fun q=>?_
 have:=List.Nodup.length_le_of_subset (l₁:=d::aR E L (v:Int)) (l₂:=T.getD v []) (List.nodup_cons.2 ⟨q,hn⟩) fun x hx=>by
  rcases List.mem_cons.1 hx with rfl|hx
  .exact hd
  exact c x hx
 rw[List.length_cons] at this
 have a:((aR E L (v:Int)).length:Int)=((T.getD v []).length:Int):=a
 omega
theorem Eu (hp:aA n E V L=0)(h:bW n E L T){d:Int}(hd:aU L d):Et E T (aq d)/\0<=d/\d<=1000000:=by
 obtain⟨h0,h1,h2⟩:=nR hp h (fL.2 hd)
 obtain⟨_,x0,x1,x2⟩:=cv hp hd
 obtain⟨_,y0,y1,y2⟩:=cv hp (fL.2 hd)
 exact⟨⟨y0,y1,y2,h0,by omega,h2⟩,x0,x2⟩
end
theorem Gy {f:Int->Int}{d:Int}(j:Nat):iT f d (j+2)=(iT f d (j+1) && decide (d<jq f (j+1) d)):=by
 unfold iT
 rw[List.range_succ (n:=j+1),List.all_append]
 simp
theorem Oc {L:List Int}:∀ {k i:Nat},i<2*k->(dA L k).getD i 0=2*L.getD (i/2) 0+((i%2:Nat):Int)
 |k+1,i,h=>by
  show(dA L k++[2*L.getD k 0,2*L.getD k 0+1]).getD i 0=_
  have hl:=jX L k
  rw[List.getD_eq_getElem?_getD]
  by_cases q:i<2*k
  .rw[List.getElem?_append_left (by omega),<-List.getD_eq_getElem?_getD]
   exact Oc q
  rw[List.getElem?_append_right (by omega),hl]
  have:i=2*k\/i=2*k+1:=by omega
  rcases this with rfl|rfl
  .rw[Nat.sub_self,show 2*k/2=k by omega,show 2*k%2=0 by omega]
   show 2*L.getD k 0=_
   omega
  rw[show 2*k+1-2*k=1 by omega,show(2*k+1)/2=k by omega,show(2*k+1)%2=1 by omega];rfl
theorem Zy {L:List Int}{i:Int}(h0:0<=i)(h1:i<2*(L.length:Int)):2*L.getD (i/2).toNat 0+i%2=(dA L L.length).getD i.toNat 0:=by
 rw[Oc (by omega),show(i/2).toNat=i.toNat/2 by omega]
 omega
theorem RY {f:Int->Int}{ds:List Int}{N:Nat}{i:Int}{d:Int}(h0:0<=i)(hd:d=ds.getD i.toNat 0)(h:iT f d (eL f d N)=true):v7 f ds N (i+1).toNat=v7 f ds N i.toNat++[(d,kM f d (eL f d N))]:=by
 subst hd
 rw[show(i+1).toNat=i.toNat+1 by omega];exact if_pos h
theorem VY {f:Int->Int}{ds:List Int}{N:Nat}{i:Int}{d:Int}(h0:0<=i)(hd:d=ds.getD i.toNat 0)(h:iT f d (eL f d N)=false):v7 f ds N (i+1).toNat=v7 f ds N i.toNat:=by
 subst hd
 rw[show(i+1).toNat=i.toNat+1 by omega];exact if_neg (by rw[h];decide)
theorem Io {f:Int->Int}{ds:List Int}{N:Nat}:∀k,(v7 f ds N k).length<=k
 |0=>Nat.le_refl _
 |k+1=>by
  have:=Io (f:=f) (ds:=ds) (N:=N) k
  unfold v7
  split
  .rw[List.length_append];simp;omega
  omega
def ax (E:List (Int×Int))(V L:List Int)(T:List (List Int)):List (Int×List Int):=tK V T V.length++v7 (fF E T) (dA L L.length) (dA L L.length).length (dA L L.length).length
theorem gq {n:Int}{E:List (Int×Int)}{V L:List Int}{T:List (List Int)}(h:(bT n E V L T).2=0):ax E V L T=(aa n E V L T).1:=by rw[fH h];rfl
theorem Ev {n:Int}{E:List (Int×Int)}{V L:List Int}{T:List (List Int)}(hp:aA n E V L=0)(hT:bW n E L T){d:Int}(hd:aU L d):
  0<eL (fF E T) d (dA L L.length).length/\eL (fF E T) d (dA L L.length).length<=2*L.length/\jq (fF E T) (eL (fF E T) d (dA L L.length).length) d=d/\(∀k,0<k->k<eL (fF E T) d (dA L L.length).length->jq (fF E T) k d≠d)/\∀k,aU L (jq (fF E T) k d):=by
 have hD:∀x∈dA L L.length,aU L x:=fun x hx=>(cO x).1 hx
 have hc:∀x∈dA L L.length,fF E T x∈dA L L.length:=fun x hx=>by
  rw[jL hp hT (hD x hx)];exact(cO _).2 (jk hp hT (hD x hx)).1
 have hi:∀x∈dA L L.length,∀y∈dA L L.length,fF E T x=fF E T y->x=y:=fun x hx y hy e=>by
  rw[jL hp hT (hD x hx),jL hp hT (hD y hy)] at e;exact xZ hp hT (hD x hx) (hD y hy) e
 have Lp:=(cO d).2 hd
 obtain⟨p0,p1,p2,p3⟩:=rR hc hi Lp
 exact⟨p0,by rw[<-jX L L.length];exact p1,p2,p3,fun k=>hD _ (jM hc Lp k)⟩
end Go.Proofs.YtnfdimfepbbbpaaGreat
namespace Go.Proofs.YtnfdimfepbbbpaaGreat
open Go.RowKit
open Go.Proofs.YtnfdimfepbbbpaaGreat.Deep
section
variable {n:Int}{E:List (Int×Int)}{V L:List Int}{a but x:Int}
theorem qt:∀e∈L,eA E e∈a::kG E L/\eB E e∈a::kG E L:=fun e he=>⟨List.mem_cons_of_mem _ (Au.2 ⟨e,he,.inl rfl⟩),List.mem_cons_of_mem _ (Au.2 ⟨e,he,.inr rfl⟩)⟩
theorem s9 (h:¬a=but):Sp (zb E L) a but (a::kG E L) [a]:=
 ⟨by simp,by simp,fun x hx=>by rw[List.mem_singleton.1 hx];exact .refl h,fun x hx=>by rw[List.mem_singleton.1 hx];exact List.mem_cons_self⟩
theorem rS {m:List Int}(h:Sp (zb E L) a but (a::kG E L) m):m.length<=2*L.length+1:=by
 have:=h.nd.length_le_of_subset h.sub
 rwa[List.length_cons,qh] at this
theorem pq (ha:a≠but):x∈spread E L a but↔(zb E L).iB (· ≠but) a x:=by
 have hlen:(a::kG E L).length=2*L.length+1:=by rw[List.length_cons,qh]
 obtain⟨h1,h2⟩:=Gi (a:=a) (but:=but) (U:=a::kG E L) qt (2*L.length+1) 0 [a] (s9 ha) (by omega) (fun j hj=>by omega) (by simp)
 exact⟨fun h=>h1.rch x h,fun h=>Gr.iB.closed (P:=(· ≠but)) (Q:=fun x=>x∈spread E L a but) (fun u w hu Gf hw=>h2 u hu w Gf hw) h h1.fst⟩
theorem Ew {i:Int}{m:List Int}(h0:0<=i)(h1:i<(m.length:Int))(h2:m.length<=2*L.length+1):Ku E L but (2*L.length+1-i.toNat) i.toNat m=Ku E L but (2*L.length+1-(i+1).toNat) (i+1).toNat (dO E but i.toNat L m):=by
 rw[show 2*L.length+1-i.toNat=(2*L.length+1-(i+1).toNat)+1 by omega]
 conv=>lhs;unfold Ku
 rw[if_pos (by omega),show i.toNat+1=(i+1).toNat by omega]
theorem Od {i:Nat}{m:List Int}{f:Nat}(h:¬i<m.length):Ku E L but f i m=m:=by
 cases f with
 |zero=>rfl
 |succ f=>unfold Ku;rw[if_neg h]
theorem v8 {k:Int}{i:Nat}{m:List Int}(h0:0<=k)(h1:k<(L.length:Int)):dO E but i (L.take (k+1).toNat) m=ja but i (ja but i (dO E but i (L.take k.toNat) m) (eA E (L.getD k.toNat 0)) (eB E (L.getD k.toNat 0))) (eB E (L.getD k.toNat 0)) (eA E (L.getD k.toNat 0)):=by
 rw[show(k+1).toNat=k.toNat+1 by omega,b6 (show k.toNat<L.length by omega) 0]
 unfold dO;rw[List.foldl_append];rfl
theorem iE {i:Nat}{m:List Int}{x y:Int}(h:(x=m.getD i 0/\¬y=but)/\decide (y∈m)=false):ja but i m x y=m++[y]:=if_pos ⟨h.1.1,h.1.2,of_decide_eq_false h.2⟩
theorem jC {i:Nat}{m:List Int}{x y:Int}(h:(¬x=m.getD i 0\/y=but)\/decide (y∈m)=true):ja but i m x y=m:=if_neg fun q=>by
 rcases h with(h|h)|h
 .exact h q.1
 .exact q.2.1 h
 exact q.2.2 (of_decide_eq_true h)
theorem vc {i:Nat}{m m1 m2:List Int}{x y:Int}(h1:ja but i m x y=m1)(h2:ja but i m1 y x=m2):ja but i (ja but i m x y) y x=m2:=by rw[h1];exact h2
def UH (E:List (Int×Int))(V L:List Int)(s:List Int×List (List Int×List Int))(v:Int):List Int×List (List Int×List Int):=
 if v∈s.1 then s else(s.1++spread E L v (-1),s.2++[(Kz V (spread E L v (-1)),KA E L (spread E L v (-1)))])
def dW (E:List (Int×Int))(V L:List Int):Nat->List Int×List (List Int×List Int)
 |0=>([],[])
 |k+1=>UH E V L (dW E V L k) (V.getD k 0)
theorem Ex {i:Int}(h:0<=i):dW E V L (i+1).toNat=UH E V L (dW E V L i.toNat) (V.getD i.toNat 0):=by
 rw[show(i+1).toNat=i.toNat+1 by omega];rfl
theorem x9 (ha:¬a=but):(spread E L a but).length<=2*L.length+1:=by
 have hlen:(a::kG E L).length=2*L.length+1:=by rw[List.length_cons,qh]
 exact rS (Gi (a:=a) (but:=but) (U:=a::kG E L) qt (2*L.length+1) 0 [a] (s9 ha) (by omega) (fun j hj=>by omega) (by simp)).1
theorem Cf (hV:∀v∈V,¬v= -1):∀k,k<=V.length->(dW E V L k).1.length<=k*(2*L.length+1)/\(dW E V L k).2.length<=k
 |0,_=>⟨Nat.zero_le _,Nat.zero_le _⟩
 |k+1,hk=>by
  obtain⟨h1,h2⟩:=Cf hV k (by omega)
  have h3:=x9 (E:=E) (L:=L) (hV _ (af (l:=V) (i:=k) (d:=0) (by omega)))
  rw[Nat.succ_mul]
  show(UH _ _ _ _ _).1.length<=_/\(UH _ _ _ _ _).2.length<=_
  unfold UH
  split
  .omega
  dsimp only
  rw[List.length_append,List.length_append,List.length_singleton];omega
end
end Go.Proofs.YtnfdimfepbbbpaaGreat
namespace Go.Proofs.YtnfdimfepbbbpaaGreat
open Go.RowKit
open Go.Proofs.YtnfdimfepbbbpaaGreat.Deep
section
variable {n:Int}{E:List (Int×Int)}{V L:List Int}
theorem Ip (hV:∀v∈V,¬v= -1):∀ {k:Nat},k<=V.length->(∀x,x∈(dW E V L k).1↔∃a∈b8 E L (V.take k),Cn E L a x)/\(dW E V L k).2=(b8 E L (V.take k)).map fun a=>(Kz V (spread E L a (-1)),KA E L (spread E L a (-1)))
 |0,_=>⟨fun x=>⟨fun h=>(by cases h),fun⟨a,ha,_⟩=>(by cases ha)⟩,rfl⟩
 |k+1,hk=>by
  obtain⟨h1,h2⟩:=Ip hV (k:=k) (by omega)
  have hv:=hV _ (af (l:=V) (i:=k) (d:=0) (by omega))
  rw[b6 (show k<V.length by omega) 0,uk]
  show(∀x,x∈(UH E V L (dW E V L k) (V.getD k 0)).1↔_)/\(UH E V L (dW E V L k) (V.getD k 0)).2=_
  unfold UH
  by_cases q:V.getD k 0∈(dW E V L k).1
  .rw[if_pos q,if_pos ((h1 _).1 q)]
   exact⟨h1,h2⟩
  rw[if_neg q,if_neg fun z=>q ((h1 _).2 z)]
  refine⟨fun x=>?_,by rw[List.map_append,<-h2];rfl⟩
  show x∈(dW E V L k).1++spread E L (V.getD k 0) (-1)↔_
  rw[List.mem_append,h1,pq hv]
  constructor
  .rintro(⟨a,ha,hc⟩|hc)
   .exact⟨a,List.mem_append_left _ ha,hc⟩
   exact⟨_,List.mem_append_right _ (List.mem_singleton.2 rfl),hc⟩
  rintro⟨a,ha,hc⟩
  rcases List.mem_append.1 ha with ha|ha
  .exact .inl ⟨a,ha,hc⟩
  rw[List.mem_singleton.1 ha] at hc;exact .inr hc
open Classical in
theorem tc (hp:aA n E V L=0):(dW E V L V.length).2=az n E V L:=by
 obtain⟨hr,hV,hL,eE⟩:=aD hp
 have VT:=pg hV
 rw[Ii hp,AE hp,(Ip (fun v hv=>VT v hv) (Nat.le_refl _)).2,List.take_length]
 unfold nU
 refine List.map_congr_left fun a ha=>?_
 have haV:=(vX (E:=E) (L:=L) V VT).1 a ha
 have hs:∀x,x∈spread E L a (-1)↔Cn E L a x:=fun x=>pq (VT a haV)
 refine Prod.ext ?_ ?_
 .unfold Kz gx
  refine List.filter_congr fun v _=>?_
  rw[decide_eq_decide];exact hs v
 unfold KA VR
 refine List.filter_congr fun e he=>?_
 have hi:Cn E L a (eA E e)->Cn E L a (eB E e):=fun h=>h.step ⟨e,he,.inl ⟨rfl,rfl⟩⟩ (by
  obtain⟨j,hj,e1⟩:=aB (z:=(0:Int)).1 he
  have h2:=(eE j hj).2
  rw[eC hV,decide_eq_true_eq,e1] at h2
  exact VT _ h2)
 have hA:(E.getD e.toNat (0,0)).1∈spread E L a (-1)↔Cn E L a (eA E e):=hs _
 have hB:(E.getD e.toNat (0,0)).2∈spread E L a (-1)↔Cn E L a (eB E e):=hs _
 by_cases q:Cn E L a (eA E e)
 .rw[decide_eq_true (hA.2 q),decide_eq_true (hB.2 (hi q)),decide_eq_true q];rfl
 rw[decide_eq_false fun z=>q (hA.1 z),decide_eq_false q];rfl
end
def jD (E:List (Int×Int))(w:Int×List Int):Int:=if w.1<0 then -1-w.1 else ak E w.1
def jE (E:List (Int×Int))(W:List (Int×List Int))(vs:List Int):Nat->Int
 |0=>0
 |k+1=>jE E W vs k+if jD E (W.getD k (0,[]))∈vs then 1 else 0
def RZ (E:List (Int×Int))(P:List (List Int×List Int))(W:List (Int×List Int)):Nat->List Int
 |0=>[]
 |k+1=>RZ E P W k++[Int.tdiv (2-((P.getD k ([],[])).1.length:Int)+((P.getD k ([],[])).2.length:Int)-jE E W (P.getD k ([],[])).1 W.length) 2]
section
variable {E:List (Int×Int)}{P:List (List Int×List Int)}{W:List (Int×List Int)}{vs:List Int}{i:Int}
theorem R4 (h0:0<=i)(h:decide (jD E (W.getD i.toNat (0,[]))∈vs)=true):jE E W vs (i+1).toNat=jE E W vs i.toNat+1:=by
 rw[show(i+1).toNat=i.toNat+1 by omega]
 show _+(if _ then _ else _)=_
 rw[if_pos (of_decide_eq_true h)]
theorem VZ (h0:0<=i)(h:decide (jD E (W.getD i.toNat (0,[]))∈vs)=false):jE E W vs (i+1).toNat=jE E W vs i.toNat:=by
 rw[show(i+1).toNat=i.toNat+1 by omega]
 show _+(if _ then _ else _)=_
 rw[if_neg (of_decide_eq_false h)];omega
theorem Oe:∀k,0<=jE E W vs k/\jE E W vs k<=(k:Int)
 |0=>⟨Int.le_refl _,Int.le_refl _⟩
 |k+1=>by
  have:=Oe k
  show 0<=jE E W vs k+(if _ then _ else _)/\jE E W vs k+(if _ then _ else _)<=_
  split<;>omega
theorem Of (h0:0<=i):RZ E P W (i+1).toNat=RZ E P W i.toNat++[Int.tdiv (2-((P.getD i.toNat ([],[])).1.length:Int)+((P.getD i.toNat ([],[])).2.length:Int)-jE E W (P.getD i.toNat ([],[])).1 W.length) 2]:=by
 rw[show(i+1).toNat=i.toNat+1 by omega];rfl
theorem Cg:∀k,(RZ E P W k).length=k
 |0=>rfl
 |k+1=>by
  show(RZ E P W k++_).length=_
  rw[List.length_append,Cg k];rfl
end
def CT (E:List (Int×Int))(V L:List Int)(T:List (List Int)):List Int:=RZ E (dW E V L V.length).2 (ax E V L T) (dW E V L V.length).2.length
def Og (n:Int)(E:List (Int×Int))(V L:List Int)(T:List (List Int)):Prop:=(bT n E V L T).2=0/\∀x∈CT E V L T,x=0
instance (n:Int) (E:List (Int×Int)) (V L:List Int) (T:List (List Int)):Decidable (Og n E V L T):=by unfold Og;infer_instance
def vq (n:Int)(E:List (Int×Int))(V L:List Int)(T:List (List Int)):Bool:=decide (Og n E V L T)
theorem V0 {n:Int}{E:List (Int×Int)}{V L:List Int}{T:List (List Int)}(h:(bT n E V L T).2=0){i:Int}(hi:((CT E V L T).length:Int)<=i)(hz:∀j:Nat,(j:Int)<i->(CT E V L T).getD j 0=0):true=vq n E V L T:=
 (decide_eq_true ⟨h,fun x hx=>by
  obtain⟨j,hj,e⟩:=aB (z:=(0:Int)).1 hx
  rw[<-e];exact hz j (by omega)⟩).symm
def qL (W:List (Int×List Int))(d:Int):Int×Bool:=match(List.range W.length).find? fun i=>decide ((W.getD i (0,[])).1=d)||decide (d∈(W.getD i (0,[])).2) with
 |some i=>((W.getD i (0,[])).1,true)
 |none=>(0,false)
theorem Ey {W:List (Int×List Int)}{d i:Int}(h0:0<=i)(hi:i<(W.length:Int))(h:(W.getD i.toNat (0,[])).1=d\/decide (d∈(W.getD i.toNat (0,[])).2)=true)(hb:∀j:Nat,(j:Int)<i->¬((W.getD j (0,[])).1=d\/d∈(W.getD j (0,[])).2)):qL W d=((W.getD i.toNat (0,[])).1,true):=by
 unfold qL
 have:(List.range W.length).find? (fun i=>decide ((W.getD i (0,[])).1=d)||decide (d∈(W.getD i (0,[])).2))=some i.toNat:=by
  rw[List.find?_range_eq_some]
  refine⟨?_,List.mem_range.2 (by omega),fun j hj=>?_⟩
  .rcases h with h|h
   .rw[decide_eq_true h];rfl
   rw[h,Bool.or_true]
  have:=hb j (by omega)
  rw[decide_eq_false fun z=>this (.inl z),decide_eq_false fun z=>this (.inr z)];rfl
 rw[this]
theorem R5 {W:List (Int×List Int)}{d:Int}(hb:∀j:Nat,j<W.length->¬((W.getD j (0,[])).1=d\/d∈(W.getD j (0,[])).2)):qL W d=(0,false):=by
 unfold qL
 have:(List.range W.length).find? (fun i=>decide ((W.getD i (0,[])).1=d)||decide (d∈(W.getD i (0,[])).2))=none:=by
  rw[List.find?_eq_none]
  intro j hj
  have:=hb j (List.mem_range.1 hj)
  rw[decide_eq_false fun z=>this (.inl z),decide_eq_false fun z=>this (.inr z)];decide
 rw[this]
end Go.Proofs.YtnfdimfepbbbpaaGreat
namespace Go.Proofs.YtnfdimfepbbbpaaGreat
open Go.RowKit
open Go.Proofs.YtnfdimfepbbbpaaGreat.Deep
section
variable {n:Int}{E:List (Int×Int)}{V L:List Int}{T:List (List Int)}{P:kQ}{W:List (Int×List Int)}
theorem Ch (hp:aA n E V L=0)(hW:s8 E V L W){w:Int×List Int}(hw:w∈W):jD E w=fV E w:=by
 obtain⟨hr,hV,hL,_⟩:=aD hp
 unfold jD fV
 rcases hW.key w hw with⟨h1,h2⟩|⟨h1,h2⟩
 .have:=(aG.1 hV).2 _ h2
  rw[if_pos (by omega),if_pos h1]
 have:=(cv hp h2).2.1
 rw[if_neg (by omega),if_neg h1]
theorem Iq (hp:aA n E V L=0)(hP:u7 E V L P)(hW:s8 E V L W){i:Nat}(hi:i<P.length):∀ {k:Nat},k<=W.length->(oE E P W k).getD i 0=jE E W (P.getD i ([],[])).1 k
 |0,_=>by
  show(List.replicate P.length 0).getD i 0=0
  rw[getD_eq (by rw[List.length_replicate];exact hi),List.getElem_replicate]
 |k+1,hk=>by
  have ih:=Iq hp hP hW hi (k:=k) (by omega)
  have rT:W.getD k (0,[])∈W:=af (by omega)
  have R6:=qo hp hW rT
  obtain⟨pi,p0,p1,p2⟩:=Ca hP R6
  have he:=Ch hp hW rT
  show((oE E P W k).set ((ah (um P P.length) (fV E (W.getD k (0,[])))).getD 0).toNat ((oE E P W k).getD ((ah (um P P.length) (fV E (W.getD k (0,[])))).getD 0).toNat 0+1)).getD i 0=jE E W _ k+if jD E (W.getD k (0,[]))∈(P.getD i ([],[])).1 then 1 else 0
  rw[p2,he,<-ih]
  show((oE E P W k).set ((pi:Int)).toNat ((oE E P W k).getD ((pi:Int)).toNat 0+1)).getD i 0=_
  rw[Int.toNat_natCast,List.getD_eq_getElem?_getD,List.getElem?_set]
  by_cases q:pi=i
  .subst q
   rw[if_pos rfl,if_pos (by rw[vY];exact p0),if_pos p1];rfl
  rw[if_neg q,<-List.getD_eq_getElem?_getD,if_neg fun z=>q (hP.uq pi i p0 hi _ p1 z)]
  omega
theorem Ir {fs:List Int}(h:∀i,i<P.length->fs.getD i 0=jE E W (P.getD i ([],[])).1 W.length):∀ {k:Nat},k<=P.length->zf P fs k=RZ E P W k
 |0,_=>rfl
 |k+1,hk=>by
  show zf P fs k++_=RZ E P W k++_
  rw[Ir h (by omega),h k (by omega)]
theorem KM (h:(bT n E V L T).2=0):(cK n E V L T).1=CT E V L T:=by
 obtain⟨hp,hT,_⟩:=fN h
 have hw:(aa n E V L T).2=0:=by rw[dm];exact h
 obtain⟨_,_,hW⟩:=bS hw
 unfold cK CT
 rw[if_neg (by rw[hw];exact fun q=>q rfl),tc hp,gq h]
 exact Ir (fun i hi=>Iq hp (fo hp) hW hi (Nat.le_refl _)) (Nat.le_refl _)
theorem td:fW n E V L T=if(bT n E V L T).2≠0 then(bT n E V L T).2 else if vq n E V L T=true then 0 else 6:=by
 unfold fW
 rw[vZ]
 by_cases h:(bT n E V L T).2=0
 .rw[if_neg (c:=(bT n E V L T).2≠0) (fun q=>q h),if_neg (c:=(bT n E V L T).2≠0) (fun q=>q h),KM h]
  by_cases q:∀x∈CT E V L T,x=0
  .rw[if_pos (by rw[List.all_eq_true];exact fun x hx=>decide_eq_true (q x hx)),if_pos (c:=vq n E V L T=true) (decide_eq_true (show Og n E V L T from⟨h,q⟩))]
  rw[if_neg (by rw[List.all_eq_true];exact fun z=>q fun x hx=>of_decide_eq_true (z x hx)),if_neg (c:=vq n E V L T=true) fun z=>q (of_decide_eq_true (p:=Og n E V L T) z).2]
 rw[if_pos (c:=(bT n E V L T).2≠0) h,if_pos (c:=(bT n E V L T).2≠0) h]
end
end Go.Proofs.YtnfdimfepbbbpaaGreat
